/- What calls of the Go functions come to. -/
import Derived.Test.YtangebngeeamoaaW4
set_option linter.unusedVariables false
set_option linter.unusedSimpArgs false
set_option maxRecDepth 100000
set_option maxHeartbeats 4000000
namespace Go.Proofs.Ytangebngeeamoaa
open Go.RowKit Go.Pod
theorem ok_slices_Clone_Act {M : Nat → Prop} {w0 : World} {u0 : List TAct} {A0_0 : Option Addr} {c0_0 : Nat} {o : (List TAct)} (hS : St M w0 [] [] [fSl k_TAct A0_0 c0_0 u0] w0) (h : slices_Clone_Act u0 = some o) :
    Calls Try.prog 70 #[.slice A0_0 ((u0).length) c0_0] w0 fun e W' => ∃ v, e = .returned v ∧ (∃ (A8 : Option Addr) (c9 : Nat), v = .slice A8 ((o).length) c9 ∧ St M w0 [] [⟨k_TAct, 94, A8, c9, o⟩] [] W') := by
  unfold slices_Clone_Act at h
  refine calls_start (args := [.slice A0_0 ((u0).length) c0_0]) Try.func70 rfl rfl (Nat.le_of_ble_eq_true rfl) (fun a hF => ?_)
  refine wp_seq ?_
  refine wp_reg ?_
  refine sq_val (v_assign hF rfl) hF (by decide) (fun a hF => ?_)
  refine sq_nil ?_
  refine then_n ?_
  refine wp_seq ?_
  refine wp_seq ?_
  refine wp_reg ?_
  refine sq_val (v_move hF rfl) hF (by decide) (fun a hF => ?_)
  refine sq_val (v_eqNil hF rfl rfl pu38) hF (by decide) (fun a hF => ?_)
  refine sq_nil ?_
  refine then_n ?_
  refine wp_if hF rfl (fun he1 => ?_) (fun he1 => ?_)
  ·
   have hz := nilEmpty (hS.fc (i := 0) rfl) he1
   replace h : some [] = some o := by
     rw [hz] at h
     simpa [app] using h
   refine wp_seq ?_
   refine wp_reg ?_
   refine sq_val (v_assign hF rfl) hF (by decide) (fun a hF => ?_)
   refine sq_nil ?_
   refine then_n ?_
   refine wp_ret ?_
   refine then_r ?_
   have hS := hS.addNil k_TAct 94
   obtain rfl := Option.some.inj h
   exact ret1 hF rfl (rv_tmp hF rfl) ⟨_, rfl, none, 0, rfl, (hS.keep (List.Sublist.refl _) (List.Sublist.refl _) trivial)⟩
  ·
   refine wp_skip ?_
   refine then_n ?_
   refine wp_seq ?_
   refine wp_reg ?_
   refine sq_buildSlice (κ := k_TAct) (xs := []) (ys := ([] : List TAct)) hF hS rfl rfl rfl (Els.nil _ _ _) rfl psl38 pz94 rfl (by decide) (by decide) (by decide) (fun A2 c3 a W hF hS => ?_)
   refine sq_val (v_move hF rfl) hF (by decide) (fun a hF => ?_)
   obtain ⟨x6, hx7, h⟩ := bindS h
   refine sq_append (ys := u0) hF hS (i := 0) rfl rfl rfl (SlR.src (hS.fc (i := 0) rfl)) psl38 pb94 pz94 rfl (by decide) (by decide) hx7 (by decide) (fun A4 c5 a W hF hS => ?_)
   refine sq_val (v_assign hF rfl) hF (by decide) (fun a hF => ?_)
   refine sq_nil ?_
   refine then_n ?_
   refine wp_ret ?_
   obtain rfl := Option.some.inj h
   exact ret1 hF rfl (rv_tmp hF rfl) ⟨_, rfl, A4, c5, rfl, (hS.keep (List.Sublist.refl _) (List.Sublist.refl _) trivial)⟩

theorem ok_slices_Clip_Act {M : Nat → Prop} {w0 : World} {u0 : List TAct} {A0_0 : Option Addr} {c0_0 : Nat} {o : (List TAct)} (hS : St M w0 [] [] [fSl k_TAct A0_0 c0_0 u0] w0) (h : slices_Clip_Act u0 = some o) :
    Calls Try.prog 69 #[.slice A0_0 ((u0).length) c0_0] w0 fun e W' => ∃ v, e = .returned v ∧ (∃ (A1 : Option Addr) (c2 : Nat), v = .slice A1 ((o).length) c2 ∧ St M w0 [] [] [fSl k_TAct A1 c2 o] W') := by
  unfold slices_Clip_Act at h
  refine calls_start (args := [.slice A0_0 ((u0).length) c0_0]) Try.func69 rfl rfl (Nat.le_of_ble_eq_true rfl) (fun a hF => ?_)
  refine wp_seq ?_
  refine wp_reg ?_
  refine sq_val (v_assign hF rfl) hF (by decide) (fun a hF => ?_)
  refine sq_nil ?_
  refine then_n ?_
  refine wp_seq ?_
  refine wp_reg ?_
  refine sq_val (v_move hF rfl) hF (by decide) (fun a hF => ?_)
  refine sq_val (v_move hF rfl) hF (by decide) (fun a hF => ?_)
  refine sq_val (v_len hF rfl pu38) hF (by decide) (fun a hF => ?_)
  refine sq_val (v_move hF rfl) hF (by decide) (fun a hF => ?_)
  refine sq_val (v_len hF rfl pu38) hF (by decide) (fun a hF => ?_)
  refine sq_val (v_clip hF rfl rfl rfl psl38 (hS.fc (i := 0) rfl).1) hF (by decide) (fun a hF => ?_)
  have hS := hS.addFact (f := fSl k_TAct A0_0 (u0).length u0) (SlR.clip (hS.fc (i := 0) rfl))
  refine sq_val (v_assign hF rfl) hF (by decide) (fun a hF => ?_)
  refine sq_nil ?_
  refine then_n ?_
  refine wp_ret ?_
  obtain rfl := Option.some.inj h
  exact ret1 hF rfl (rv_tmp hF rfl) ⟨_, rfl, A0_0, ((u0).length), rfl, (hS.keep (List.Sublist.refl _) (List.Sublist.refl _) ⟨⟨0, rfl⟩, trivial⟩)⟩

theorem ok_region_For (k : Nat) {M : Nat → Prop} {w0 : World} {u0 : List TChange} {A0_0 : Option Addr} {c0_0 : Nat} {u1 : Int} {o : (List TMod)} (hS : St M w0 [] [] [fSl k_TChange A0_0 c0_0 u0] w0) (h : region_For k u0 u1 = some o) :
    Calls Try.prog 48 #[.slice A0_0 ((u0).length) c0_0, .int .i64 (u1)] w0 fun e W' => ∃ v, e = .returned v ∧ (∃ (A54 : Option Addr) (c55 : Nat), v = .slice A54 ((o).length) c55 ∧ St M w0 [] [⟨k_TMod, 40, A54, c55, o⟩] [] W') := by
  unfold region_For at h
  refine calls_start (args := [.slice A0_0 ((u0).length) c0_0, .int .i64 (u1)]) Try.func48 rfl rfl (Nat.le_of_ble_eq_true rfl) (fun a hF => ?_)
  refine wp_seq ?_
  refine wp_reg ?_
  refine sq_val (v_assign hF rfl) hF (by decide) (fun a hF => ?_)
  refine sq_nil ?_
  refine then_n ?_
  refine wp_seq ?_
  refine wp_reg ?_
  refine sq_val (v_assign hF rfl) hF (by decide) (fun a hF => ?_)
  refine sq_nil ?_
  refine then_n ?_
  refine wp_seq ?_
  refine wp_seq ?_
  refine wp_reg ?_
  refine sq_val (v_move hF rfl) hF (by decide) (fun a hF => ?_)
  refine sq_val (v_len hF rfl pu56) hF (by decide) (fun a hF => ?_)
  refine sq_val (v_move hF rfl) hF (by decide) (fun a hF => ?_)
  refine sq_nil ?_
  refine then_n ?_
  obtain ⟨o12, h, hk13⟩ := bindS h
  refine wp_join (fun a W => ∃ (x9 : List TMod) (A10 : Option Addr) (c11 : Nat), x9 = o12 ∧ FH 32 [(5, .slice A10 ((x9).length) c11)] a ∧ St M w0 [] [⟨k_TMod, 40, A10, c11, x9⟩] [] W) (fun a W hJ => ?_) ?_
  ·
   obtain ⟨x9, A10, c11, rfl, hF, hS⟩ := hJ
   have h := hk13
   refine then_n ?_
   refine wp_seq ?_
   refine wp_reg ?_
   refine sq_val (v_move hF rfl) hF (by decide) (fun a hF => ?_)
   refine sq_val (v_assign hF rfl) hF (by decide) (fun a hF => ?_)
   refine sq_nil ?_
   refine then_n ?_
   refine wp_ret ?_
   obtain rfl := Option.some.inj h
   exact ret1 hF rfl (rv_tmp hF rfl) ⟨_, rfl, A10, c11, rfl, hS⟩
  ·
   have hS := hS.addNil k_TMod 40
   refine wp_block ?_
   refine wp_loop_fuel (I := fun m a W => ∃ (x5 : List TMod) (x8 : Int) (A6 : Option Addr) (c7 : Nat), FH 32 [(1, .int .i64 (u1)), (5, .slice A6 ((x5).length) c7), (9, .slice A0_0 ((u0).length) c0_0), (10, .int .i64 ((u0.length : Int))), (11, .int .i64 (x8))] a ∧ St M w0 [] [⟨k_TMod, 40, A6, c7, x5⟩] [fSl k_TChange A0_0 c0_0 u0] W ∧ (region_For.l0 k u0 u1 m x5 x8) = some o12) ?_ (k := k) ⟨([]), 0, none, 0, (hF.keep ⟨rfl, rfl, rfl, rfl, rfl, trivial⟩), hS, h⟩
   rintro m14 a W ⟨x5, x8, A6, c7, hF, hS, h⟩
   cases m14 with
   | zero => cases h
   | succ m14 =>
    rw [region_For.l0] at h
    refine wp_seq ?_
    refine wp_reg ?_
    refine sq_val (v_lss hF rfl rfl) hF (by decide) (fun a hF => ?_)
    refine sq_nil ?_
    refine then_n ?_
    refine wp_seq ?_
    refine wp_if hF rfl (fun he15 => ?_) (fun he15 => ?_)
    ·
     replace h := ifT he15 h
     refine wp_skip ?_
     refine then_n ?_
     refine wp_seq ?_
     obtain ⟨o19, h, hk20⟩ := bindS h
     refine wp_join (fun a W => ∃ (x16 : List TMod) (A17 : Option Addr) (c18 : Nat), x16 = o19 ∧ FH 32 [(1, .int .i64 (u1)), (5, .slice A17 ((x16).length) c18), (9, .slice A0_0 ((u0).length) c0_0), (10, .int .i64 ((u0.length : Int))), (11, .int .i64 (x8))] a ∧ St M w0 [] [⟨k_TMod, 40, A17, c18, x16⟩] [fSl k_TChange A0_0 c0_0 u0] W) (fun a W hJ => ?_) ?_
     ·
      obtain ⟨x16, A17, c18, rfl, hF, hS⟩ := hJ
      have h := hk20
      refine then_n ?_
      refine wp_reg ?_
      refine sq_val (v_add hF rfl rfl) hF (by decide) (fun a hF => ?_)
      refine sq_val (v_move hF rfl) hF (by decide) (fun a hF => ?_)
      refine sq_nil ?_
      exact then_j ⟨m14, Nat.lt_succ_self _, x16, (IntKind.i64.wrap (x8 + 1)), A17, c18, (hF.keep ⟨rfl, rfl, rfl, rfl, rfl, trivial⟩), hS, h⟩
     ·
      refine wp_block ?_
      refine wp_seq ?_
      refine wp_reg ?_
      obtain ⟨x21, hx22, h⟩ := bindS h
      obtain ⟨p23, cs24, hA25, hat26⟩ := SlR.at (hS.fc (i := 0) rfl) hx22
      obtain ⟨A27, c28, rfl, hs29⟩ := hat26.2.2.2
      have hS := hS.addFact (f := fAt k_TChange (p23.add (x8.toNat * 32)) (TChange.enc x21 A27 c28) x21) hat26
      have hS := hS.addFact (f := fSl k_TAct A27 c28 x21.Mod.Acts) hs29
      refine sq_val (v_idx hF rfl hA25 rfl psl56 hx22) hF (by decide) (fun a hF => ?_)
      refine sq_val (v_load (cs := TChange.enc x21 A27 c28) hF rfl pa60 ps60 (hS.pc (i := 1) rfl)) hF (by decide) (fun a hF => ?_)
      refine sq_alloc hF hS pz60 rfl (by decide) (fun b30 a W hF hS => ?_)
      refine sq_store (o := 0) (vs := TChange.enc x21 A27 c28) (cs' := TChange.enc x21 A27 c28) hF hS rfl rfl (i := 0) rfl rfl rfl ps60 (TChange.enc_one _ _ _) (Nat.le_of_ble_eq_true rfl) rfl (fun W hS => ?_)
      refine sq_nil ?_
      refine then_n ?_
      refine wp_seq ?_
      refine wp_reg ?_
      refine sq_val (v_fieldAddr hF rfl pf60_0) hF (by decide) (fun a hF => ?_)
      refine sq_val (v_load1 hF rfl pa3 (cells_sub (vs := [.int .i64 (x21.Unit)]) (hS.bc (i := 0) rfl) rfl rfl)) hF (by decide) (fun a hF => ?_)
      refine sq_val (v_move hF rfl) hF (by decide) (fun a hF => ?_)
      refine sq_val (v_eql hF rfl rfl) hF (by decide) (fun a hF => ?_)
      refine sq_nil ?_
      refine then_n ?_
      obtain ⟨o34, h, hk35⟩ := bindS h
      refine wp_join (fun a W => ∃ (x31 : List TMod) (A32 : Option Addr) (c33 : Nat), x31 = o34 ∧ FH 32 [(1, .int .i64 (u1)), (5, .slice A32 ((x31).length) c33), (9, .slice A0_0 ((u0).length) c0_0), (10, .int .i64 ((u0.length : Int))), (11, .int .i64 (x8))] a ∧ St M w0 [] [⟨k_TMod, 40, A32, c33, x31⟩] [fSl k_TChange A0_0 c0_0 u0] W) (fun a W hJ => ?_) ?_
      ·
       obtain ⟨x31, A32, c33, rfl, hF, hS⟩ := hJ
       have h := hk35
       refine blk_n ?_
       obtain rfl := Option.some.inj h
       exact then_j ⟨x31, A32, c33, rfl, (hF.keep ⟨rfl, rfl, rfl, rfl, rfl, trivial⟩), hS⟩
      ·
       refine wp_if hF rfl (fun he36 => ?_) (fun he36 => ?_)
       ·
        replace h := ifT he36 h
        refine wp_seq ?_
        refine wp_reg ?_
        refine sq_val (v_fieldAddr hF rfl pf60_1) hF (by decide) (fun a hF => ?_)
        refine sq_val (v_load (cs := TMod.enc x21.Mod A27 c28) hF rfl pa40 ps40 (cells_sub (vs := TMod.enc x21.Mod A27 c28) (hS.bc (i := 0) rfl) rfl rfl)) hF (by decide) (fun a hF => ?_)
        refine sq_alloc hF hS pz40 rfl (by decide) (fun b37 a W hF hS => ?_)
        refine sq_store (o := 0) (vs := TMod.enc x21.Mod A27 c28) (cs' := TMod.enc x21.Mod A27 c28) hF hS rfl rfl (i := 0) rfl rfl rfl ps40 (TMod.enc_one _ _ _) (Nat.le_of_ble_eq_true rfl) rfl (fun W hS => ?_)
        refine sq_nil ?_
        refine then_n ?_
        refine wp_seq ?_
        refine wp_reg ?_
        refine sq_val (v_fieldAddr hF rfl pf40_3) hF (by decide) (fun a hF => ?_)
        refine sq_val (v_load1 hF rfl pa38 (cells_sub (vs := [.slice A27 ((x21.Mod.Acts).length) c28]) (hS.bc (i := 0) rfl) rfl rfl)) hF (by decide) (fun a hF => ?_)
        obtain ⟨x38, hx39, h⟩ := bindS h
        refine sq_call hF pc70 rfl (by decide) (ok_slices_Clone_Act (hS.enter ⟨⟨0, rfl⟩, trivial⟩) hx39) (fun v W hR a hF => ?_)
        obtain ⟨A40, c41, rfl, hT42⟩ := hR
        have hS := hS.join hT42
        have hS := hS.freeze (i := 0) rfl (posB rfl)
        obtain ⟨x43, hx44, h⟩ := bindS h
        refine sq_call hF pc69 rfl (by decide) (ok_slices_Clip_Act (hS.enter ⟨⟨0, rfl⟩, trivial⟩) hx44) (fun v W hR a hF => ?_)
        obtain ⟨A45, c46, rfl, hT47⟩ := hR
        have hS := hS.join hT47
        refine sq_val (v_fieldAddr hF rfl pf40_3) hF (by decide) (fun a hF => ?_)
        refine sq_store (o := 26) (vs := [.slice A45 ((x43).length) c46]) (cs' := TMod.enc (TMod.setActs x21.Mod x43) A45 c46) hF hS rfl rfl (i := 0) rfl rfl rfl ps38 (one1 rfl) (Nat.le_of_ble_eq_true rfl) rfl (fun W hS => ?_)
        refine sq_nil ?_
        refine then_n ?_
        refine wp_reg ?_
        refine sq_val (v_move hF rfl) hF (by decide) (fun a hF => ?_)
        refine sq_val (v_load (cs := TMod.enc (TMod.setActs x21.Mod x43) A45 c46) hF rfl pa40 ps40 (hS.bc (i := 0) rfl)) hF (by decide) (fun a hF => ?_)
        refine sq_buildSlice (κ := k_TMod) (xs := [.tmp 27]) (ys := [(TMod.setActs x21.Mod x43)]) hF hS rfl rfl rfl (Els.cons ⟨A45, c46, rfl, (hS.fc (i := 0) rfl)⟩ (Els.nil _ _ _)) rfl psl48 pz40 rfl (by decide) (by decide) (by decide) (fun A48 c49 a W hF hS => ?_)
        obtain ⟨x52, hx53, h⟩ := bindS h
        refine sq_append (ys := ([(TMod.setActs x21.Mod x43)])) hF hS (i := 1) rfl rfl rfl (hS.rw_ (i := 0) rfl).src psl48 pb40 pz40 rfl (by decide) (by decide) hx53 (by decide) (fun A50 c51 a W hF hS => ?_)
        refine sq_val (v_assign hF rfl) hF (by decide) (fun a hF => ?_)
        refine sq_nil ?_
        obtain rfl := Option.some.inj h
        exact then_j ⟨x52, A50, c51, rfl, (hF.keep ⟨rfl, rfl, rfl, rfl, rfl, trivial⟩), (hS.keep (List.nil_sublist _) (.cons _ (List.Sublist.refl _)) ⟨⟨4, rfl⟩, trivial⟩)⟩
       ·
        replace h := ifF he36 h
        refine wp_skip ?_
        obtain rfl := Option.some.inj h
        exact then_j ⟨x5, A6, c7, rfl, (hF.keep ⟨rfl, rfl, rfl, rfl, rfl, trivial⟩), (hS.keep (List.nil_sublist _) (List.Sublist.refl _) ⟨⟨2, rfl⟩, trivial⟩)⟩
    ·
     replace h := ifF he15 h
     refine wp_exit ?_
     refine then_x ?_
     refine then_x ?_
     refine blk_hit ?_
     obtain rfl := Option.some.inj h
     exact then_j ⟨x5, A6, c7, rfl, (hF.keep ⟨rfl, trivial⟩), (hS.keep (List.Sublist.refl _) (List.Sublist.refl _) trivial)⟩

theorem ok_ref19_For (k : Nat) {M : Nat → Prop} {w0 : World} {u0 : List TChange} {A0_0 : Option Addr} {c0_0 : Nat} {u1 : Int} {o : (List TMod)} (hS : St M w0 [] [] [fSl k_TChange A0_0 c0_0 u0] w0) (h : ref19_For k u0 u1 = some o) :
    Calls Try.prog 49 #[.slice A0_0 ((u0).length) c0_0, .int .i64 (u1)] w0 fun e W' => ∃ v, e = .returned v ∧ (∃ (A49 : Option Addr) (c50 : Nat), v = .slice A49 ((o).length) c50 ∧ St M w0 [] [⟨k_TMod, 40, A49, c50, o⟩] [] W') := by
  unfold ref19_For at h
  refine calls_start (args := [.slice A0_0 ((u0).length) c0_0, .int .i64 (u1)]) Try.func49 rfl rfl (Nat.le_of_ble_eq_true rfl) (fun a hF => ?_)
  refine wp_seq ?_
  refine wp_reg ?_
  refine sq_val (v_assign hF rfl) hF (by decide) (fun a hF => ?_)
  refine sq_nil ?_
  refine then_n ?_
  refine wp_seq ?_
  refine wp_reg ?_
  refine sq_val (v_assign hF rfl) hF (by decide) (fun a hF => ?_)
  refine sq_nil ?_
  refine then_n ?_
  refine wp_seq ?_
  refine wp_seq ?_
  refine wp_reg ?_
  refine sq_val (v_assign hF rfl) hF (by decide) (fun a hF => ?_)
  refine sq_nil ?_
  refine then_n ?_
  obtain ⟨o12, h, hk13⟩ := bindS h
  refine wp_join (fun a W => ∃ (x9 : List TMod) (A10 : Option Addr) (c11 : Nat), x9 = o12 ∧ FH 29 [(5, .slice A10 ((x9).length) c11)] a ∧ St M w0 [] [⟨k_TMod, 40, A10, c11, x9⟩] [] W) (fun a W hJ => ?_) ?_
  ·
   obtain ⟨x9, A10, c11, rfl, hF, hS⟩ := hJ
   have h := hk13
   refine then_n ?_
   refine wp_seq ?_
   refine wp_reg ?_
   refine sq_val (v_move hF rfl) hF (by decide) (fun a hF => ?_)
   refine sq_val (v_assign hF rfl) hF (by decide) (fun a hF => ?_)
   refine sq_nil ?_
   refine then_n ?_
   refine wp_ret ?_
   obtain rfl := Option.some.inj h
   exact ret1 hF rfl (rv_tmp hF rfl) ⟨_, rfl, A10, c11, rfl, hS⟩
  ·
   have hS := hS.addNil k_TMod 40
   refine wp_block ?_
   refine wp_loop_fuel (I := fun m a W => ∃ (x5 : List TMod) (x8 : Int) (A6 : Option Addr) (c7 : Nat), FH 29 [(0, .slice A0_0 ((u0).length) c0_0), (1, .int .i64 (u1)), (5, .slice A6 ((x5).length) c7), (6, .int .i64 (x8))] a ∧ St M w0 [] [⟨k_TMod, 40, A6, c7, x5⟩] [fSl k_TChange A0_0 c0_0 u0] W ∧ (ref19_For.l0 k u0 u1 m x5 x8) = some o12) ?_ (k := k) ⟨([]), 0, none, 0, (hF.keep ⟨rfl, rfl, rfl, rfl, trivial⟩), hS, h⟩
   rintro m14 a W ⟨x5, x8, A6, c7, hF, hS, h⟩
   cases m14 with
   | zero => cases h
   | succ m14 =>
    rw [ref19_For.l0] at h
    refine wp_seq ?_
    refine wp_seq ?_
    refine wp_reg ?_
    refine sq_val (v_move hF rfl) hF (by decide) (fun a hF => ?_)
    refine sq_val (v_move hF rfl) hF (by decide) (fun a hF => ?_)
    refine sq_val (v_len hF rfl pu56) hF (by decide) (fun a hF => ?_)
    refine sq_val (v_lss hF rfl rfl) hF (by decide) (fun a hF => ?_)
    refine sq_nil ?_
    refine then_n ?_
    refine wp_if hF rfl (fun he15 => ?_) (fun he15 => ?_)
    ·
     replace h := ifT he15 h
     refine wp_skip ?_
     refine then_n ?_
     refine wp_seq ?_
     obtain ⟨o19, h, hk20⟩ := bindS h
     refine wp_join (fun a W => ∃ (x16 : List TMod) (A17 : Option Addr) (c18 : Nat), x16 = o19 ∧ FH 29 [(0, .slice A0_0 ((u0).length) c0_0), (1, .int .i64 (u1)), (5, .slice A17 ((x16).length) c18), (6, .int .i64 (x8))] a ∧ St M w0 [] [⟨k_TMod, 40, A17, c18, x16⟩] [fSl k_TChange A0_0 c0_0 u0] W) (fun a W hJ => ?_) ?_
     ·
      obtain ⟨x16, A17, c18, rfl, hF, hS⟩ := hJ
      have h := hk20
      refine then_n ?_
      refine wp_reg ?_
      refine sq_val (v_move hF rfl) hF (by decide) (fun a hF => ?_)
      refine sq_val (v_add hF rfl rfl) hF (by decide) (fun a hF => ?_)
      refine sq_val (v_assign hF rfl) hF (by decide) (fun a hF => ?_)
      refine sq_nil ?_
      exact then_j ⟨m14, Nat.lt_succ_self _, x16, (IntKind.i64.wrap (x8 + 1)), A17, c18, (hF.keep ⟨rfl, rfl, rfl, rfl, trivial⟩), hS, h⟩
     ·
      refine wp_block ?_
      refine wp_seq ?_
      refine wp_reg ?_
      refine sq_val (v_move hF rfl) hF (by decide) (fun a hF => ?_)
      refine sq_val (v_move hF rfl) hF (by decide) (fun a hF => ?_)
      obtain ⟨x21, hx22, h⟩ := bindS h
      obtain ⟨p23, cs24, hA25, hat26⟩ := SlR.at (hS.fc (i := 0) rfl) hx22
      obtain ⟨A27, c28, rfl, hs29⟩ := hat26.2.2.2
      have hS := hS.addFact (f := fAt k_TChange (p23.add (x8.toNat * 32)) (TChange.enc x21 A27 c28) x21) hat26
      have hS := hS.addFact (f := fSl k_TAct A27 c28 x21.Mod.Acts) hs29
      refine sq_val (v_idx hF rfl hA25 rfl psl56 hx22) hF (by decide) (fun a hF => ?_)
      refine sq_val (v_fieldAddr hF rfl pf60_0) hF (by decide) (fun a hF => ?_)
      refine sq_val (v_load1 hF rfl pa3 (cells_sub (vs := [.int .i64 (x21.Unit)]) (hS.pc (i := 1) rfl) rfl rfl)) hF (by decide) (fun a hF => ?_)
      refine sq_val (v_move hF rfl) hF (by decide) (fun a hF => ?_)
      refine sq_val (v_eql hF rfl rfl) hF (by decide) (fun a hF => ?_)
      refine sq_nil ?_
      refine then_n ?_
      obtain ⟨o33, h, hk34⟩ := bindS h
      refine wp_join (fun a W => ∃ (x30 : List TMod) (A31 : Option Addr) (c32 : Nat), x30 = o33 ∧ FH 29 [(0, .slice A0_0 ((u0).length) c0_0), (1, .int .i64 (u1)), (5, .slice A31 ((x30).length) c32), (6, .int .i64 (x8))] a ∧ St M w0 [] [⟨k_TMod, 40, A31, c32, x30⟩] [fSl k_TChange A0_0 c0_0 u0] W) (fun a W hJ => ?_) ?_
      ·
       obtain ⟨x30, A31, c32, rfl, hF, hS⟩ := hJ
       have h := hk34
       refine blk_n ?_
       obtain rfl := Option.some.inj h
       exact then_j ⟨x30, A31, c32, rfl, (hF.keep ⟨rfl, rfl, rfl, rfl, trivial⟩), hS⟩
      ·
       refine wp_if hF rfl (fun he35 => ?_) (fun he35 => ?_)
       ·
        replace h := ifT he35 h
        refine wp_reg ?_
        refine sq_val (v_move hF rfl) hF (by decide) (fun a hF => ?_)
        refine sq_val (v_move hF rfl) hF (by decide) (fun a hF => ?_)
        refine sq_val (v_move hF rfl) hF (by decide) (fun a hF => ?_)
        obtain ⟨p36, cs37, hA38, hat39⟩ := SlR.at (hS.fc (i := 2) rfl) hx22
        obtain ⟨A40, c41, rfl, hs42⟩ := hat39.2.2.2
        have hS := hS.addFact (f := fAt k_TChange (p36.add (x8.toNat * 32)) (TChange.enc x21 A40 c41) x21) hat39
        have hS := hS.addFact (f := fSl k_TAct A40 c41 x21.Mod.Acts) hs42
        refine sq_val (v_idx hF rfl hA38 rfl psl56 hx22) hF (by decide) (fun a hF => ?_)
        refine sq_val (v_fieldAddr hF rfl pf60_1) hF (by decide) (fun a hF => ?_)
        refine sq_val (v_load (cs := TMod.enc x21.Mod A40 c41) hF rfl pa40 ps40 (cells_sub (vs := TMod.enc x21.Mod A40 c41) (hS.pc (i := 1) rfl) rfl rfl)) hF (by decide) (fun a hF => ?_)
        refine sq_buildSlice (κ := k_TMod) (xs := [.tmp 25]) (ys := [x21.Mod]) hF hS rfl rfl rfl (Els.cons ⟨A40, c41, rfl, (hS.fc (i := 0) rfl)⟩ (Els.nil _ _ _)) rfl psl48 pz40 rfl (by decide) (by decide) (by decide) (fun A43 c44 a W hF hS => ?_)
        obtain ⟨x47, hx48, h⟩ := bindS h
        refine sq_append (ys := ([x21.Mod])) hF hS (i := 1) rfl rfl rfl (hS.rw_ (i := 0) rfl).src psl48 pb40 pz40 rfl (by decide) (by decide) hx48 (by decide) (fun A45 c46 a W hF hS => ?_)
        refine sq_val (v_assign hF rfl) hF (by decide) (fun a hF => ?_)
        refine sq_nil ?_
        obtain rfl := Option.some.inj h
        exact then_j ⟨x47, A45, c46, rfl, (hF.keep ⟨rfl, rfl, rfl, rfl, trivial⟩), (hS.keep (List.Sublist.refl _) (.cons _ (List.Sublist.refl _)) ⟨⟨4, rfl⟩, trivial⟩)⟩
       ·
        replace h := ifF he35 h
        refine wp_skip ?_
        obtain rfl := Option.some.inj h
        exact then_j ⟨x5, A6, c7, rfl, (hF.keep ⟨rfl, rfl, rfl, rfl, trivial⟩), (hS.keep (List.Sublist.refl _) (List.Sublist.refl _) ⟨⟨2, rfl⟩, trivial⟩)⟩
    ·
     replace h := ifF he15 h
     refine wp_exit ?_
     refine then_x ?_
     refine then_x ?_
     refine blk_hit ?_
     obtain rfl := Option.some.inj h
     exact then_j ⟨x5, A6, c7, rfl, (hF.keep ⟨rfl, trivial⟩), (hS.keep (List.Sublist.refl _) (List.Sublist.refl _) trivial)⟩

theorem len_slices_Sort_int {u0 o : List Int} (h : slices_Sort_int u0 = some o) : o.length = u0.length := sortI_len h
theorem ok_slices_Sort_int {M : Nat → Prop} {w0 : World} {bs : List Box} {rs : List Row} {fs : List Fact} {W0 : World} {u0 : List Int} {A0_0 : Option Addr} {c0_0 : Nat} {o : List Int} (hS : St M w0 bs (⟨(kInt .i64), 3, A0_0, c0_0, u0⟩ :: rs) fs W0) (h : slices_Sort_int u0 = some o) :
    Calls Try.prog 105 #[.slice A0_0 (u0).length c0_0] W0 fun e W' => ∃ v, e = .returned v ∧ (v = .tuple #[] ∧ St M w0 bs (⟨(kInt .i64), 3, A0_0, c0_0, o⟩ :: rs) fs W') :=
  sortI_ok (ρ := Try.sortInt_ren) Try.sortInt hS h

theorem ok_slices_Compact_int (k : Nat) {M : Nat → Prop} {w0 : World} {bs : List Box} {rs : List Row} {fs : List Fact} {W0 : World} {u0 : List Int} {A0_0 : Option Addr} {c0_0 : Nat} {o : List Int} (hS : St M w0 (bs) (⟨(kInt .i64), 3, A0_0, c0_0, u0⟩ :: rs) (fs) W0) (h : slices_Compact_int k u0 = some o) :
    Calls Try.prog 107 #[.slice A0_0 ((u0).length) c0_0] W0 fun e W' => ∃ v, e = .returned v ∧ (∃ (A81 : Option Addr) (c82 : Nat), v = .slice A81 ((o).length) c82 ∧ St M w0 (bs) (⟨(kInt .i64), 3, A81, c82, o⟩ :: rs) (fs) W') := by
  unfold slices_Compact_int at h
  refine calls_start (args := [.slice A0_0 ((u0).length) c0_0]) Try.func107 rfl rfl (Nat.le_of_ble_eq_true rfl) (fun a hF => ?_)
  refine wp_seq ?_
  refine wp_reg ?_
  refine sq_val (v_assign hF rfl) hF (by decide) (fun a hF => ?_)
  refine sq_nil ?_
  refine then_n ?_
  refine wp_seq ?_
  refine wp_seq ?_
  refine wp_reg ?_
  refine sq_val (v_move hF rfl) hF (by decide) (fun a hF => ?_)
  refine sq_val (v_len hF rfl pu76) hF (by decide) (fun a hF => ?_)
  refine sq_val (v_lss hF rfl rfl) hF (by decide) (fun a hF => ?_)
  refine sq_nil ?_
  refine then_n ?_
  refine wp_if hF rfl (fun he1 => ?_) (fun he1 => ?_)
  ·
   replace h := ifT he1 h
   refine wp_seq ?_
   refine wp_reg ?_
   refine sq_val (v_move hF rfl) hF (by decide) (fun a hF => ?_)
   refine sq_val (v_assign hF rfl) hF (by decide) (fun a hF => ?_)
   refine sq_nil ?_
   refine then_n ?_
   refine wp_ret ?_
   refine then_r ?_
   obtain rfl := Option.some.inj h
   exact ret1 hF rfl (rv_tmp hF rfl) ⟨_, rfl, A0_0, c0_0, rfl, hS⟩
  ·
   replace h := ifF he1 h
   refine wp_skip ?_
   refine then_n ?_
   refine wp_seq ?_
   refine wp_seq ?_
   refine wp_reg ?_
   refine sq_val (v_assign hF rfl) hF (by decide) (fun a hF => ?_)
   refine sq_nil ?_
   refine then_n ?_
   obtain ⟨o4, h, hk5⟩ := bindS h
   refine wp_join (fun a W => Lo.brk () = o4 ∧ FH 61 [(0, .slice A0_0 ((u0).length) c0_0)] a ∧ St M w0 (bs) (⟨(kInt .i64), 3, A0_0, c0_0, u0⟩ :: rs) (fs) W) (fun a W hJ => ?_) ?_
   ·
    obtain ⟨rfl, hF, hS⟩ := hJ
    have h := hk5
    dsimp only at h
    refine then_n ?_
    refine wp_seq ?_
    refine wp_reg ?_
    refine sq_val (v_move hF rfl) hF (by decide) (fun a hF => ?_)
    refine sq_val (v_assign hF rfl) hF (by decide) (fun a hF => ?_)
    refine sq_nil ?_
    refine then_n ?_
    refine wp_ret ?_
    obtain rfl := Option.some.inj h
    exact ret1 hF rfl (rv_tmp hF rfl) ⟨_, rfl, A0_0, c0_0, rfl, hS⟩
   ·
    refine wp_block ?_
    refine wp_loop_fuel (I := fun m a W => ∃ (x3 : Int), FH 61 [(0, .slice A0_0 ((u0).length) c0_0), (3, .int .i64 (x3))] a ∧ St M w0 (bs) (⟨(kInt .i64), 3, A0_0, c0_0, u0⟩ :: rs) (fs) W ∧ (slices_Compact_int.l0 k u0 m x3) = some o4) ?_ (k := k) ⟨1, (hF.keep ⟨rfl, rfl, trivial⟩), hS, h⟩
    rintro m6 a W ⟨x3, hF, hS, h⟩
    cases m6 with
    | zero => cases h
    | succ m6 =>
     rw [slices_Compact_int.l0] at h
     refine wp_seq ?_
     refine wp_seq ?_
     refine wp_reg ?_
     refine sq_val (v_move hF rfl) hF (by decide) (fun a hF => ?_)
     refine sq_val (v_move hF rfl) hF (by decide) (fun a hF => ?_)
     refine sq_val (v_len hF rfl pu76) hF (by decide) (fun a hF => ?_)
     refine sq_val (v_lss hF rfl rfl) hF (by decide) (fun a hF => ?_)
     refine sq_nil ?_
     refine then_n ?_
     refine wp_if hF rfl (fun he7 => ?_) (fun he7 => ?_)
     ·
      replace h := ifT he7 h
      refine wp_skip ?_
      refine then_n ?_
      refine wp_seq ?_
      refine wp_block ?_
      refine wp_seq ?_
      refine wp_quiet rfl (by kernel_rfl) hS ?_
      refine qt_val (fun W hC => (v_move hF rfl)) hF (by decide) (fun a hF => ?_)
      refine qt_val (fun W hC => (v_move hF rfl)) hF (by decide) (fun a hF => ?_)
      obtain ⟨x8, hx9, h⟩ := bindS h
      obtain ⟨p10, cs11, hA12, hc14, hr15⟩ := Row.ok.at (hS.rw_ (i := 0) rfl) hx9
      obtain rfl : cs11 = [.int .i64 (x8)] := hr15
      refine qt_val (fun W hC => (v_idx hF rfl hA12 rfl psl76 hx9)) hF (by decide) (fun a hF => ?_)
      refine qt_val (fun W hC => (v_load1 hF rfl pa3 (hc14.grow hC.1))) hF (by decide) (fun a hF => ?_)
      refine qt_val (fun W hC => (v_move hF rfl)) hF (by decide) (fun a hF => ?_)
      refine qt_val (fun W hC => (v_move hF rfl)) hF (by decide) (fun a hF => ?_)
      refine qt_val (fun W hC => (v_sub hF rfl rfl)) hF (by decide) (fun a hF => ?_)
      obtain ⟨x16, hx17, h⟩ := bindS h
      obtain ⟨p18, cs19, hA20, hc22, hr23⟩ := Row.ok.at (hS.rw_ (i := 0) rfl) hx17
      obtain rfl : cs19 = [.int .i64 (x16)] := hr23
      refine qt_val (fun W hC => (v_idx hF rfl hA20 rfl psl76 hx17)) hF (by decide) (fun a hF => ?_)
      refine qt_val (fun W hC => (v_load1 hF rfl pa3 (hc22.grow hC.1))) hF (by decide) (fun a hF => ?_)
      refine qt_val (fun W hC => (v_eql hF rfl rfl)) hF (by decide) (fun a hF => ?_)
      refine qt_nil ?_
      intro W hC
      have hS := hC.2
      refine then_n ?_
      refine wp_if hF rfl (fun he24 => ?_) (fun he24 => ?_)
      ·
       replace h := ifT he24 h
       refine wp_seq ?_
       refine wp_reg ?_
       refine sq_val (v_move hF rfl) hF (by decide) (fun a hF => ?_)
       refine sq_val (v_move hF rfl) hF (by decide) (fun a hF => ?_)
       obtain ⟨hb25, h⟩ := ifS h
       refine sq_val (v_view (κ := (kInt .i64)) (lo := x3.toNat) (xs := u0) hF rfl rfl psl76 (.inr ⟨_, _, rfl, by omega, rfl⟩) (by omega) (hS.rw_ (i := 0) rfl).cap) hF (by decide) (fun a hF => ?_)
       refine sq_val (v_assign hF rfl) hF (by decide) (fun a hF => ?_)
       refine sq_nil ?_
       refine then_n ?_
       refine wp_seq ?_
       refine wp_seq ?_
       refine wp_reg ?_
       refine sq_val (v_assign hF rfl) hF (by decide) (fun a hF => ?_)
       refine sq_nil ?_
       refine then_n ?_
       obtain ⟨o36, h, hk37⟩ := bindS h
       refine wp_join (fun a W => ∃ (x34 : List Int) (x35 : Int), (x34, x35) = o36 ∧ FH 61 [(0, .slice A0_0 ((x34).length) c0_0), (3, .int .i64 (x35))] a ∧ St M w0 (bs) (⟨(kInt .i64), 3, A0_0, c0_0, x34⟩ :: rs) (fs) W) (fun a W hJ => ?_) ?_
       ·
        obtain ⟨x34, x35, rfl, hF, hS⟩ := hJ
        have h := hk37
        dsimp only at h
        refine then_n ?_
        refine wp_seq ?_
        refine wp_reg ?_
        refine sq_val (v_move hF rfl) hF (by decide) (fun a hF => ?_)
        refine sq_val (v_move hF rfl) hF (by decide) (fun a hF => ?_)
        obtain ⟨hb38, h⟩ := ifS h
        refine sq_val (v_view (κ := (kInt .i64)) (lo := x35.toNat) (xs := x34) hF rfl rfl psl76 (.inr ⟨_, _, rfl, by omega, rfl⟩) (by omega) (hS.rw_ (i := 0) rfl).cap) hF (by decide) (fun a hF => ?_)
        have hcap39 := (hS.rw_ (i := 0) rfl).cap
        refine sq_clearV (lo := x35.toNat) hF hS (i := 0) rfl rfl rfl (by omega) psl76 pz3 rfl (one1 rfl) (posB rfl) (fun W hS => ?_)
        refine sq_nil ?_
        refine then_n ?_
        refine wp_seq ?_
        refine wp_reg ?_
        refine sq_val (v_move hF rfl) hF (by decide) (fun a hF => ?_)
        refine sq_val (v_move hF rfl) hF (by decide) (fun a hF => ?_)
        refine sq_val (v_cutL (κ := (kInt .i64)) (ys := (x34.take x35.toNat)) (k := x35.toNat) hF rfl rfl psl76 (.inr ⟨_, _, rfl, by omega, rfl⟩) (by omega) hcap39 (by rw [List.length_take]; omega)) hF (by decide) (fun a hF => ?_)
        refine sq_val (v_assign hF rfl) hF (by decide) (fun a hF => ?_)
        refine sq_nil ?_
        refine then_n ?_
        refine wp_ret ?_
        refine blk_r ?_
        refine then_r ?_
        refine then_r ?_
        refine blk_r ?_
        refine then_r ?_
        refine then_r ?_
        obtain rfl := Option.some.inj h
        have h := hk5
        dsimp only at h
        obtain rfl := Option.some.inj h
        exact ret1 hF rfl (rv_tmp hF rfl) ⟨_, rfl, A0_0, c0_0, rfl, hS⟩
       ·
        refine wp_block ?_
        refine wp_loop_fuel (I := fun m a W => ∃ (x31 : List Int) (x32 : Int) (x33 : Int), FH 61 [(0, .slice A0_0 ((x31).length) c0_0), (3, .int .i64 (x32)), (4, .slice (vw A0_0 c0_0 x3.toNat 1) (x31.length - x3.toNat) (c0_0 - x3.toNat)), (5, .int .i64 (x33))] a ∧ St M w0 (bs) (⟨(kInt .i64), 3, A0_0, c0_0, x31⟩ :: rs) (fs) W ∧ (slices_Compact_int.l1 k x3 m x31 x32 x33) = some o36) ?_ (k := k) ⟨u0, x3, 1, (hF.keep ⟨rfl, rfl, rfl, rfl, trivial⟩), hS, h⟩
        rintro m40 a W ⟨x31, x32, x33, hF, hS, h⟩
        cases m40 with
        | zero => cases h
        | succ m40 =>
         rw [slices_Compact_int.l1] at h
         refine wp_seq ?_
         refine wp_seq ?_
         refine wp_reg ?_
         refine sq_val (v_move hF rfl) hF (by decide) (fun a hF => ?_)
         refine sq_val (v_move hF rfl) hF (by decide) (fun a hF => ?_)
         refine sq_val (v_len hF rfl pu76) hF (by decide) (fun a hF => ?_)
         refine sq_val (v_lss hF rfl rfl) hF (by decide) (fun a hF => ?_)
         refine sq_nil ?_
         refine then_n ?_
         refine wp_if hF rfl (fun he41 => ?_) (fun he41 => ?_)
         ·
          replace h := ifT he41 h
          refine wp_skip ?_
          refine then_n ?_
          refine wp_seq ?_
          obtain ⟨o44, h, hk45⟩ := bindS h
          refine wp_join (fun a W => ∃ (x42 : List Int) (x43 : Int), (x42, x43) = o44 ∧ FH 61 [(0, .slice A0_0 ((x42).length) c0_0), (3, .int .i64 (x43)), (4, .slice (vw A0_0 c0_0 x3.toNat 1) (x42.length - x3.toNat) (c0_0 - x3.toNat)), (5, .int .i64 (x33))] a ∧ St M w0 (bs) (⟨(kInt .i64), 3, A0_0, c0_0, x42⟩ :: rs) (fs) W) (fun a W hJ => ?_) ?_
          ·
           obtain ⟨x42, x43, rfl, hF, hS⟩ := hJ
           have h := hk45
           dsimp only at h
           refine then_n ?_
           refine wp_reg ?_
           refine sq_val (v_move hF rfl) hF (by decide) (fun a hF => ?_)
           refine sq_val (v_add hF rfl rfl) hF (by decide) (fun a hF => ?_)
           refine sq_val (v_assign hF rfl) hF (by decide) (fun a hF => ?_)
           refine sq_nil ?_
           exact then_j ⟨m40, Nat.lt_succ_self _, x42, x43, (IntKind.i64.wrap (x33 + 1)), (hF.keep ⟨rfl, rfl, rfl, rfl, trivial⟩), hS, h⟩
          ·
           refine wp_block ?_
           refine wp_seq ?_
           refine wp_quiet rfl (by kernel_rfl) hS ?_
           refine qt_val (fun W hC => (v_move hF rfl)) hF (by decide) (fun a hF => ?_)
           refine qt_val (fun W hC => (v_move hF rfl)) hF (by decide) (fun a hF => ?_)
           obtain ⟨x46, hx47, h⟩ := bindS h
           obtain ⟨p48, cs49, hA50, hc52, hr53⟩ := Row.ok.at (hS.rw_ (i := 0) rfl) (idx_drop hx47)
           obtain rfl : cs49 = [.int .i64 (x46)] := hr53
           refine qt_val (fun W hC => (v_idxV hF rfl hA50 rfl psl76 hx47 rfl (hS.rw_ (i := 0) rfl).cap)) hF (by decide) (fun a hF => ?_)
           refine qt_val (fun W hC => (v_load1 hF rfl pa3 (hc52.grow hC.1))) hF (by decide) (fun a hF => ?_)
           refine qt_val (fun W hC => (v_move hF rfl)) hF (by decide) (fun a hF => ?_)
           refine qt_val (fun W hC => (v_move hF rfl)) hF (by decide) (fun a hF => ?_)
           refine qt_val (fun W hC => (v_sub hF rfl rfl)) hF (by decide) (fun a hF => ?_)
           obtain ⟨x54, hx55, h⟩ := bindS h
           obtain ⟨p56, cs57, hA58, hc60, hr61⟩ := Row.ok.at (hS.rw_ (i := 0) rfl) (idx_drop hx55)
           obtain rfl : cs57 = [.int .i64 (x54)] := hr61
           refine qt_val (fun W hC => (v_idxV hF rfl hA58 rfl psl76 hx55 rfl (hS.rw_ (i := 0) rfl).cap)) hF (by decide) (fun a hF => ?_)
           refine qt_val (fun W hC => (v_load1 hF rfl pa3 (hc60.grow hC.1))) hF (by decide) (fun a hF => ?_)
           refine qt_val (fun W hC => (v_neq hF rfl rfl)) hF (by decide) (fun a hF => ?_)
           refine qt_nil ?_
           intro W hC
           have hS := hC.2
           refine then_n ?_
           obtain ⟨o64, h, hk65⟩ := bindS h
           refine wp_join (fun a W => ∃ (x62 : List Int) (x63 : Int), (x62, x63) = o64 ∧ FH 61 [(0, .slice A0_0 ((x62).length) c0_0), (3, .int .i64 (x63)), (4, .slice (vw A0_0 c0_0 x3.toNat 1) (x62.length - x3.toNat) (c0_0 - x3.toNat)), (5, .int .i64 (x33))] a ∧ St M w0 (bs) (⟨(kInt .i64), 3, A0_0, c0_0, x62⟩ :: rs) (fs) W) (fun a W hJ => ?_) ?_
           ·
            obtain ⟨x62, x63, rfl, hF, hS⟩ := hJ
            have h := hk65
            dsimp only at h
            refine blk_n ?_
            obtain rfl := Option.some.inj h
            exact then_j ⟨x62, x63, rfl, (hF.keep ⟨rfl, rfl, rfl, rfl, trivial⟩), hS⟩
           ·
            refine wp_if hF rfl (fun he66 => ?_) (fun he66 => ?_)
            ·
             replace h := ifT he66 h
             refine wp_seq ?_
             refine wp_reg ?_
             refine sq_val (v_move hF rfl) hF (by decide) (fun a hF => ?_)
             refine sq_val (v_move hF rfl) hF (by decide) (fun a hF => ?_)
             refine sq_val (v_move hF rfl) hF (by decide) (fun a hF => ?_)
             refine sq_val (v_move hF rfl) hF (by decide) (fun a hF => ?_)
             obtain ⟨p67, cs68, hA69, hc71, hr72⟩ := Row.ok.at (hS.rw_ (i := 0) rfl) (idx_drop hx47)
             obtain rfl : cs68 = [.int .i64 (x46)] := hr72
             refine sq_val (v_idxV hF rfl hA69 rfl psl76 hx47 rfl (hS.rw_ (i := 0) rfl).cap) hF (by decide) (fun a hF => ?_)
             refine sq_val (v_load1 hF rfl pa3 hc71) hF (by decide) (fun a hF => ?_)
             obtain ⟨x73, hx74, h⟩ := bindS h
             obtain ⟨p75, cs76, hA77, hc79, hr80⟩ := Row.ok.at (hS.rw_ (i := 0) rfl) hx74
             obtain rfl : cs76 = [.int .i64 (x73)] := hr80
             refine sq_val (v_idx hF rfl hA77 rfl psl76 hx74) hF (by decide) (fun a hF => ?_)
             refine sq_storeEl hF hS (i := 0) rfl hA77 rfl hx74 rfl rfl ps3 rfl (fun W hS => ?_)
             have hF : FH 61 [(0, .slice A0_0 (((x31.set x32.toNat x46)).length) c0_0), (3, .int .i64 (x32)), (4, .slice (vw A0_0 c0_0 x3.toNat 1) ((x31.set x32.toNat x46).length - x3.toNat) (c0_0 - x3.toNat)), (5, .int .i64 (x33)), (29, .int .i64 (x33)), (30, .slice (vw A0_0 c0_0 x3.toNat 1) ((x31.set x32.toNat x46).length - x3.toNat) (c0_0 - x3.toNat)), (31, .int .i64 (((x31.length - x3.toNat : Nat) : Int))), (32, .bool ((decide (x33 < ((x31.length - x3.toNat : Nat) : Int))))), (35, .slice (vw A0_0 c0_0 x3.toNat 1) ((x31.set x32.toNat x46).length - x3.toNat) (c0_0 - x3.toNat)), (36, .int .i64 (x33)), (38, .int .i64 (x46)), (39, .slice (vw A0_0 c0_0 x3.toNat 1) ((x31.set x32.toNat x46).length - x3.toNat) (c0_0 - x3.toNat)), (40, .int .i64 (x33)), (41, .int .i64 ((IntKind.i64.wrap (x33 - 1)))), (43, .int .i64 (x54)), (44, .bool ((x46 != x54))), (45, .slice A0_0 (((x31.set x32.toNat x46)).length) c0_0), (46, .int .i64 (x32)), (47, .slice (vw A0_0 c0_0 x3.toNat 1) ((x31.set x32.toNat x46).length - x3.toNat) (c0_0 - x3.toNat)), (48, .int .i64 (x33)), (50, .int .i64 (x46))] a := (hF.keep ⟨(by simp only [List.length_set] <;> rfl), rfl, (by simp only [List.length_set] <;> rfl), rfl, rfl, (by simp only [List.length_set] <;> rfl), rfl, rfl, (by simp only [List.length_set] <;> rfl), rfl, rfl, (by simp only [List.length_set] <;> rfl), rfl, rfl, rfl, rfl, (by simp only [List.length_set] <;> rfl), rfl, (by simp only [List.length_set] <;> rfl), rfl, rfl, trivial⟩)
             refine sq_nil ?_
             refine then_n ?_
             refine wp_reg ?_
             refine sq_val (v_move hF rfl) hF (by decide) (fun a hF => ?_)
             refine sq_val (v_add hF rfl rfl) hF (by decide) (fun a hF => ?_)
             refine sq_val (v_assign hF rfl) hF (by decide) (fun a hF => ?_)
             refine sq_nil ?_
             obtain rfl := Option.some.inj h
             exact then_j ⟨(x31.set x32.toNat x46), (IntKind.i64.wrap (x32 + 1)), rfl, (hF.keep ⟨rfl, rfl, rfl, rfl, trivial⟩), hS⟩
            ·
             replace h := ifF he66 h
             refine wp_skip ?_
             obtain rfl := Option.some.inj h
             exact then_j ⟨x31, x32, rfl, (hF.keep ⟨rfl, rfl, rfl, rfl, trivial⟩), hS⟩
         ·
          replace h := ifF he41 h
          refine wp_exit ?_
          refine then_x ?_
          refine then_x ?_
          refine blk_hit ?_
          obtain rfl := Option.some.inj h
          exact then_j ⟨x31, x32, rfl, (hF.keep ⟨rfl, rfl, trivial⟩), hS⟩
      ·
       replace h := ifF he24 h
       refine wp_skip ?_
       refine blk_n ?_
       refine then_n ?_
       refine wp_reg ?_
       refine sq_val (v_move hF rfl) hF (by decide) (fun a hF => ?_)
       refine sq_val (v_add hF rfl rfl) hF (by decide) (fun a hF => ?_)
       refine sq_val (v_assign hF rfl) hF (by decide) (fun a hF => ?_)
       refine sq_nil ?_
       exact then_j ⟨m6, Nat.lt_succ_self _, (IntKind.i64.wrap (x3 + 1)), (hF.keep ⟨rfl, rfl, trivial⟩), hS, h⟩
     ·
      replace h := ifF he7 h
      refine wp_exit ?_
      refine then_x ?_
      refine then_x ?_
      refine blk_hit ?_
      obtain rfl := Option.some.inj h
      exact then_j ⟨rfl, (hF.keep ⟨rfl, trivial⟩), hS⟩

theorem ok_slices_Clip_int {M : Nat → Prop} {w0 : World} {u0 : List Int} {A0_0 : Option Addr} {c0_0 : Nat} {o : (List Int)} (hS : St M w0 [] [] [fSl (kInt .i64) A0_0 c0_0 u0] w0) (h : slices_Clip_int u0 = some o) :
    Calls Try.prog 106 #[.slice A0_0 ((u0).length) c0_0] w0 fun e W' => ∃ v, e = .returned v ∧ (∃ (A1 : Option Addr) (c2 : Nat), v = .slice A1 ((o).length) c2 ∧ St M w0 [] [] [fSl (kInt .i64) A1 c2 o] W') := by
  unfold slices_Clip_int at h
  refine calls_start (args := [.slice A0_0 ((u0).length) c0_0]) Try.func106 rfl rfl (Nat.le_of_ble_eq_true rfl) (fun a hF => ?_)
  refine wp_seq ?_
  refine wp_reg ?_
  refine sq_val (v_assign hF rfl) hF (by decide) (fun a hF => ?_)
  refine sq_nil ?_
  refine then_n ?_
  refine wp_seq ?_
  refine wp_reg ?_
  refine sq_val (v_move hF rfl) hF (by decide) (fun a hF => ?_)
  refine sq_val (v_move hF rfl) hF (by decide) (fun a hF => ?_)
  refine sq_val (v_len hF rfl pu76) hF (by decide) (fun a hF => ?_)
  refine sq_val (v_move hF rfl) hF (by decide) (fun a hF => ?_)
  refine sq_val (v_len hF rfl pu76) hF (by decide) (fun a hF => ?_)
  refine sq_val (v_clip hF rfl rfl rfl psl76 (hS.fc (i := 0) rfl).1) hF (by decide) (fun a hF => ?_)
  have hS := hS.addFact (f := fSl (kInt .i64) A0_0 (u0).length u0) (SlR.clip (hS.fc (i := 0) rfl))
  refine sq_val (v_assign hF rfl) hF (by decide) (fun a hF => ?_)
  refine sq_nil ?_
  refine then_n ?_
  refine wp_ret ?_
  obtain rfl := Option.some.inj h
  exact ret1 hF rfl (rv_tmp hF rfl) ⟨_, rfl, A0_0, ((u0).length), rfl, (hS.keep (List.Sublist.refl _) (List.Sublist.refl _) ⟨⟨0, rfl⟩, trivial⟩)⟩

theorem ok_region_Units (k : Nat) {M : Nat → Prop} {w0 : World} {u0 : List TChange} {A0_0 : Option Addr} {c0_0 : Nat} {o : (List Int)} (hS : St M w0 [] [] [fSl k_TChange A0_0 c0_0 u0] w0) (h : region_Units k u0 = some o) :
    Calls Try.prog 51 #[.slice A0_0 ((u0).length) c0_0] w0 fun e W' => ∃ v, e = .returned v ∧ (∃ (A43 : Option Addr) (c44 : Nat), v = .slice A43 ((o).length) c44 ∧ St M w0 [] [] [fSl (kInt .i64) A43 c44 o] W') := by
  unfold region_Units at h
  refine calls_start (args := [.slice A0_0 ((u0).length) c0_0]) Try.func51 rfl rfl (Nat.le_of_ble_eq_true rfl) (fun a hF => ?_)
  refine wp_seq ?_
  refine wp_reg ?_
  refine sq_val (v_assign hF rfl) hF (by decide) (fun a hF => ?_)
  refine sq_nil ?_
  refine then_n ?_
  refine wp_seq ?_
  refine wp_reg ?_
  refine sq_val (v_assign hF rfl) hF (by decide) (fun a hF => ?_)
  refine sq_nil ?_
  refine then_n ?_
  refine wp_seq ?_
  refine wp_seq ?_
  refine wp_reg ?_
  refine sq_val (v_move hF rfl) hF (by decide) (fun a hF => ?_)
  refine sq_val (v_len hF rfl pu56) hF (by decide) (fun a hF => ?_)
  refine sq_val (v_move hF rfl) hF (by decide) (fun a hF => ?_)
  refine sq_nil ?_
  refine then_n ?_
  obtain ⟨o12, h, hk13⟩ := bindS h
  refine wp_join (fun a W => ∃ (x9 : List Int) (A10 : Option Addr) (c11 : Nat), x9 = o12 ∧ FH 23 [(3, .slice A10 ((x9).length) c11)] a ∧ St M w0 [] [⟨(kInt .i64), 3, A10, c11, x9⟩] [] W) (fun a W hJ => ?_) ?_
  ·
   obtain ⟨x9, A10, c11, rfl, hF, hS⟩ := hJ
   have h := hk13
   refine then_n ?_
   refine wp_seq ?_
   refine wp_reg ?_
   refine sq_val (v_move hF rfl) hF (by decide) (fun a hF => ?_)
   obtain ⟨x14, hx15, h⟩ := bindS h
   refine sq_call hF pc105 rfl (by decide) (ok_slices_Sort_int hS hx15) (fun v W hR a hF => ?_)
   obtain ⟨rfl, hS⟩ := hR
   have hF : FH 23 [(3, .slice A10 ((x14).length) c11), (18, .slice A10 ((x14).length) c11), (19, .tuple #[])] a := (hF.keep ⟨(by simp only [len_slices_Sort_int hx15] <;> rfl), (by simp only [len_slices_Sort_int hx15] <;> rfl), rfl, trivial⟩)
   refine sq_nil ?_
   refine then_n ?_
   refine wp_seq ?_
   refine wp_reg ?_
   refine sq_val (v_move hF rfl) hF (by decide) (fun a hF => ?_)
   obtain ⟨x16, hx17, h⟩ := bindS h
   refine sq_call hF pc107 rfl (by decide) (ok_slices_Compact_int k hS hx17) (fun v W hR a hF => ?_)
   obtain ⟨A18, c19, rfl, hS⟩ := hR
   have hS := hS.freeze (i := 0) rfl (posB rfl)
   obtain ⟨x20, hx21, h⟩ := bindS h
   refine sq_call hF pc106 rfl (by decide) (ok_slices_Clip_int (hS.enter ⟨⟨0, rfl⟩, trivial⟩) hx21) (fun v W hR a hF => ?_)
   obtain ⟨A22, c23, rfl, hT24⟩ := hR
   have hS := hS.join hT24
   refine sq_val (v_assign hF rfl) hF (by decide) (fun a hF => ?_)
   refine sq_nil ?_
   refine then_n ?_
   refine wp_ret ?_
   obtain rfl := Option.some.inj h
   exact ret1 hF rfl (rv_tmp hF rfl) ⟨_, rfl, A22, c23, rfl, (hS.keep (List.Sublist.refl _) (List.Sublist.refl _) ⟨⟨0, rfl⟩, trivial⟩)⟩
  ·
   have hS := hS.addNil (kInt .i64) 3
   refine wp_block ?_
   refine wp_loop_fuel (I := fun m a W => ∃ (x5 : List Int) (x8 : Int) (A6 : Option Addr) (c7 : Nat), FH 23 [(3, .slice A6 ((x5).length) c7), (6, .slice A0_0 ((u0).length) c0_0), (7, .int .i64 ((u0.length : Int))), (8, .int .i64 (x8))] a ∧ St M w0 [] [⟨(kInt .i64), 3, A6, c7, x5⟩] [fSl k_TChange A0_0 c0_0 u0] W ∧ (region_Units.l0 k u0 m x5 x8) = some o12) ?_ (k := k) ⟨([]), 0, none, 0, (hF.keep ⟨rfl, rfl, rfl, rfl, trivial⟩), hS, h⟩
   rintro m25 a W ⟨x5, x8, A6, c7, hF, hS, h⟩
   cases m25 with
   | zero => cases h
   | succ m25 =>
    rw [region_Units.l0] at h
    refine wp_seq ?_
    refine wp_reg ?_
    refine sq_val (v_lss hF rfl rfl) hF (by decide) (fun a hF => ?_)
    refine sq_nil ?_
    refine then_n ?_
    refine wp_seq ?_
    refine wp_if hF rfl (fun he26 => ?_) (fun he26 => ?_)
    ·
     replace h := ifT he26 h
     refine wp_skip ?_
     refine then_n ?_
     refine wp_seq ?_
     refine wp_block ?_
     refine wp_seq ?_
     refine wp_reg ?_
     obtain ⟨x27, hx28, h⟩ := bindS h
     obtain ⟨p29, cs30, hA31, hat32⟩ := SlR.at (hS.fc (i := 0) rfl) hx28
     obtain ⟨A33, c34, rfl, hs35⟩ := hat32.2.2.2
     have hS := hS.addFact (f := fAt k_TChange (p29.add (x8.toNat * 32)) (TChange.enc x27 A33 c34) x27) hat32
     have hS := hS.addFact (f := fSl k_TAct A33 c34 x27.Mod.Acts) hs35
     refine sq_val (v_idx hF rfl hA31 rfl psl56 hx28) hF (by decide) (fun a hF => ?_)
     refine sq_val (v_load (cs := TChange.enc x27 A33 c34) hF rfl pa60 ps60 (hS.pc (i := 1) rfl)) hF (by decide) (fun a hF => ?_)
     refine sq_alloc hF hS pz60 rfl (by decide) (fun b36 a W hF hS => ?_)
     refine sq_store (o := 0) (vs := TChange.enc x27 A33 c34) (cs' := TChange.enc x27 A33 c34) hF hS rfl rfl (i := 0) rfl rfl rfl ps60 (TChange.enc_one _ _ _) (Nat.le_of_ble_eq_true rfl) rfl (fun W hS => ?_)
     refine sq_nil ?_
     refine then_n ?_
     refine wp_reg ?_
     refine sq_val (v_move hF rfl) hF (by decide) (fun a hF => ?_)
     refine sq_val (v_fieldAddr hF rfl pf60_0) hF (by decide) (fun a hF => ?_)
     refine sq_val (v_load1 hF rfl pa3 (cells_sub (vs := [.int .i64 (x27.Unit)]) (hS.bc (i := 0) rfl) rfl rfl)) hF (by decide) (fun a hF => ?_)
     refine sq_buildSlice (κ := (kInt .i64)) (xs := [.tmp 14]) (ys := [x27.Unit]) hF hS rfl rfl rfl (Els.cons rfl (Els.nil _ _ _)) rfl psl76 pz3 rfl (by decide) (by decide) (by decide) (fun A37 c38 a W hF hS => ?_)
     obtain ⟨x41, hx42, h⟩ := bindS h
     refine sq_append (ys := ([x27.Unit])) hF hS (i := 1) rfl rfl rfl (hS.rw_ (i := 0) rfl).src psl76 pb3 pz3 rfl (by decide) (by decide) hx42 (by decide) (fun A39 c40 a W hF hS => ?_)
     refine sq_val (v_assign hF rfl) hF (by decide) (fun a hF => ?_)
     refine sq_nil ?_
     refine blk_n ?_
     refine then_n ?_
     refine wp_reg ?_
     refine sq_val (v_add hF rfl rfl) hF (by decide) (fun a hF => ?_)
     refine sq_val (v_move hF rfl) hF (by decide) (fun a hF => ?_)
     refine sq_nil ?_
     exact then_j ⟨m25, Nat.lt_succ_self _, x41, (IntKind.i64.wrap (x8 + 1)), A39, c40, (hF.keep ⟨rfl, rfl, rfl, rfl, trivial⟩), (hS.keep (List.nil_sublist _) (.cons _ (List.Sublist.refl _)) ⟨⟨2, rfl⟩, trivial⟩), h⟩
    ·
     replace h := ifF he26 h
     refine wp_exit ?_
     refine then_x ?_
     refine then_x ?_
     refine blk_hit ?_
     obtain rfl := Option.some.inj h
     exact then_j ⟨x5, A6, c7, rfl, (hF.keep ⟨rfl, trivial⟩), (hS.keep (List.Sublist.refl _) (List.Sublist.refl _) trivial)⟩
end Go.Proofs.Ytangebngeeamoaa
