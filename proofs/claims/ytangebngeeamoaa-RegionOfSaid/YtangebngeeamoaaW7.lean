/- What calls of the Go functions come to. -/
import Derived.Test.YtangebngeeamoaaW6
set_option linter.unusedVariables false
set_option linter.unusedSimpArgs false
set_option maxRecDepth 100000
set_option maxHeartbeats 4000000
namespace Go.Proofs.Ytangebngeeamoaa
open Go.RowKit Go.Pod
theorem ok_ref01_Ints (k : Nat) {M : Nat → Prop} {w0 : World} {u0 : List Int} {A0_0 : Option Addr} {c0_0 : Nat} {u1 : List Int} {A1_0 : Option Addr} {c1_0 : Nat} {o : Bool} (hS : St M w0 [] [] [fSl (kInt .i64) A0_0 c0_0 u0, fSl (kInt .i64) A1_0 c1_0 u1] w0) (h : ref01_Ints k u0 u1 = some o) :
    Calls Try.prog 50 #[.slice A0_0 ((u0).length) c0_0, .slice A1_0 ((u1).length) c1_0] w0 fun e W' => ∃ v, e = .returned v ∧ (v = .bool (o) ∧ St M w0 [] [] [] W') := by
  unfold ref01_Ints at h
  refine calls_start (args := [.slice A0_0 ((u0).length) c0_0, .slice A1_0 ((u1).length) c1_0]) Try.func50 rfl rfl (Nat.le_of_ble_eq_true rfl) (fun a hF => ?_)
  refine wp_seq ?_
  refine wp_reg ?_
  refine sq_val (v_assign hF rfl) hF (by decide) (fun a hF => ?_)
  refine sq_nil ?_
  refine then_n ?_
  refine wp_seq ?_
  refine wp_seq ?_
  refine wp_reg ?_
  refine sq_val (v_move hF rfl) hF (by decide) (fun a hF => ?_)
  refine sq_val (v_len hF rfl pu76) hF (by decide) (fun a hF => ?_)
  refine sq_val (v_move hF rfl) hF (by decide) (fun a hF => ?_)
  refine sq_val (v_len hF rfl pu76) hF (by decide) (fun a hF => ?_)
  refine sq_val (v_neq hF rfl rfl) hF (by decide) (fun a hF => ?_)
  refine sq_nil ?_
  refine then_n ?_
  refine wp_if hF rfl (fun he1 => ?_) (fun he1 => ?_)
  ·
   replace h := ifT he1 h
   refine wp_seq ?_
   refine wp_reg ?_
   refine sq_val (v_assign hF rfl) hF (by decide) (fun a hF => ?_)
   refine sq_nil ?_
   refine then_n ?_
   refine wp_ret ?_
   refine then_r ?_
   obtain rfl := Option.some.inj h
   exact ret1 hF rfl (rv_tmp hF rfl) ⟨_, rfl, rfl, (hS.keep (List.Sublist.refl _) (List.Sublist.refl _) trivial)⟩
  ·
   replace h := ifF he1 h
   refine wp_skip ?_
   refine then_n ?_
   refine wp_seq ?_
   refine wp_seq ?_
   refine wp_reg ?_
   refine sq_val (v_assign hF rfl) hF (by decide) (fun a hF => ?_)
   refine sq_nil ?_
   refine then_n ?_
   obtain ⟨o4, h, hk5⟩ := bindS h
   refine wp_join (fun a W => Lo.brk () = o4 ∧ FH 26 [] a ∧ St M w0 [] [] [] W) (fun a W hJ => ?_) ?_
   ·
    obtain ⟨rfl, hF, hS⟩ := hJ
    have h := hk5
    dsimp only at h
    refine then_n ?_
    refine wp_seq ?_
    refine wp_reg ?_
    refine sq_val (v_assign hF rfl) hF (by decide) (fun a hF => ?_)
    refine sq_nil ?_
    refine then_n ?_
    refine wp_ret ?_
    obtain rfl := Option.some.inj h
    exact ret1 hF rfl (rv_tmp hF rfl) ⟨_, rfl, rfl, hS⟩
   ·
    refine wp_block ?_
    refine wp_loop_fuel (I := fun m a W => ∃ (x3 : Int), FH 26 [(0, .slice A0_0 ((u0).length) c0_0), (1, .slice A1_0 ((u1).length) c1_0), (5, .int .i64 (x3))] a ∧ St M w0 [] [] [fSl (kInt .i64) A0_0 c0_0 u0, fSl (kInt .i64) A1_0 c1_0 u1] W ∧ (ref01_Ints.l0 k u0 u1 m x3) = some o4) ?_ (k := k) ⟨0, (hF.keep ⟨rfl, rfl, rfl, trivial⟩), hS, h⟩
    rintro m6 a W ⟨x3, hF, hS, h⟩
    cases m6 with
    | zero => cases h
    | succ m6 =>
     rw [ref01_Ints.l0] at h
     refine wp_seq ?_
     refine wp_seq ?_
     refine wp_reg ?_
     refine sq_val (v_move hF rfl) hF (by decide) (fun a hF => ?_)
     refine sq_val (v_move hF rfl) hF (by decide) (fun a hF => ?_)
     refine sq_val (v_len hF rfl pu76) hF (by decide) (fun a hF => ?_)
     refine sq_val (v_lss hF rfl rfl) hF (by decide) (fun a hF => ?_)
     refine sq_nil ?_
     refine then_n ?_
     refine wp_if hF rfl (fun he7 => ?_) (fun he7 => ?_)
     ·
      replace h := ifT he7 h
      refine wp_skip ?_
      refine then_n ?_
      refine wp_seq ?_
      refine wp_block ?_
      refine wp_seq ?_
      refine wp_quiet rfl (by kernel_rfl) hS ?_
      refine qt_val (fun W hC => (v_move hF rfl)) hF (by decide) (fun a hF => ?_)
      refine qt_val (fun W hC => (v_move hF rfl)) hF (by decide) (fun a hF => ?_)
      obtain ⟨x8, hx9, h⟩ := bindS h
      obtain ⟨p10, cs11, hA12, hat13⟩ := SlR.at (hS.fc (i := 0) rfl) hx9
      obtain rfl : cs11 = [.int .i64 (x8)] := hat13.2.2.2
      refine qt_val (fun W hC => (v_idx hF rfl hA12 rfl psl76 hx9)) hF (by decide) (fun a hF => ?_)
      refine qt_val (fun W hC => (v_load1 hF rfl pa3 (hat13.2.2.1.grow hC.1))) hF (by decide) (fun a hF => ?_)
      refine qt_val (fun W hC => (v_move hF rfl)) hF (by decide) (fun a hF => ?_)
      refine qt_val (fun W hC => (v_move hF rfl)) hF (by decide) (fun a hF => ?_)
      obtain ⟨x14, hx15, h⟩ := bindS h
      obtain ⟨p16, cs17, hA18, hat19⟩ := SlR.at (hS.fc (i := 1) rfl) hx15
      obtain rfl : cs17 = [.int .i64 (x14)] := hat19.2.2.2
      refine qt_val (fun W hC => (v_idx hF rfl hA18 rfl psl76 hx15)) hF (by decide) (fun a hF => ?_)
      refine qt_val (fun W hC => (v_load1 hF rfl pa3 (hat19.2.2.1.grow hC.1))) hF (by decide) (fun a hF => ?_)
      refine qt_val (fun W hC => (v_neq hF rfl rfl)) hF (by decide) (fun a hF => ?_)
      refine qt_nil ?_
      intro W hC
      have hS := hC.2
      refine then_n ?_
      refine wp_if hF rfl (fun he20 => ?_) (fun he20 => ?_)
      ·
       replace h := ifT he20 h
       refine wp_seq ?_
       refine wp_reg ?_
       refine sq_val (v_assign hF rfl) hF (by decide) (fun a hF => ?_)
       refine sq_nil ?_
       refine then_n ?_
       refine wp_ret ?_
       refine blk_r ?_
       refine then_r ?_
       refine then_r ?_
       refine blk_r ?_
       refine then_r ?_
       refine then_r ?_
       obtain rfl := Option.some.inj h
       have h := hk5
       dsimp only at h
       obtain rfl := Option.some.inj h
       exact ret1 hF rfl (rv_tmp hF rfl) ⟨_, rfl, rfl, (hS.keep (List.Sublist.refl _) (List.Sublist.refl _) trivial)⟩
      ·
       replace h := ifF he20 h
       refine wp_skip ?_
       refine blk_n ?_
       refine then_n ?_
       refine wp_reg ?_
       refine sq_val (v_move hF rfl) hF (by decide) (fun a hF => ?_)
       refine sq_val (v_add hF rfl rfl) hF (by decide) (fun a hF => ?_)
       refine sq_val (v_assign hF rfl) hF (by decide) (fun a hF => ?_)
       refine sq_nil ?_
       exact then_j ⟨m6, Nat.lt_succ_self _, (IntKind.i64.wrap (x3 + 1)), (hF.keep ⟨rfl, rfl, rfl, trivial⟩), hS, h⟩
     ·
      replace h := ifF he7 h
      refine wp_exit ?_
      refine then_x ?_
      refine then_x ?_
      refine blk_hit ?_
      obtain rfl := Option.some.inj h
      exact then_j ⟨rfl, (hF.keep trivial), (hS.keep (List.Sublist.refl _) (List.Sublist.refl _) trivial)⟩

theorem ok_ref04_SameActs (k : Nat) {M : Nat → Prop} {w0 : World} {u0 : List TAct} {A0_0 : Option Addr} {c0_0 : Nat} {u1 : List TAct} {A1_0 : Option Addr} {c1_0 : Nat} {o : Bool} (hS : St M w0 [] [] [fSl k_TAct A0_0 c0_0 u0, fSl k_TAct A1_0 c1_0 u1] w0) (h : ref04_SameActs k u0 u1 = some o) :
    Calls Try.prog 108 #[.slice A0_0 ((u0).length) c0_0, .slice A1_0 ((u1).length) c1_0] w0 fun e W' => ∃ v, e = .returned v ∧ (v = .bool (o) ∧ St M w0 [] [] [] W') := by
  unfold ref04_SameActs at h
  refine calls_start (args := [.slice A0_0 ((u0).length) c0_0, .slice A1_0 ((u1).length) c1_0]) Try.func108 rfl rfl (Nat.le_of_ble_eq_true rfl) (fun a hF => ?_)
  refine wp_seq ?_
  refine wp_reg ?_
  refine sq_val (v_assign hF rfl) hF (by decide) (fun a hF => ?_)
  refine sq_nil ?_
  refine then_n ?_
  refine wp_seq ?_
  refine wp_seq ?_
  refine wp_reg ?_
  refine sq_val (v_move hF rfl) hF (by decide) (fun a hF => ?_)
  refine sq_val (v_len hF rfl pu38) hF (by decide) (fun a hF => ?_)
  refine sq_val (v_move hF rfl) hF (by decide) (fun a hF => ?_)
  refine sq_val (v_len hF rfl pu38) hF (by decide) (fun a hF => ?_)
  refine sq_val (v_neq hF rfl rfl) hF (by decide) (fun a hF => ?_)
  refine sq_nil ?_
  refine then_n ?_
  refine wp_if hF rfl (fun he1 => ?_) (fun he1 => ?_)
  ·
   replace h := ifT he1 h
   refine wp_seq ?_
   refine wp_reg ?_
   refine sq_val (v_assign hF rfl) hF (by decide) (fun a hF => ?_)
   refine sq_nil ?_
   refine then_n ?_
   refine wp_ret ?_
   refine then_r ?_
   obtain rfl := Option.some.inj h
   exact ret1 hF rfl (rv_tmp hF rfl) ⟨_, rfl, rfl, (hS.keep (List.Sublist.refl _) (List.Sublist.refl _) trivial)⟩
  ·
   replace h := ifF he1 h
   refine wp_skip ?_
   refine then_n ?_
   refine wp_seq ?_
   refine wp_seq ?_
   refine wp_reg ?_
   refine sq_val (v_assign hF rfl) hF (by decide) (fun a hF => ?_)
   refine sq_nil ?_
   refine then_n ?_
   obtain ⟨o4, h, hk5⟩ := bindS h
   refine wp_join (fun a W => Lo.brk () = o4 ∧ FH 26 [] a ∧ St M w0 [] [] [] W) (fun a W hJ => ?_) ?_
   ·
    obtain ⟨rfl, hF, hS⟩ := hJ
    have h := hk5
    dsimp only at h
    refine then_n ?_
    refine wp_seq ?_
    refine wp_reg ?_
    refine sq_val (v_assign hF rfl) hF (by decide) (fun a hF => ?_)
    refine sq_nil ?_
    refine then_n ?_
    refine wp_ret ?_
    obtain rfl := Option.some.inj h
    exact ret1 hF rfl (rv_tmp hF rfl) ⟨_, rfl, rfl, hS⟩
   ·
    refine wp_block ?_
    refine wp_loop_fuel (I := fun m a W => ∃ (x3 : Int), FH 26 [(0, .slice A0_0 ((u0).length) c0_0), (1, .slice A1_0 ((u1).length) c1_0), (5, .int .i64 (x3))] a ∧ St M w0 [] [] [fSl k_TAct A0_0 c0_0 u0, fSl k_TAct A1_0 c1_0 u1] W ∧ (ref04_SameActs.l0 k u0 u1 m x3) = some o4) ?_ (k := k) ⟨0, (hF.keep ⟨rfl, rfl, rfl, trivial⟩), hS, h⟩
    rintro m6 a W ⟨x3, hF, hS, h⟩
    cases m6 with
    | zero => cases h
    | succ m6 =>
     rw [ref04_SameActs.l0] at h
     refine wp_seq ?_
     refine wp_seq ?_
     refine wp_reg ?_
     refine sq_val (v_move hF rfl) hF (by decide) (fun a hF => ?_)
     refine sq_val (v_move hF rfl) hF (by decide) (fun a hF => ?_)
     refine sq_val (v_len hF rfl pu38) hF (by decide) (fun a hF => ?_)
     refine sq_val (v_lss hF rfl rfl) hF (by decide) (fun a hF => ?_)
     refine sq_nil ?_
     refine then_n ?_
     refine wp_if hF rfl (fun he7 => ?_) (fun he7 => ?_)
     ·
      replace h := ifT he7 h
      refine wp_skip ?_
      refine then_n ?_
      refine wp_seq ?_
      refine wp_block ?_
      refine wp_seq ?_
      refine wp_quiet rfl (by kernel_rfl) hS ?_
      refine qt_val (fun W hC => (v_move hF rfl)) hF (by decide) (fun a hF => ?_)
      refine qt_val (fun W hC => (v_move hF rfl)) hF (by decide) (fun a hF => ?_)
      obtain ⟨x8, hx9, h⟩ := bindS h
      obtain ⟨p10, cs11, hA12, hat13⟩ := SlR.at (hS.fc (i := 0) rfl) hx9
      obtain rfl : cs11 = TAct.enc x8 := hat13.2.2.2
      refine qt_val (fun W hC => (v_idx hF rfl hA12 rfl psl38 hx9)) hF (by decide) (fun a hF => ?_)
      refine qt_val (fun W hC => (v_load (cs := TAct.enc x8) hF rfl pa94 ps94 (hat13.2.2.1.grow hC.1))) hF (by decide) (fun a hF => ?_)
      refine qt_val (fun W hC => (v_move hF rfl)) hF (by decide) (fun a hF => ?_)
      refine qt_val (fun W hC => (v_move hF rfl)) hF (by decide) (fun a hF => ?_)
      obtain ⟨x14, hx15, h⟩ := bindS h
      obtain ⟨p16, cs17, hA18, hat19⟩ := SlR.at (hS.fc (i := 1) rfl) hx15
      obtain rfl : cs17 = TAct.enc x14 := hat19.2.2.2
      refine qt_val (fun W hC => (v_idx hF rfl hA18 rfl psl38 hx15)) hF (by decide) (fun a hF => ?_)
      refine qt_val (fun W hC => (v_load (cs := TAct.enc x14) hF rfl pa94 ps94 (hat19.2.2.1.grow hC.1))) hF (by decide) (fun a hF => ?_)
      refine qt_val (fun W hC => (eq94 hF rfl rfl).2) hF (by decide) (fun a hF => ?_)
      refine qt_nil ?_
      intro W hC
      have hS := hC.2
      refine then_n ?_
      refine wp_if hF rfl (fun he20 => ?_) (fun he20 => ?_)
      ·
       replace h := ifT he20 h
       refine wp_seq ?_
       refine wp_reg ?_
       refine sq_val (v_assign hF rfl) hF (by decide) (fun a hF => ?_)
       refine sq_nil ?_
       refine then_n ?_
       refine wp_ret ?_
       refine blk_r ?_
       refine then_r ?_
       refine then_r ?_
       refine blk_r ?_
       refine then_r ?_
       refine then_r ?_
       obtain rfl := Option.some.inj h
       have h := hk5
       dsimp only at h
       obtain rfl := Option.some.inj h
       exact ret1 hF rfl (rv_tmp hF rfl) ⟨_, rfl, rfl, (hS.keep (List.Sublist.refl _) (List.Sublist.refl _) trivial)⟩
      ·
       replace h := ifF he20 h
       refine wp_skip ?_
       refine blk_n ?_
       refine then_n ?_
       refine wp_reg ?_
       refine sq_val (v_move hF rfl) hF (by decide) (fun a hF => ?_)
       refine sq_val (v_add hF rfl rfl) hF (by decide) (fun a hF => ?_)
       refine sq_val (v_assign hF rfl) hF (by decide) (fun a hF => ?_)
       refine sq_nil ?_
       exact then_j ⟨m6, Nat.lt_succ_self _, (IntKind.i64.wrap (x3 + 1)), (hF.keep ⟨rfl, rfl, rfl, trivial⟩), hS, h⟩
     ·
      replace h := ifF he7 h
      refine wp_exit ?_
      refine then_x ?_
      refine then_x ?_
      refine blk_hit ?_
      obtain rfl := Option.some.inj h
      exact then_j ⟨rfl, (hF.keep trivial), (hS.keep (List.Sublist.refl _) (List.Sublist.refl _) trivial)⟩

theorem ok_ref04_SameMods (k : Nat) {M : Nat → Prop} {w0 : World} {u0 : TMod} {A0_0 : Option Addr} {c0_0 : Nat} {u1 : TMod} {A1_0 : Option Addr} {c1_0 : Nat} {o : Bool} (hS : St M w0 [] [] [fSl k_TAct A0_0 c0_0 u0.Acts, fSl k_TAct A1_0 c1_0 u1.Acts] w0) (h : ref04_SameMods k u0 u1 = some o) :
    Calls Try.prog 53 #[.agg (TMod.enc u0 A0_0 c0_0).toArray, .agg (TMod.enc u1 A1_0 c1_0).toArray] w0 fun e W' => ∃ v, e = .returned v ∧ (v = .bool (o) ∧ St M w0 [] [] [] W') := by
  unfold ref04_SameMods at h
  refine calls_start (args := [.agg (TMod.enc u0 A0_0 c0_0).toArray, .agg (TMod.enc u1 A1_0 c1_0).toArray]) Try.func53 rfl rfl (Nat.le_of_ble_eq_true rfl) (fun a hF => ?_)
  refine wp_seq ?_
  refine wp_reg ?_
  refine sq_box hF hS rfl rfl (by decide) (fun b1 a W hF hS => ?_)
  refine sq_box hF hS rfl rfl (by decide) (fun b2 a W hF hS => ?_)
  refine sq_val (v_assign hF rfl) hF (by decide) (fun a hF => ?_)
  refine sq_nil ?_
  refine then_n ?_
  refine wp_seq ?_
  refine wp_reg ?_
  refine sq_val (v_fieldAddr hF rfl pf40_0) hF (by decide) (fun a hF => ?_)
  refine sq_val (v_load1 hF rfl pa3 (cells_sub (vs := [.int .i64 (u0.Kind)]) (hS.bc (i := 1) rfl) rfl rfl)) hF (by decide) (fun a hF => ?_)
  refine sq_val (v_fieldAddr hF rfl pf40_0) hF (by decide) (fun a hF => ?_)
  refine sq_val (v_load1 hF rfl pa3 (cells_sub (vs := [.int .i64 (u1.Kind)]) (hS.bc (i := 0) rfl) rfl rfl)) hF (by decide) (fun a hF => ?_)
  refine sq_val (v_eql hF rfl rfl) hF (by decide) (fun a hF => ?_)
  refine sq_val (v_move hF rfl) hF (by decide) (fun a hF => ?_)
  refine sq_cut 6 (fun a W => FH 59 [(2, .pointer (some (⟨b1, 0, none⟩))), (3, .pointer (some (⟨b2, 0, none⟩))), (16, .bool ((u0.Kind == u1.Kind) && (cellsEq (TCube.enc u0.Match) (TCube.enc u1.Match))))] a ∧ St M w0 [⟨b2, TMod.enc u1 A1_0 c1_0, 40⟩, ⟨b1, TMod.enc u0 A0_0 c0_0, 40⟩] [] [fSl k_TAct A0_0 c0_0 u0.Acts, fSl k_TAct A1_0 c1_0 u1.Acts] W) (fun a W hJ => ?_) ?_
  ·
   obtain ⟨hF, hS⟩ := hJ
   refine sq_val (v_move hF rfl) hF (by decide) (fun a hF => ?_)
   refine sq_cut 6 (fun a W => FH 59 [(2, .pointer (some (⟨b1, 0, none⟩))), (3, .pointer (some (⟨b2, 0, none⟩))), (23, .bool (((u0.Kind == u1.Kind) && (cellsEq (TCube.enc u0.Match) (TCube.enc u1.Match))) && (u0.Prio == u1.Prio)))] a ∧ St M w0 [⟨b2, TMod.enc u1 A1_0 c1_0, 40⟩, ⟨b1, TMod.enc u0 A0_0 c0_0, 40⟩] [] [fSl k_TAct A0_0 c0_0 u0.Acts, fSl k_TAct A1_0 c1_0 u1.Acts] W) (fun a W hJ => ?_) ?_
   ·
    obtain ⟨hF, hS⟩ := hJ
    refine sq_val (v_move hF rfl) hF (by decide) (fun a hF => ?_)
    obtain ⟨x6, h, hk8⟩ := bindS h
    refine sq_cut 6 (fun a W => FH 59 [(2, .pointer (some (⟨b1, 0, none⟩))), (3, .pointer (some (⟨b2, 0, none⟩))), (30, .bool x6)] a ∧ St M w0 [⟨b2, TMod.enc u1 A1_0 c1_0, 40⟩, ⟨b1, TMod.enc u0 A0_0 c0_0, 40⟩] [] [fSl k_TAct A0_0 c0_0 u0.Acts, fSl k_TAct A1_0 c1_0 u1.Acts] W) (fun a W hJ => ?_) ?_
    ·
     have h := hk8
     obtain ⟨hF, hS⟩ := hJ
     refine sq_val (v_move hF rfl) hF (by decide) (fun a hF => ?_)
     refine sq_cut 6 (fun a W => FH 59 [(2, .pointer (some (⟨b1, 0, none⟩))), (3, .pointer (some (⟨b2, 0, none⟩))), (37, .bool (x6 && (u0.Idle == u1.Idle)))] a ∧ St M w0 [⟨b2, TMod.enc u1 A1_0 c1_0, 40⟩, ⟨b1, TMod.enc u0 A0_0 c0_0, 40⟩] [] [fSl k_TAct A0_0 c0_0 u0.Acts, fSl k_TAct A1_0 c1_0 u1.Acts] W) (fun a W hJ => ?_) ?_
     ·
      obtain ⟨hF, hS⟩ := hJ
      refine sq_val (v_move hF rfl) hF (by decide) (fun a hF => ?_)
      refine sq_cut 6 (fun a W => FH 59 [(2, .pointer (some (⟨b1, 0, none⟩))), (3, .pointer (some (⟨b2, 0, none⟩))), (44, .bool ((x6 && (u0.Idle == u1.Idle)) && (u0.Hard == u1.Hard)))] a ∧ St M w0 [⟨b2, TMod.enc u1 A1_0 c1_0, 40⟩, ⟨b1, TMod.enc u0 A0_0 c0_0, 40⟩] [] [fSl k_TAct A0_0 c0_0 u0.Acts, fSl k_TAct A1_0 c1_0 u1.Acts] W) (fun a W hJ => ?_) ?_
      ·
       obtain ⟨hF, hS⟩ := hJ
       refine sq_val (v_move hF rfl) hF (by decide) (fun a hF => ?_)
       refine sq_cut 6 (fun a W => FH 59 [(2, .pointer (some (⟨b1, 0, none⟩))), (3, .pointer (some (⟨b2, 0, none⟩))), (51, .bool (((x6 && (u0.Idle == u1.Idle)) && (u0.Hard == u1.Hard)) && (u0.Owner == u1.Owner)))] a ∧ St M w0 [⟨b2, TMod.enc u1 A1_0 c1_0, 40⟩, ⟨b1, TMod.enc u0 A0_0 c0_0, 40⟩] [] [fSl k_TAct A0_0 c0_0 u0.Acts, fSl k_TAct A1_0 c1_0 u1.Acts] W) (fun a W hJ => ?_) ?_
       ·
        obtain ⟨hF, hS⟩ := hJ
        refine sq_val (v_move hF rfl) hF (by decide) (fun a hF => ?_)
        refine sq_cut 6 (fun a W => FH 59 [(58, .bool ((((x6 && (u0.Idle == u1.Idle)) && (u0.Hard == u1.Hard)) && (u0.Owner == u1.Owner)) && (u0.Check == u1.Check)))] a ∧ St M w0 [⟨b2, TMod.enc u1 A1_0 c1_0, 40⟩, ⟨b1, TMod.enc u0 A0_0 c0_0, 40⟩] [] [fSl k_TAct A0_0 c0_0 u0.Acts, fSl k_TAct A1_0 c1_0 u1.Acts] W) (fun a W hJ => ?_) ?_
        ·
         obtain ⟨hF, hS⟩ := hJ
         refine sq_val (v_assign hF rfl) hF (by decide) (fun a hF => ?_)
         refine sq_nil ?_
         refine then_n ?_
         refine wp_ret ?_
         obtain rfl := Option.some.inj h
         exact ret1 hF rfl (rv_tmp hF rfl) ⟨_, rfl, rfl, (hS.keep (List.nil_sublist _) (List.Sublist.refl _) trivial)⟩
        ·
         by_cases he15 : (((x6 && (u0.Idle == u1.Idle)) && (u0.Hard == u1.Hard)) && (u0.Owner == u1.Owner)) = true
         ·
          refine sq_yes hF rfl rfl he15 ?_
          refine sq_val (v_fieldAddr hF rfl pf40_7) hF (by decide) (fun a hF => ?_)
          refine sq_yes hF rfl rfl he15 ?_
          refine sq_val (v_load1 hF rfl pa4 (cells_sub (vs := [.bool (u0.Check)]) (hS.bc (i := 1) rfl) rfl rfl)) hF (by decide) (fun a hF => ?_)
          refine sq_yes hF rfl rfl he15 ?_
          refine sq_val (v_fieldAddr hF rfl pf40_7) hF (by decide) (fun a hF => ?_)
          refine sq_yes hF rfl rfl he15 ?_
          refine sq_val (v_load1 hF rfl pa4 (cells_sub (vs := [.bool (u1.Check)]) (hS.bc (i := 0) rfl) rfl rfl)) hF (by decide) (fun a hF => ?_)
          refine sq_yes hF rfl rfl he15 ?_
          refine sq_val (v_eqlB hF rfl rfl pu4) hF (by decide) (fun a hF => ?_)
          refine sq_val (v_pick_t hF rfl he15 rfl) hF (by decide) (fun a hF => ?_)
          exact sq_nil (then_j ⟨(hF.keep ⟨(boolV (and_t he15)), trivial⟩), hS⟩)
         ·
          have he15 : (((x6 && (u0.Idle == u1.Idle)) && (u0.Hard == u1.Hard)) && (u0.Owner == u1.Owner)) = false := nB he15
          refine sq_no hF rfl rfl he15 (by rintro x ⟨⟩; decide) (fun a hF => ?_)
          refine sq_no hF rfl rfl he15 (by rintro x ⟨⟩; decide) (fun a hF => ?_)
          refine sq_no hF rfl rfl he15 (by rintro x ⟨⟩; decide) (fun a hF => ?_)
          refine sq_no hF rfl rfl he15 (by rintro x ⟨⟩; decide) (fun a hF => ?_)
          refine sq_no hF rfl rfl he15 (by rintro x ⟨⟩; decide) (fun a hF => ?_)
          refine sq_val (v_pick_f hF rfl he15 rfl) hF (by decide) (fun a hF => ?_)
          exact sq_nil (then_j ⟨(hF.keep ⟨(boolV (and_f he15)), trivial⟩), hS⟩)
       ·
        by_cases he14 : ((x6 && (u0.Idle == u1.Idle)) && (u0.Hard == u1.Hard)) = true
        ·
         refine sq_yes hF rfl rfl he14 ?_
         refine sq_val (v_fieldAddr hF rfl pf40_6) hF (by decide) (fun a hF => ?_)
         refine sq_yes hF rfl rfl he14 ?_
         refine sq_val (v_load1 hF rfl pa3 (cells_sub (vs := [.int .i64 (u0.Owner)]) (hS.bc (i := 1) rfl) rfl rfl)) hF (by decide) (fun a hF => ?_)
         refine sq_yes hF rfl rfl he14 ?_
         refine sq_val (v_fieldAddr hF rfl pf40_6) hF (by decide) (fun a hF => ?_)
         refine sq_yes hF rfl rfl he14 ?_
         refine sq_val (v_load1 hF rfl pa3 (cells_sub (vs := [.int .i64 (u1.Owner)]) (hS.bc (i := 0) rfl) rfl rfl)) hF (by decide) (fun a hF => ?_)
         refine sq_yes hF rfl rfl he14 ?_
         refine sq_val (v_eql hF rfl rfl) hF (by decide) (fun a hF => ?_)
         refine sq_val (v_pick_t hF rfl he14 rfl) hF (by decide) (fun a hF => ?_)
         exact sq_nil (then_j ⟨(hF.keep ⟨rfl, rfl, (boolV (and_t he14)), trivial⟩), hS⟩)
        ·
         have he14 : ((x6 && (u0.Idle == u1.Idle)) && (u0.Hard == u1.Hard)) = false := nB he14
         refine sq_no hF rfl rfl he14 (by rintro x ⟨⟩; decide) (fun a hF => ?_)
         refine sq_no hF rfl rfl he14 (by rintro x ⟨⟩; decide) (fun a hF => ?_)
         refine sq_no hF rfl rfl he14 (by rintro x ⟨⟩; decide) (fun a hF => ?_)
         refine sq_no hF rfl rfl he14 (by rintro x ⟨⟩; decide) (fun a hF => ?_)
         refine sq_no hF rfl rfl he14 (by rintro x ⟨⟩; decide) (fun a hF => ?_)
         refine sq_val (v_pick_f hF rfl he14 rfl) hF (by decide) (fun a hF => ?_)
         exact sq_nil (then_j ⟨(hF.keep ⟨rfl, rfl, (boolV (and_f he14)), trivial⟩), hS⟩)
      ·
       by_cases he13 : (x6 && (u0.Idle == u1.Idle)) = true
       ·
        refine sq_yes hF rfl rfl he13 ?_
        refine sq_val (v_fieldAddr hF rfl pf40_5) hF (by decide) (fun a hF => ?_)
        refine sq_yes hF rfl rfl he13 ?_
        refine sq_val (v_load1 hF rfl pa3 (cells_sub (vs := [.int .i64 (u0.Hard)]) (hS.bc (i := 1) rfl) rfl rfl)) hF (by decide) (fun a hF => ?_)
        refine sq_yes hF rfl rfl he13 ?_
        refine sq_val (v_fieldAddr hF rfl pf40_5) hF (by decide) (fun a hF => ?_)
        refine sq_yes hF rfl rfl he13 ?_
        refine sq_val (v_load1 hF rfl pa3 (cells_sub (vs := [.int .i64 (u1.Hard)]) (hS.bc (i := 0) rfl) rfl rfl)) hF (by decide) (fun a hF => ?_)
        refine sq_yes hF rfl rfl he13 ?_
        refine sq_val (v_eql hF rfl rfl) hF (by decide) (fun a hF => ?_)
        refine sq_val (v_pick_t hF rfl he13 rfl) hF (by decide) (fun a hF => ?_)
        exact sq_nil (then_j ⟨(hF.keep ⟨rfl, rfl, (boolV (and_t he13)), trivial⟩), hS⟩)
       ·
        have he13 : (x6 && (u0.Idle == u1.Idle)) = false := nB he13
        refine sq_no hF rfl rfl he13 (by rintro x ⟨⟩; decide) (fun a hF => ?_)
        refine sq_no hF rfl rfl he13 (by rintro x ⟨⟩; decide) (fun a hF => ?_)
        refine sq_no hF rfl rfl he13 (by rintro x ⟨⟩; decide) (fun a hF => ?_)
        refine sq_no hF rfl rfl he13 (by rintro x ⟨⟩; decide) (fun a hF => ?_)
        refine sq_no hF rfl rfl he13 (by rintro x ⟨⟩; decide) (fun a hF => ?_)
        refine sq_val (v_pick_f hF rfl he13 rfl) hF (by decide) (fun a hF => ?_)
        exact sq_nil (then_j ⟨(hF.keep ⟨rfl, rfl, (boolV (and_f he13)), trivial⟩), hS⟩)
     ·
      by_cases he12 : x6 = true
      ·
       refine sq_yes hF rfl rfl he12 ?_
       refine sq_val (v_fieldAddr hF rfl pf40_4) hF (by decide) (fun a hF => ?_)
       refine sq_yes hF rfl rfl he12 ?_
       refine sq_val (v_load1 hF rfl pa3 (cells_sub (vs := [.int .i64 (u0.Idle)]) (hS.bc (i := 1) rfl) rfl rfl)) hF (by decide) (fun a hF => ?_)
       refine sq_yes hF rfl rfl he12 ?_
       refine sq_val (v_fieldAddr hF rfl pf40_4) hF (by decide) (fun a hF => ?_)
       refine sq_yes hF rfl rfl he12 ?_
       refine sq_val (v_load1 hF rfl pa3 (cells_sub (vs := [.int .i64 (u1.Idle)]) (hS.bc (i := 0) rfl) rfl rfl)) hF (by decide) (fun a hF => ?_)
       refine sq_yes hF rfl rfl he12 ?_
       refine sq_val (v_eql hF rfl rfl) hF (by decide) (fun a hF => ?_)
       refine sq_val (v_pick_t hF rfl he12 rfl) hF (by decide) (fun a hF => ?_)
       exact sq_nil (then_j ⟨(hF.keep ⟨rfl, rfl, (boolV (and_t he12)), trivial⟩), hS⟩)
      ·
       have he12 : x6 = false := nB he12
       refine sq_no hF rfl rfl he12 (by rintro x ⟨⟩; decide) (fun a hF => ?_)
       refine sq_no hF rfl rfl he12 (by rintro x ⟨⟩; decide) (fun a hF => ?_)
       refine sq_no hF rfl rfl he12 (by rintro x ⟨⟩; decide) (fun a hF => ?_)
       refine sq_no hF rfl rfl he12 (by rintro x ⟨⟩; decide) (fun a hF => ?_)
       refine sq_no hF rfl rfl he12 (by rintro x ⟨⟩; decide) (fun a hF => ?_)
       refine sq_val (v_pick_f hF rfl he12 rfl) hF (by decide) (fun a hF => ?_)
       exact sq_nil (then_j ⟨(hF.keep ⟨rfl, rfl, (boolV (and_f he12)), trivial⟩), hS⟩)
    ·
     by_cases he5 : (((u0.Kind == u1.Kind) && (cellsEq (TCube.enc u0.Match) (TCube.enc u1.Match))) && (u0.Prio == u1.Prio)) = true
     ·
      replace h := ifT he5 h
      refine sq_yes hF rfl rfl he5 ?_
      refine sq_val (v_fieldAddr hF rfl pf40_3) hF (by decide) (fun a hF => ?_)
      refine sq_yes hF rfl rfl he5 ?_
      refine sq_val (v_load1 hF rfl pa38 (cells_sub (vs := [.slice A0_0 ((u0.Acts).length) c0_0]) (hS.bc (i := 1) rfl) rfl rfl)) hF (by decide) (fun a hF => ?_)
      refine sq_yes hF rfl rfl he5 ?_
      refine sq_val (v_fieldAddr hF rfl pf40_3) hF (by decide) (fun a hF => ?_)
      refine sq_yes hF rfl rfl he5 ?_
      refine sq_val (v_load1 hF rfl pa38 (cells_sub (vs := [.slice A1_0 ((u1.Acts).length) c1_0]) (hS.bc (i := 0) rfl) rfl rfl)) hF (by decide) (fun a hF => ?_)
      refine sq_yes hF rfl rfl he5 ?_
      obtain ⟨x9, hx10, h⟩ := bindS h
      refine sq_call hF pc108 rfl (by decide) (ok_ref04_SameActs k (hS.enter ⟨⟨0, rfl⟩, ⟨1, rfl⟩, trivial⟩) hx10) (fun v W hR a hF => ?_)
      obtain ⟨rfl, hT11⟩ := hR
      have hS := hS.grow hT11.below
      refine sq_val (v_pick_t hF rfl he5 rfl) hF (by decide) (fun a hF => ?_)
      obtain rfl := Option.some.inj h
      exact sq_nil (then_j ⟨(hF.keep ⟨rfl, rfl, rfl, trivial⟩), hS⟩)
     ·
      have he5 : (((u0.Kind == u1.Kind) && (cellsEq (TCube.enc u0.Match) (TCube.enc u1.Match))) && (u0.Prio == u1.Prio)) = false := nB he5
      replace h := ifF he5 h
      refine sq_no hF rfl rfl he5 (by rintro x ⟨⟩; decide) (fun a hF => ?_)
      refine sq_no hF rfl rfl he5 (by rintro x ⟨⟩; decide) (fun a hF => ?_)
      refine sq_no hF rfl rfl he5 (by rintro x ⟨⟩; decide) (fun a hF => ?_)
      refine sq_no hF rfl rfl he5 (by rintro x ⟨⟩; decide) (fun a hF => ?_)
      refine sq_no hF rfl rfl he5 (by rintro x ⟨⟩; decide) (fun a hF => ?_)
      refine sq_val (v_pick_f hF rfl he5 rfl) hF (by decide) (fun a hF => ?_)
      obtain rfl := Option.some.inj h
      exact sq_nil (then_j ⟨(hF.keep ⟨rfl, rfl, rfl, trivial⟩), hS⟩)
   ·
    by_cases he4 : ((u0.Kind == u1.Kind) && (cellsEq (TCube.enc u0.Match) (TCube.enc u1.Match))) = true
    ·
     refine sq_yes hF rfl rfl he4 ?_
     refine sq_val (v_fieldAddr hF rfl pf40_2) hF (by decide) (fun a hF => ?_)
     refine sq_yes hF rfl rfl he4 ?_
     refine sq_val (v_load1 hF rfl pa3 (cells_sub (vs := [.int .i64 (u0.Prio)]) (hS.bc (i := 1) rfl) rfl rfl)) hF (by decide) (fun a hF => ?_)
     refine sq_yes hF rfl rfl he4 ?_
     refine sq_val (v_fieldAddr hF rfl pf40_2) hF (by decide) (fun a hF => ?_)
     refine sq_yes hF rfl rfl he4 ?_
     refine sq_val (v_load1 hF rfl pa3 (cells_sub (vs := [.int .i64 (u1.Prio)]) (hS.bc (i := 0) rfl) rfl rfl)) hF (by decide) (fun a hF => ?_)
     refine sq_yes hF rfl rfl he4 ?_
     refine sq_val (v_eql hF rfl rfl) hF (by decide) (fun a hF => ?_)
     refine sq_val (v_pick_t hF rfl he4 rfl) hF (by decide) (fun a hF => ?_)
     exact sq_nil (then_j ⟨(hF.keep ⟨rfl, rfl, (boolV (and_t he4)), trivial⟩), hS⟩)
    ·
     have he4 : ((u0.Kind == u1.Kind) && (cellsEq (TCube.enc u0.Match) (TCube.enc u1.Match))) = false := nB he4
     refine sq_no hF rfl rfl he4 (by rintro x ⟨⟩; decide) (fun a hF => ?_)
     refine sq_no hF rfl rfl he4 (by rintro x ⟨⟩; decide) (fun a hF => ?_)
     refine sq_no hF rfl rfl he4 (by rintro x ⟨⟩; decide) (fun a hF => ?_)
     refine sq_no hF rfl rfl he4 (by rintro x ⟨⟩; decide) (fun a hF => ?_)
     refine sq_no hF rfl rfl he4 (by rintro x ⟨⟩; decide) (fun a hF => ?_)
     refine sq_val (v_pick_f hF rfl he4 rfl) hF (by decide) (fun a hF => ?_)
     exact sq_nil (then_j ⟨(hF.keep ⟨rfl, rfl, (boolV (and_f he4)), trivial⟩), hS⟩)
  ·
   by_cases he3 : (u0.Kind == u1.Kind) = true
   ·
    refine sq_yes hF rfl rfl he3 ?_
    refine sq_val (v_fieldAddr hF rfl pf40_1) hF (by decide) (fun a hF => ?_)
    refine sq_yes hF rfl rfl he3 ?_
    refine sq_val (v_load (cs := TCube.enc u0.Match) hF rfl pa26 ps26 (cells_sub (vs := TCube.enc u0.Match) (hS.bc (i := 1) rfl) rfl rfl)) hF (by decide) (fun a hF => ?_)
    refine sq_yes hF rfl rfl he3 ?_
    refine sq_val (v_fieldAddr hF rfl pf40_1) hF (by decide) (fun a hF => ?_)
    refine sq_yes hF rfl rfl he3 ?_
    refine sq_val (v_load (cs := TCube.enc u1.Match) hF rfl pa26 ps26 (cells_sub (vs := TCube.enc u1.Match) (hS.bc (i := 0) rfl) rfl rfl)) hF (by decide) (fun a hF => ?_)
    refine sq_yes hF rfl rfl he3 ?_
    refine sq_val (eq26 hF rfl rfl).1 hF (by decide) (fun a hF => ?_)
    refine sq_val (v_pick_t hF rfl he3 rfl) hF (by decide) (fun a hF => ?_)
    exact sq_nil (then_j ⟨(hF.keep ⟨rfl, rfl, (boolV (and_t he3)), trivial⟩), hS⟩)
   ·
    have he3 : (u0.Kind == u1.Kind) = false := nB he3
    refine sq_no hF rfl rfl he3 (by rintro x ⟨⟩; decide) (fun a hF => ?_)
    refine sq_no hF rfl rfl he3 (by rintro x ⟨⟩; decide) (fun a hF => ?_)
    refine sq_no hF rfl rfl he3 (by rintro x ⟨⟩; decide) (fun a hF => ?_)
    refine sq_no hF rfl rfl he3 (by rintro x ⟨⟩; decide) (fun a hF => ?_)
    refine sq_no hF rfl rfl he3 (by rintro x ⟨⟩; decide) (fun a hF => ?_)
    refine sq_val (v_pick_f hF rfl he3 rfl) hF (by decide) (fun a hF => ?_)
    exact sq_nil (then_j ⟨(hF.keep ⟨rfl, rfl, (boolV (and_f he3)), trivial⟩), hS⟩)

theorem ok_law19_RegionOf (k : Nat) {M : Nat → Prop} {w0 : World} {u0 : List TChange} {A0_0 : Option Addr} {c0_0 : Nat} {u1 : Int} {o : Bool} (hS : St M w0 [] [] [fSl k_TChange A0_0 c0_0 u0] w0) (h : law19_RegionOf k u0 u1 = some o) :
    Calls Try.prog 11 #[.slice A0_0 ((u0).length) c0_0, .int .i64 (u1)] w0 fun e W' => ∃ v, e = .returned v ∧ (v = .bool (o) ∧ St M w0 [] [] [] W') := by
  unfold law19_RegionOf at h
  refine calls_start (args := [.slice A0_0 ((u0).length) c0_0, .int .i64 (u1)]) Try.func11 rfl rfl (Nat.le_of_ble_eq_true rfl) (fun a hF => ?_)
  refine wp_seq ?_
  refine wp_reg ?_
  refine sq_val (v_assign hF rfl) hF (by decide) (fun a hF => ?_)
  refine sq_nil ?_
  refine then_n ?_
  refine wp_seq ?_
  refine wp_seq ?_
  refine wp_reg ?_
  refine sq_val (v_move hF rfl) hF (by decide) (fun a hF => ?_)
  refine sq_val (v_len hF rfl pu56) hF (by decide) (fun a hF => ?_)
  refine sq_val (v_gtr hF rfl rfl) hF (by decide) (fun a hF => ?_)
  refine sq_nil ?_
  refine then_n ?_
  refine wp_if hF rfl (fun he1 => ?_) (fun he1 => ?_)
  ·
   replace h := ifT he1 h
   refine wp_seq ?_
   refine wp_reg ?_
   obtain ⟨x2, hx3, h⟩ := bindS h
   refine sq_call hF pc33 rfl (by decide) (ok_law19_answers k (hS.enter trivial) hx3) (fun v W hR a hF => ?_)
   obtain ⟨rfl, hT4⟩ := hR
   have hS := hS.grow hT4.below
   refine sq_val (v_assign hF rfl) hF (by decide) (fun a hF => ?_)
   refine sq_nil ?_
   refine then_n ?_
   refine wp_ret ?_
   refine then_r ?_
   obtain rfl := Option.some.inj h
   exact ret1 hF rfl (rv_tmp hF rfl) ⟨_, rfl, rfl, (hS.keep (List.Sublist.refl _) (List.Sublist.refl _) trivial)⟩
  ·
   replace h := ifF he1 h
   refine wp_skip ?_
   refine then_n ?_
   refine wp_seq ?_
   refine wp_reg ?_
   refine sq_buildSlice (κ := k_TChange) (xs := []) (ys := ([] : List TChange)) hF hS rfl rfl rfl (Els.nil _ _ _) rfl psl56 pz60 rfl (by decide) (by decide) (by decide) (fun A5 c6 a W hF hS => ?_)
   refine sq_val (v_move hF rfl) hF (by decide) (fun a hF => ?_)
   obtain ⟨x9, hx10, h⟩ := bindS h
   refine sq_append (ys := u0) hF hS (i := 0) rfl rfl rfl (SlR.src (hS.fc (i := 0) rfl)) psl56 pb60 pz60 rfl (by decide) (by decide) hx10 (by decide) (fun A7 c8 a W hF hS => ?_)
   have hS := hS.freeze (i := 0) rfl (posB rfl)
   obtain ⟨x11, hx12, h⟩ := bindS h
   refine sq_call hF pc34 rfl (by decide) (ok_region_Of k (hS.enter ⟨⟨0, rfl⟩, trivial⟩) hx12) (fun v W hR a hF => ?_)
   obtain ⟨A13, c14, rfl, hT15⟩ := hR
   have hS := hS.join hT15
   refine sq_val (v_move hF rfl) hF (by decide) (fun a hF => ?_)
   obtain ⟨x16, hx17, h⟩ := bindS h
   refine sq_call hF pc47 rfl (by decide) (ok_ref19_Region k (hS.enter ⟨⟨1, rfl⟩, trivial⟩) hx17) (fun v W hR a hF => ?_)
   obtain ⟨A18, c19, rfl, hT20⟩ := hR
   have hS := hS.join hT20
   refine sq_val (v_assign hF rfl) hF (by decide) (fun a hF => ?_)
   refine sq_val (v_assign hF rfl) hF (by decide) (fun a hF => ?_)
   refine sq_nil ?_
   refine then_n ?_
   refine wp_seq ?_
   refine wp_reg ?_
   refine sq_val (v_move hF rfl) hF (by decide) (fun a hF => ?_)
   refine sq_val (v_move hF rfl) hF (by decide) (fun a hF => ?_)
   obtain ⟨x21, hx22, h⟩ := bindS h
   refine sq_call hF pc48 rfl (by decide) (ok_region_For k (hS.enter ⟨⟨1, rfl⟩, trivial⟩) hx22) (fun v W hR a hF => ?_)
   obtain ⟨A23, c24, rfl, hT25⟩ := hR
   have hS := hS.join hT25
   refine sq_val (v_move hF rfl) hF (by decide) (fun a hF => ?_)
   refine sq_val (v_move hF rfl) hF (by decide) (fun a hF => ?_)
   obtain ⟨x26, hx27, h⟩ := bindS h
   refine sq_call hF pc49 rfl (by decide) (ok_ref19_For k (hS.enter ⟨⟨1, rfl⟩, trivial⟩) hx27) (fun v W hR a hF => ?_)
   obtain ⟨A28, c29, rfl, hT30⟩ := hR
   have hS := hS.join hT30
   refine sq_val (v_assign hF rfl) hF (by decide) (fun a hF => ?_)
   refine sq_val (v_assign hF rfl) hF (by decide) (fun a hF => ?_)
   refine sq_nil ?_
   refine then_n ?_
   refine wp_seq ?_
   refine wp_seq ?_
   refine wp_reg ?_
   obtain ⟨x31, hx32, h⟩ := bindS h
   refine sq_call hF pc33 rfl (by decide) (ok_law19_answers k (hS.enter trivial) hx32) (fun v W hR a hF => ?_)
   obtain ⟨rfl, hT33⟩ := hR
   have hS := hS.grow hT33.below
   refine sq_val (v_not hF rfl) hF (by decide) (fun a hF => ?_)
   refine sq_val (v_move hF rfl) hF (by decide) (fun a hF => ?_)
   refine sq_cut 6 (fun a W => FH 82 [(0, .slice A0_0 ((u0).length) c0_0), (5, .slice A13 ((x11).length) c14), (6, .slice A18 ((x16).length) c19), (7, .slice A23 ((x21).length) c24), (8, .slice A28 ((x26).length) c29), (35, .bool ((!x31) || ((x11.length : Int) != (x16.length : Int))))] a ∧ St M w0 [] [⟨k_TMod, 40, A28, c29, x26⟩, ⟨k_TMod, 40, A23, c24, x21⟩, ⟨k_TRegion, 63, A18, c19, x16⟩, ⟨k_TRegion, 63, A13, c14, x11⟩] [fSl k_TChange A7 c8 x9, fSl k_TChange A0_0 c0_0 u0] W) (fun a W hJ => ?_) ?_
   ·
    obtain ⟨hF, hS⟩ := hJ
    refine sq_val (v_move hF rfl) hF (by decide) (fun a hF => ?_)
    refine sq_cut 6 (fun a W => FH 82 [(0, .slice A0_0 ((u0).length) c0_0), (5, .slice A13 ((x11).length) c14), (6, .slice A18 ((x16).length) c19), (7, .slice A23 ((x21).length) c24), (8, .slice A28 ((x26).length) c29), (42, .bool (((!x31) || ((x11.length : Int) != (x16.length : Int))) || ((x21.length : Int) != (x26.length : Int))))] a ∧ St M w0 [] [⟨k_TMod, 40, A28, c29, x26⟩, ⟨k_TMod, 40, A23, c24, x21⟩, ⟨k_TRegion, 63, A18, c19, x16⟩, ⟨k_TRegion, 63, A13, c14, x11⟩] [fSl k_TChange A7 c8 x9, fSl k_TChange A0_0 c0_0 u0] W) (fun a W hJ => ?_) ?_
    ·
     obtain ⟨hF, hS⟩ := hJ
     refine sq_val (v_move hF rfl) hF (by decide) (fun a hF => ?_)
     obtain ⟨x37, h, hk39⟩ := bindS h
     refine sq_cut 7 (fun a W => FH 82 [(5, .slice A13 ((x11).length) c14), (6, .slice A18 ((x16).length) c19), (7, .slice A23 ((x21).length) c24), (8, .slice A28 ((x26).length) c29), (50, .bool x37)] a ∧ St M w0 [] [⟨k_TMod, 40, A28, c29, x26⟩, ⟨k_TMod, 40, A23, c24, x21⟩, ⟨k_TRegion, 63, A18, c19, x16⟩, ⟨k_TRegion, 63, A13, c14, x11⟩] [fSl k_TChange A7 c8 x9, fSl k_TChange A0_0 c0_0 u0] W) (fun a W hJ => ?_) ?_
     ·
      have h := hk39
      obtain ⟨hF, hS⟩ := hJ
      refine sq_nil ?_
      refine then_n ?_
      refine wp_if hF rfl (fun he53 => ?_) (fun he53 => ?_)
      ·
       replace h := ifT he53 h
       refine wp_seq ?_
       refine wp_reg ?_
       refine sq_val (v_assign hF rfl) hF (by decide) (fun a hF => ?_)
       refine sq_nil ?_
       refine then_n ?_
       refine wp_ret ?_
       refine then_r ?_
       obtain rfl := Option.some.inj h
       exact ret1 hF rfl (rv_tmp hF rfl) ⟨_, rfl, rfl, (hS.keep (List.Sublist.refl _) (List.nil_sublist _) trivial)⟩
      ·
       replace h := ifF he53 h
       refine wp_skip ?_
       refine then_n ?_
       refine wp_seq ?_
       refine wp_seq ?_
       refine wp_reg ?_
       refine sq_val (v_assign hF rfl) hF (by decide) (fun a hF => ?_)
       refine sq_nil ?_
       refine then_n ?_
       obtain ⟨o56, h, hk57⟩ := bindS h
       refine wp_join (fun a W => Lo.brk () = o56 ∧ FH 82 [(7, .slice A23 ((x21).length) c24), (8, .slice A28 ((x26).length) c29)] a ∧ St M w0 [] [⟨k_TMod, 40, A28, c29, x26⟩, ⟨k_TMod, 40, A23, c24, x21⟩] [] W) (fun a W hJ => ?_) ?_
       ·
        obtain ⟨rfl, hF, hS⟩ := hJ
        have h := hk57
        dsimp only at h
        refine then_n ?_
        refine wp_seq ?_
        refine wp_seq ?_
        refine wp_reg ?_
        refine sq_val (v_assign hF rfl) hF (by decide) (fun a hF => ?_)
        refine sq_nil ?_
        refine then_n ?_
        obtain ⟨o60, h, hk61⟩ := bindS h
        refine wp_join (fun a W => Lo.brk () = o60 ∧ FH 82 [] a ∧ St M w0 [] [] [] W) (fun a W hJ => ?_) ?_
        ·
         obtain ⟨rfl, hF, hS⟩ := hJ
         have h := hk61
         dsimp only at h
         refine then_n ?_
         refine wp_seq ?_
         refine wp_reg ?_
         refine sq_val (v_assign hF rfl) hF (by decide) (fun a hF => ?_)
         refine sq_nil ?_
         refine then_n ?_
         refine wp_ret ?_
         obtain rfl := Option.some.inj h
         exact ret1 hF rfl (rv_tmp hF rfl) ⟨_, rfl, rfl, hS⟩
        ·
         refine wp_block ?_
         refine wp_loop_fuel (I := fun m a W => ∃ (x59 : Int), FH 82 [(7, .slice A23 ((x21).length) c24), (8, .slice A28 ((x26).length) c29), (10, .int .i64 (x59))] a ∧ St M w0 [] [⟨k_TMod, 40, A28, c29, x26⟩, ⟨k_TMod, 40, A23, c24, x21⟩] [] W ∧ (law19_RegionOf.l1 k x21 x26 m x59) = some o60) ?_ (k := k) ⟨0, (hF.keep ⟨rfl, rfl, rfl, trivial⟩), hS, h⟩
         rintro m62 a W ⟨x59, hF, hS, h⟩
         cases m62 with
         | zero => cases h
         | succ m62 =>
          rw [law19_RegionOf.l1] at h
          refine wp_seq ?_
          refine wp_seq ?_
          refine wp_reg ?_
          refine sq_val (v_move hF rfl) hF (by decide) (fun a hF => ?_)
          refine sq_val (v_move hF rfl) hF (by decide) (fun a hF => ?_)
          refine sq_val (v_len hF rfl pu48) hF (by decide) (fun a hF => ?_)
          refine sq_val (v_lss hF rfl rfl) hF (by decide) (fun a hF => ?_)
          refine sq_nil ?_
          refine then_n ?_
          refine wp_if hF rfl (fun he63 => ?_) (fun he63 => ?_)
          ·
           replace h := ifT he63 h
           refine wp_skip ?_
           refine then_n ?_
           refine wp_seq ?_
           refine wp_block ?_
           refine wp_seq ?_
           refine wp_quiet rfl (by kernel_rfl) hS ?_
           refine qt_val (fun W hC => (v_move hF rfl)) hF (by decide) (fun a hF => ?_)
           refine qt_val (fun W hC => (v_move hF rfl)) hF (by decide) (fun a hF => ?_)
           obtain ⟨x64, hx65, h⟩ := bindS h
           obtain ⟨p66, cs67, hA68, hc70, hr71⟩ := Row.ok.at (hS.rw_ (i := 1) rfl) hx65
           obtain ⟨A72, c73, rfl, hs74⟩ := hr71
           refine qt_val (fun W hC => (v_idx hF rfl hA68 rfl psl48 hx65)) hF (by decide) (fun a hF => ?_)
           refine qt_val (fun W hC => (v_load (cs := TMod.enc x64 A72 c73) hF rfl pa40 ps40 (hc70.grow hC.1))) hF (by decide) (fun a hF => ?_)
           refine qt_val (fun W hC => (v_move hF rfl)) hF (by decide) (fun a hF => ?_)
           refine qt_val (fun W hC => (v_move hF rfl)) hF (by decide) (fun a hF => ?_)
           obtain ⟨x75, hx76, h⟩ := bindS h
           obtain ⟨p77, cs78, hA79, hc81, hr82⟩ := Row.ok.at (hS.rw_ (i := 0) rfl) hx76
           obtain ⟨A83, c84, rfl, hs85⟩ := hr82
           refine qt_val (fun W hC => (v_idx hF rfl hA79 rfl psl48 hx76)) hF (by decide) (fun a hF => ?_)
           refine qt_val (fun W hC => (v_load (cs := TMod.enc x75 A83 c84) hF rfl pa40 ps40 (hc81.grow hC.1))) hF (by decide) (fun a hF => ?_)
           obtain ⟨x86, hx87, h⟩ := bindS h
           refine qt_call hF pc53 rfl (by decide) (fun W hC => q_of hC (ok_ref04_SameMods k (((hC.2.addFact (f := fSl k_TAct A72 c73 x64.Acts) ((fSl k_TAct A72 c73 x64.Acts).st hs74 (Stp.below hC.1))).addFact (f := fSl k_TAct A83 c84 x75.Acts) ((fSl k_TAct A83 c84 x75.Acts).st hs85 (Stp.below hC.1))).enter ⟨⟨1, rfl⟩, ⟨0, rfl⟩, trivial⟩) hx87)) (fun a hF => ?_)
           refine qt_val (fun W hC => (v_not hF rfl)) hF (by decide) (fun a hF => ?_)
           refine qt_nil ?_
           intro W hC
           have hS := hC.2
           refine then_n ?_
           refine wp_if hF rfl (fun he88 => ?_) (fun he88 => ?_)
           ·
            replace h := ifT he88 h
            refine wp_seq ?_
            refine wp_reg ?_
            refine sq_val (v_assign hF rfl) hF (by decide) (fun a hF => ?_)
            refine sq_nil ?_
            refine then_n ?_
            refine wp_ret ?_
            refine blk_r ?_
            refine then_r ?_
            refine then_r ?_
            refine blk_r ?_
            refine then_r ?_
            refine then_r ?_
            obtain rfl := Option.some.inj h
            have h := hk61
            dsimp only at h
            obtain rfl := Option.some.inj h
            exact ret1 hF rfl (rv_tmp hF rfl) ⟨_, rfl, rfl, (hS.keep (List.Sublist.refl _) (List.nil_sublist _) trivial)⟩
           ·
            replace h := ifF he88 h
            refine wp_skip ?_
            refine blk_n ?_
            refine then_n ?_
            refine wp_reg ?_
            refine sq_val (v_move hF rfl) hF (by decide) (fun a hF => ?_)
            refine sq_val (v_add hF rfl rfl) hF (by decide) (fun a hF => ?_)
            refine sq_val (v_assign hF rfl) hF (by decide) (fun a hF => ?_)
            refine sq_nil ?_
            exact then_j ⟨m62, Nat.lt_succ_self _, (IntKind.i64.wrap (x59 + 1)), (hF.keep ⟨rfl, rfl, rfl, trivial⟩), hS, h⟩
          ·
           replace h := ifF he63 h
           refine wp_exit ?_
           refine then_x ?_
           refine then_x ?_
           refine blk_hit ?_
           obtain rfl := Option.some.inj h
           exact then_j ⟨rfl, (hF.keep trivial), (hS.keep (List.Sublist.refl _) (List.nil_sublist _) trivial)⟩
       ·
        refine wp_block ?_
        refine wp_loop_fuel (I := fun m a W => ∃ (x55 : Int), FH 82 [(5, .slice A13 ((x11).length) c14), (6, .slice A18 ((x16).length) c19), (7, .slice A23 ((x21).length) c24), (8, .slice A28 ((x26).length) c29), (9, .int .i64 (x55))] a ∧ St M w0 [] [⟨k_TMod, 40, A28, c29, x26⟩, ⟨k_TMod, 40, A23, c24, x21⟩, ⟨k_TRegion, 63, A18, c19, x16⟩, ⟨k_TRegion, 63, A13, c14, x11⟩] [] W ∧ (law19_RegionOf.l0 k x11 x16 m x55) = some o56) ?_ (k := k) ⟨0, (hF.keep ⟨rfl, rfl, rfl, rfl, rfl, trivial⟩), (hS.keep (List.Sublist.refl _) (List.Sublist.refl _) trivial), h⟩
        rintro m89 a W ⟨x55, hF, hS, h⟩
        cases m89 with
        | zero => cases h
        | succ m89 =>
         rw [law19_RegionOf.l0] at h
         refine wp_seq ?_
         refine wp_seq ?_
         refine wp_reg ?_
         refine sq_val (v_move hF rfl) hF (by decide) (fun a hF => ?_)
         refine sq_val (v_move hF rfl) hF (by decide) (fun a hF => ?_)
         refine sq_val (v_len hF rfl pu57) hF (by decide) (fun a hF => ?_)
         refine sq_val (v_lss hF rfl rfl) hF (by decide) (fun a hF => ?_)
         refine sq_nil ?_
         refine then_n ?_
         refine wp_if hF rfl (fun he90 => ?_) (fun he90 => ?_)
         ·
          replace h := ifT he90 h
          refine wp_skip ?_
          refine then_n ?_
          refine wp_seq ?_
          refine wp_block ?_
          refine wp_seq ?_
          refine wp_quiet rfl (by kernel_rfl) hS ?_
          refine qt_val (fun W hC => (v_move hF rfl)) hF (by decide) (fun a hF => ?_)
          refine qt_val (fun W hC => (v_move hF rfl)) hF (by decide) (fun a hF => ?_)
          obtain ⟨x91, hx92, h⟩ := bindS h
          obtain ⟨p93, cs94, hA95, hc97, hr98⟩ := Row.ok.at (hS.rw_ (i := 3) rfl) hx92
          obtain rfl : cs94 = TRegion.enc x91 := hr98
          refine qt_val (fun W hC => (v_idx hF rfl hA95 rfl psl57 hx92)) hF (by decide) (fun a hF => ?_)
          refine qt_val (fun W hC => (v_load (cs := TRegion.enc x91) hF rfl pa63 ps63 (hc97.grow hC.1))) hF (by decide) (fun a hF => ?_)
          refine qt_val (fun W hC => (v_move hF rfl)) hF (by decide) (fun a hF => ?_)
          refine qt_val (fun W hC => (v_move hF rfl)) hF (by decide) (fun a hF => ?_)
          obtain ⟨x99, hx100, h⟩ := bindS h
          obtain ⟨p101, cs102, hA103, hc105, hr106⟩ := Row.ok.at (hS.rw_ (i := 2) rfl) hx100
          obtain rfl : cs102 = TRegion.enc x99 := hr106
          refine qt_val (fun W hC => (v_idx hF rfl hA103 rfl psl57 hx100)) hF (by decide) (fun a hF => ?_)
          refine qt_val (fun W hC => (v_load (cs := TRegion.enc x99) hF rfl pa63 ps63 (hc105.grow hC.1))) hF (by decide) (fun a hF => ?_)
          refine qt_val (fun W hC => (eq63 hF rfl rfl).2) hF (by decide) (fun a hF => ?_)
          refine qt_nil ?_
          intro W hC
          have hS := hC.2
          refine then_n ?_
          refine wp_if hF rfl (fun he107 => ?_) (fun he107 => ?_)
          ·
           replace h := ifT he107 h
           refine wp_seq ?_
           refine wp_reg ?_
           refine sq_val (v_assign hF rfl) hF (by decide) (fun a hF => ?_)
           refine sq_nil ?_
           refine then_n ?_
           refine wp_ret ?_
           refine blk_r ?_
           refine then_r ?_
           refine then_r ?_
           refine blk_r ?_
           refine then_r ?_
           refine then_r ?_
           obtain rfl := Option.some.inj h
           have h := hk57
           dsimp only at h
           obtain rfl := Option.some.inj h
           exact ret1 hF rfl (rv_tmp hF rfl) ⟨_, rfl, rfl, (hS.keep (List.Sublist.refl _) (List.nil_sublist _) trivial)⟩
          ·
           replace h := ifF he107 h
           refine wp_skip ?_
           refine blk_n ?_
           refine then_n ?_
           refine wp_reg ?_
           refine sq_val (v_move hF rfl) hF (by decide) (fun a hF => ?_)
           refine sq_val (v_add hF rfl rfl) hF (by decide) (fun a hF => ?_)
           refine sq_val (v_assign hF rfl) hF (by decide) (fun a hF => ?_)
           refine sq_nil ?_
           exact then_j ⟨m89, Nat.lt_succ_self _, (IntKind.i64.wrap (x55 + 1)), (hF.keep ⟨rfl, rfl, rfl, rfl, rfl, trivial⟩), hS, h⟩
         ·
          replace h := ifF he90 h
          refine wp_exit ?_
          refine then_x ?_
          refine then_x ?_
          refine blk_hit ?_
          obtain rfl := Option.some.inj h
          exact then_j ⟨rfl, (hF.keep ⟨rfl, rfl, trivial⟩), (hS.keep (List.Sublist.refl _) (.cons_cons _ (.cons_cons _ (List.nil_sublist _))) trivial)⟩
     ·
      by_cases he36 : (((!x31) || ((x11.length : Int) != (x16.length : Int))) || ((x21.length : Int) != (x26.length : Int))) = true
      ·
       replace h := ifT he36 h
       refine sq_no hF rfl rfl he36 (by rintro x ⟨⟩; decide) (fun a hF => ?_)
       refine sq_no hF rfl rfl he36 (by rintro x ⟨⟩; decide) (fun a hF => ?_)
       refine sq_no hF rfl rfl he36 (by rintro x ⟨⟩; decide) (fun a hF => ?_)
       refine sq_no hF rfl rfl he36 (by rintro x ⟨⟩; decide) (fun a hF => ?_)
       refine sq_no hF rfl rfl he36 (by rintro x ⟨⟩; decide) (fun a hF => ?_)
       refine sq_no hF rfl rfl he36 (by rintro x ⟨⟩; decide) (fun a hF => ?_)
       refine sq_val (v_pick_t hF rfl he36 rfl) hF (by decide) (fun a hF => ?_)
       obtain rfl := Option.some.inj h
       exact sq_nil (then_j ⟨(hF.keep ⟨rfl, rfl, rfl, rfl, rfl, trivial⟩), hS⟩)
      ·
       have he36 : (((!x31) || ((x11.length : Int) != (x16.length : Int))) || ((x21.length : Int) != (x26.length : Int))) = false := nB he36
       replace h := ifF he36 h
       refine sq_yes hF rfl rfl he36 ?_
       refine sq_val (v_move hF rfl) hF (by decide) (fun a hF => ?_)
       refine sq_yes hF rfl rfl he36 ?_
       obtain ⟨x40, hx41, h⟩ := bindS h
       refine sq_call hF pc51 rfl (by decide) (ok_region_Units k (hS.enter ⟨⟨1, rfl⟩, trivial⟩) hx41) (fun v W hR a hF => ?_)
       obtain ⟨A42, c43, rfl, hT44⟩ := hR
       have hS := hS.join hT44
       refine sq_yes hF rfl rfl he36 ?_
       refine sq_val (v_move hF rfl) hF (by decide) (fun a hF => ?_)
       refine sq_yes hF rfl rfl he36 ?_
       obtain ⟨x45, hx46, h⟩ := bindS h
       refine sq_call hF pc52 rfl (by decide) (ok_ref19_Units k (hS.enter ⟨⟨2, rfl⟩, trivial⟩) hx46) (fun v W hR a hF => ?_)
       obtain ⟨A47, c48, rfl, hT49⟩ := hR
       have hS := hS.join hT49
       refine sq_yes hF rfl rfl he36 ?_
       obtain ⟨x50, hx51, h⟩ := bindS h
       refine sq_call hF pc50 rfl (by decide) (ok_ref01_Ints k ((hS.freeze (i := 0) rfl (posB rfl)).enter ⟨⟨1, rfl⟩, ⟨0, rfl⟩, trivial⟩) hx51) (fun v W hR a hF => ?_)
       obtain ⟨rfl, hT52⟩ := hR
       have hS := hS.grow hT52.below
       refine sq_yes hF rfl rfl he36 ?_
       refine sq_val (v_not hF rfl) hF (by decide) (fun a hF => ?_)
       refine sq_val (v_pick_f hF rfl he36 rfl) hF (by decide) (fun a hF => ?_)
       obtain rfl := Option.some.inj h
       exact sq_nil (then_j ⟨(hF.keep ⟨rfl, rfl, rfl, rfl, rfl, trivial⟩), (hS.keep (List.Sublist.refl _) (.cons _ (List.Sublist.refl _)) ⟨⟨1, rfl⟩, ⟨2, rfl⟩, trivial⟩)⟩)
    ·
     by_cases he35 : ((!x31) || ((x11.length : Int) != (x16.length : Int))) = true
     ·
      refine sq_no hF rfl rfl he35 (by rintro x ⟨⟩; decide) (fun a hF => ?_)
      refine sq_no hF rfl rfl he35 (by rintro x ⟨⟩; decide) (fun a hF => ?_)
      refine sq_no hF rfl rfl he35 (by rintro x ⟨⟩; decide) (fun a hF => ?_)
      refine sq_no hF rfl rfl he35 (by rintro x ⟨⟩; decide) (fun a hF => ?_)
      refine sq_no hF rfl rfl he35 (by rintro x ⟨⟩; decide) (fun a hF => ?_)
      refine sq_val (v_pick_t hF rfl he35 rfl) hF (by decide) (fun a hF => ?_)
      exact sq_nil (then_j ⟨(hF.keep ⟨rfl, rfl, rfl, rfl, rfl, (boolV (or_t he35)), trivial⟩), hS⟩)
     ·
      have he35 : ((!x31) || ((x11.length : Int) != (x16.length : Int))) = false := nB he35
      refine sq_yes hF rfl rfl he35 ?_
      refine sq_val (v_move hF rfl) hF (by decide) (fun a hF => ?_)
      refine sq_yes hF rfl rfl he35 ?_
      refine sq_val (v_len hF rfl pu48) hF (by decide) (fun a hF => ?_)
      refine sq_yes hF rfl rfl he35 ?_
      refine sq_val (v_move hF rfl) hF (by decide) (fun a hF => ?_)
      refine sq_yes hF rfl rfl he35 ?_
      refine sq_val (v_len hF rfl pu48) hF (by decide) (fun a hF => ?_)
      refine sq_yes hF rfl rfl he35 ?_
      refine sq_val (v_neq hF rfl rfl) hF (by decide) (fun a hF => ?_)
      refine sq_val (v_pick_f hF rfl he35 rfl) hF (by decide) (fun a hF => ?_)
      exact sq_nil (then_j ⟨(hF.keep ⟨rfl, rfl, rfl, rfl, rfl, (boolV (or_f he35)), trivial⟩), hS⟩)
   ·
    by_cases he34 : (!x31) = true
    ·
     refine sq_no hF rfl rfl he34 (by rintro x ⟨⟩; decide) (fun a hF => ?_)
     refine sq_no hF rfl rfl he34 (by rintro x ⟨⟩; decide) (fun a hF => ?_)
     refine sq_no hF rfl rfl he34 (by rintro x ⟨⟩; decide) (fun a hF => ?_)
     refine sq_no hF rfl rfl he34 (by rintro x ⟨⟩; decide) (fun a hF => ?_)
     refine sq_no hF rfl rfl he34 (by rintro x ⟨⟩; decide) (fun a hF => ?_)
     refine sq_val (v_pick_t hF rfl he34 rfl) hF (by decide) (fun a hF => ?_)
     exact sq_nil (then_j ⟨(hF.keep ⟨rfl, rfl, rfl, rfl, rfl, (boolV (or_t he34)), trivial⟩), hS⟩)
    ·
     have he34 : (!x31) = false := nB he34
     refine sq_yes hF rfl rfl he34 ?_
     refine sq_val (v_move hF rfl) hF (by decide) (fun a hF => ?_)
     refine sq_yes hF rfl rfl he34 ?_
     refine sq_val (v_len hF rfl pu57) hF (by decide) (fun a hF => ?_)
     refine sq_yes hF rfl rfl he34 ?_
     refine sq_val (v_move hF rfl) hF (by decide) (fun a hF => ?_)
     refine sq_yes hF rfl rfl he34 ?_
     refine sq_val (v_len hF rfl pu57) hF (by decide) (fun a hF => ?_)
     refine sq_yes hF rfl rfl he34 ?_
     refine sq_val (v_neq hF rfl rfl) hF (by decide) (fun a hF => ?_)
     refine sq_val (v_pick_f hF rfl he34 rfl) hF (by decide) (fun a hF => ?_)
     exact sq_nil (then_j ⟨(hF.keep ⟨rfl, rfl, rfl, rfl, rfl, (boolV (or_f he34)), trivial⟩), hS⟩)
end Go.Proofs.Ytangebngeeamoaa
