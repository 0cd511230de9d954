/- What calls of the Go functions come to. -/
import Derived.Test.YtangebngeeamoaaW14
set_option linter.unusedVariables false
set_option linter.unusedSimpArgs false
set_option maxRecDepth 100000
set_option maxHeartbeats 4000000
namespace Go.Proofs.Ytangebngeeamoaa
open Go.RowKit Go.Pod
theorem ok_ref04_SameActs (k : Nat) {M : Nat → Prop} {w0 : World} {u0 : List TAct} {A0_0 : Option Addr} {c0_0 : Nat} {u1 : List TAct} {A1_0 : Option Addr} {c1_0 : Nat} {o : Bool} (hS : St M w0 [] [] [fSl k_TAct A0_0 c0_0 u0, fSl k_TAct A1_0 c1_0 u1] w0) (h : ref04_SameActs k u0 u1 = some o) :
    Calls Try.prog 108 #[.slice A0_0 ((u0).length) c0_0, .slice A1_0 ((u1).length) c1_0] w0 fun e W' => ∃ v, e = .returned v ∧ (v = .bool (o) ∧ St M w0 [] [] [] W') := by
  unfold ref04_SameActs at h
  refine calls_start (args := [.slice A0_0 ((u0).length) c0_0, .slice A1_0 ((u1).length) c1_0]) Try.func108 rfl rfl (Nat.le_of_ble_eq_true rfl) (fun a hF => ?_)
  refine wp_seq ?_
  refine wp_reg ?_
  refine sq_val (v_assign hF rfl) hF (by decide) (fun a hF => ?_)
  refine sq_nil ?_
  refine then_n ?_
  refine wp_seq ?_
  refine wp_seq ?_
  refine wp_reg ?_
  refine sq_val (v_move hF rfl) hF (by decide) (fun a hF => ?_)
  refine sq_val (v_len hF rfl pu38) hF (by decide) (fun a hF => ?_)
  refine sq_val (v_move hF rfl) hF (by decide) (fun a hF => ?_)
  refine sq_val (v_len hF rfl pu38) hF (by decide) (fun a hF => ?_)
  refine sq_val (v_neq hF rfl rfl) hF (by decide) (fun a hF => ?_)
  refine sq_nil ?_
  refine then_n ?_
  refine wp_if hF rfl (fun he1 => ?_) (fun he1 => ?_)
  ·
   replace h := ifT he1 h
   refine wp_seq ?_
   refine wp_reg ?_
   refine sq_val (v_assign hF rfl) hF (by decide) (fun a hF => ?_)
   refine sq_nil ?_
   refine then_n ?_
   refine wp_ret ?_
   refine then_r ?_
   obtain rfl := Option.some.inj h
   exact ret1 hF rfl (rv_tmp hF rfl) ⟨_, rfl, rfl, (hS.keep (List.Sublist.refl _) (List.Sublist.refl _) trivial)⟩
  ·
   replace h := ifF he1 h
   refine wp_skip ?_
   refine then_n ?_
   refine wp_seq ?_
   refine wp_seq ?_
   refine wp_reg ?_
   refine sq_val (v_assign hF rfl) hF (by decide) (fun a hF => ?_)
   refine sq_nil ?_
   refine then_n ?_
   obtain ⟨o4, h, hk5⟩ := bindS h
   refine wp_join (fun a W => Lo.brk () = o4 ∧ FH 26 [] a ∧ St M w0 [] [] [] W) (fun a W hJ => ?_) ?_
   ·
    obtain ⟨rfl, hF, hS⟩ := hJ
    have h := hk5
    dsimp only at h
    refine then_n ?_
    refine wp_seq ?_
    refine wp_reg ?_
    refine sq_val (v_assign hF rfl) hF (by decide) (fun a hF => ?_)
    refine sq_nil ?_
    refine then_n ?_
    refine wp_ret ?_
    obtain rfl := Option.some.inj h
    exact ret1 hF rfl (rv_tmp hF rfl) ⟨_, rfl, rfl, hS⟩
   ·
    refine wp_block ?_
    refine wp_loop_fuel (I := fun m a W => ∃ (x3 : Int), FH 26 [(0, .slice A0_0 ((u0).length) c0_0), (1, .slice A1_0 ((u1).length) c1_0), (5, .int .i64 (x3))] a ∧ St M w0 [] [] [fSl k_TAct A0_0 c0_0 u0, fSl k_TAct A1_0 c1_0 u1] W ∧ (ref04_SameActs.l0 k u0 u1 m x3) = some o4) ?_ (k := k) ⟨0, (hF.keep ⟨rfl, rfl, rfl, trivial⟩), hS, h⟩
    rintro m6 a W ⟨x3, hF, hS, h⟩
    cases m6 with
    | zero => cases h
    | succ m6 =>
     rw [ref04_SameActs.l0] at h
     refine wp_seq ?_
     refine wp_seq ?_
     refine wp_reg ?_
     refine sq_val (v_move hF rfl) hF (by decide) (fun a hF => ?_)
     refine sq_val (v_move hF rfl) hF (by decide) (fun a hF => ?_)
     refine sq_val (v_len hF rfl pu38) hF (by decide) (fun a hF => ?_)
     refine sq_val (v_lss hF rfl rfl) hF (by decide) (fun a hF => ?_)
     refine sq_nil ?_
     refine then_n ?_
     refine wp_if hF rfl (fun he7 => ?_) (fun he7 => ?_)
     ·
      replace h := ifT he7 h
      refine wp_skip ?_
      refine then_n ?_
      refine wp_seq ?_
      refine wp_block ?_
      refine wp_seq ?_
      refine wp_quiet rfl (by kernel_rfl) hS ?_
      refine qt_val (fun W hC => (v_move hF rfl)) hF (by decide) (fun a hF => ?_)
      refine qt_val (fun W hC => (v_move hF rfl)) hF (by decide) (fun a hF => ?_)
      obtain ⟨x8, hx9, h⟩ := bindS h
      obtain ⟨p10, cs11, hA12, hat13⟩ := SlR.at (hS.fc (i := 0) rfl) hx9
      obtain rfl : cs11 = TAct.enc x8 := hat13.2.2.2
      refine qt_val (fun W hC => (v_idx hF rfl hA12 rfl psl38 hx9)) hF (by decide) (fun a hF => ?_)
      refine qt_val (fun W hC => (v_load (cs := TAct.enc x8) hF rfl pa94 ps94 (hat13.2.2.1.grow hC.1))) hF (by decide) (fun a hF => ?_)
      refine qt_val (fun W hC => (v_move hF rfl)) hF (by decide) (fun a hF => ?_)
      refine qt_val (fun W hC => (v_move hF rfl)) hF (by decide) (fun a hF => ?_)
      obtain ⟨x14, hx15, h⟩ := bindS h
      obtain ⟨p16, cs17, hA18, hat19⟩ := SlR.at (hS.fc (i := 1) rfl) hx15
      obtain rfl : cs17 = TAct.enc x14 := hat19.2.2.2
      refine qt_val (fun W hC => (v_idx hF rfl hA18 rfl psl38 hx15)) hF (by decide) (fun a hF => ?_)
      refine qt_val (fun W hC => (v_load (cs := TAct.enc x14) hF rfl pa94 ps94 (hat19.2.2.1.grow hC.1))) hF (by decide) (fun a hF => ?_)
      refine qt_val (fun W hC => (eq94 hF rfl rfl).2) hF (by decide) (fun a hF => ?_)
      refine qt_nil ?_
      intro W hC
      have hS := hC.2
      refine then_n ?_
      refine wp_if hF rfl (fun he20 => ?_) (fun he20 => ?_)
      ·
       replace h := ifT he20 h
       refine wp_seq ?_
       refine wp_reg ?_
       refine sq_val (v_assign hF rfl) hF (by decide) (fun a hF => ?_)
       refine sq_nil ?_
       refine then_n ?_
       refine wp_ret ?_
       refine blk_r ?_
       refine then_r ?_
       refine then_r ?_
       refine blk_r ?_
       refine then_r ?_
       refine then_r ?_
       obtain rfl := Option.some.inj h
       have h := hk5
       dsimp only at h
       obtain rfl := Option.some.inj h
       exact ret1 hF rfl (rv_tmp hF rfl) ⟨_, rfl, rfl, (hS.keep (List.Sublist.refl _) (List.Sublist.refl _) trivial)⟩
      ·
       replace h := ifF he20 h
       refine wp_skip ?_
       refine blk_n ?_
       refine then_n ?_
       refine wp_reg ?_
       refine sq_val (v_move hF rfl) hF (by decide) (fun a hF => ?_)
       refine sq_val (v_add hF rfl rfl) hF (by decide) (fun a hF => ?_)
       refine sq_val (v_assign hF rfl) hF (by decide) (fun a hF => ?_)
       refine sq_nil ?_
       exact then_j ⟨m6, Nat.lt_succ_self _, (IntKind.i64.wrap (x3 + 1)), (hF.keep ⟨rfl, rfl, rfl, trivial⟩), hS, h⟩
     ·
      replace h := ifF he7 h
      refine wp_exit ?_
      refine then_x ?_
      refine then_x ?_
      refine blk_hit ?_
      obtain rfl := Option.some.inj h
      exact then_j ⟨rfl, (hF.keep trivial), (hS.keep (List.Sublist.refl _) (List.Sublist.refl _) trivial)⟩

theorem ok_ref04_Equal (k : Nat) {M : Nat → Prop} {w0 : World} {u0 : TRule} {A0_0 : Option Addr} {c0_0 : Nat} {u1 : TRule} {A1_0 : Option Addr} {c1_0 : Nat} {o : Bool} (hS : St M w0 [] [] [fSl k_TAct A0_0 c0_0 u0.Acts, fSl k_TAct A1_0 c1_0 u1.Acts] w0) (h : ref04_Equal k u0 u1 = some o) :
    Calls Try.prog 75 #[.agg (TRule.enc u0 A0_0 c0_0).toArray, .agg (TRule.enc u1 A1_0 c1_0).toArray] w0 fun e W' => ∃ v, e = .returned v ∧ (v = .bool (o) ∧ St M w0 [] [] [] W') := by
  unfold ref04_Equal at h
  refine calls_start (args := [.agg (TRule.enc u0 A0_0 c0_0).toArray, .agg (TRule.enc u1 A1_0 c1_0).toArray]) Try.func75 rfl rfl (Nat.le_of_ble_eq_true rfl) (fun a hF => ?_)
  refine wp_seq ?_
  refine wp_reg ?_
  refine sq_box hF hS rfl rfl (by decide) (fun b1 a W hF hS => ?_)
  refine sq_box hF hS rfl rfl (by decide) (fun b2 a W hF hS => ?_)
  refine sq_val (v_assign hF rfl) hF (by decide) (fun a hF => ?_)
  refine sq_nil ?_
  refine then_n ?_
  refine wp_seq ?_
  refine wp_reg ?_
  refine sq_val (v_load (cs := TRule.enc u0 A0_0 c0_0) hF rfl pa65 ps65 (hS.bc (i := 1) rfl)) hF (by decide) (fun a hF => ?_)
  refine sq_val (v_load (cs := TRule.enc u1 A1_0 c1_0) hF rfl pa65 ps65 (hS.bc (i := 0) rfl)) hF (by decide) (fun a hF => ?_)
  obtain ⟨x3, hx4, h⟩ := bindS h
  refine sq_call hF pc71 rfl (by decide) (ok_ref04_Key (hS.enter ⟨⟨0, rfl⟩, ⟨1, rfl⟩, trivial⟩) hx4) (fun v W hR a hF => ?_)
  obtain ⟨rfl, hT5⟩ := hR
  have hS := hS.grow hT5.below
  refine sq_val (v_move hF rfl) hF (by decide) (fun a hF => ?_)
  obtain ⟨x7, h, hk9⟩ := bindS h
  refine sq_cut 6 (fun a W => FH 57 [(2, .pointer (some (⟨b1, 0, none⟩))), (3, .pointer (some (⟨b2, 0, none⟩))), (14, .bool x7)] a ∧ St M w0 [⟨b2, TRule.enc u1 A1_0 c1_0, 65⟩, ⟨b1, TRule.enc u0 A0_0 c0_0, 65⟩] [] [fSl k_TAct A0_0 c0_0 u0.Acts, fSl k_TAct A1_0 c1_0 u1.Acts] W) (fun a W hJ => ?_) ?_
  ·
   have h := hk9
   obtain ⟨hF, hS⟩ := hJ
   refine sq_val (v_move hF rfl) hF (by decide) (fun a hF => ?_)
   refine sq_cut 6 (fun a W => FH 57 [(2, .pointer (some (⟨b1, 0, none⟩))), (3, .pointer (some (⟨b2, 0, none⟩))), (21, .bool (x7 && (u0.Idle == u1.Idle)))] a ∧ St M w0 [⟨b2, TRule.enc u1 A1_0 c1_0, 65⟩, ⟨b1, TRule.enc u0 A0_0 c0_0, 65⟩] [] [fSl k_TAct A0_0 c0_0 u0.Acts, fSl k_TAct A1_0 c1_0 u1.Acts] W) (fun a W hJ => ?_) ?_
   ·
    obtain ⟨hF, hS⟩ := hJ
    refine sq_val (v_move hF rfl) hF (by decide) (fun a hF => ?_)
    refine sq_cut 6 (fun a W => FH 57 [(2, .pointer (some (⟨b1, 0, none⟩))), (3, .pointer (some (⟨b2, 0, none⟩))), (28, .bool ((x7 && (u0.Idle == u1.Idle)) && (u0.Hard == u1.Hard)))] a ∧ St M w0 [⟨b2, TRule.enc u1 A1_0 c1_0, 65⟩, ⟨b1, TRule.enc u0 A0_0 c0_0, 65⟩] [] [fSl k_TAct A0_0 c0_0 u0.Acts, fSl k_TAct A1_0 c1_0 u1.Acts] W) (fun a W hJ => ?_) ?_
    ·
     obtain ⟨hF, hS⟩ := hJ
     refine sq_val (v_move hF rfl) hF (by decide) (fun a hF => ?_)
     refine sq_cut 6 (fun a W => FH 57 [(2, .pointer (some (⟨b1, 0, none⟩))), (3, .pointer (some (⟨b2, 0, none⟩))), (35, .bool (((x7 && (u0.Idle == u1.Idle)) && (u0.Hard == u1.Hard)) && (u0.Owner == u1.Owner)))] a ∧ St M w0 [⟨b2, TRule.enc u1 A1_0 c1_0, 65⟩, ⟨b1, TRule.enc u0 A0_0 c0_0, 65⟩] [] [fSl k_TAct A0_0 c0_0 u0.Acts, fSl k_TAct A1_0 c1_0 u1.Acts] W) (fun a W hJ => ?_) ?_
     ·
      obtain ⟨hF, hS⟩ := hJ
      refine sq_val (v_move hF rfl) hF (by decide) (fun a hF => ?_)
      refine sq_cut 6 (fun a W => FH 57 [(2, .pointer (some (⟨b1, 0, none⟩))), (3, .pointer (some (⟨b2, 0, none⟩))), (42, .bool ((((x7 && (u0.Idle == u1.Idle)) && (u0.Hard == u1.Hard)) && (u0.Owner == u1.Owner)) && (u0.Hits == u1.Hits)))] a ∧ St M w0 [⟨b2, TRule.enc u1 A1_0 c1_0, 65⟩, ⟨b1, TRule.enc u0 A0_0 c0_0, 65⟩] [] [fSl k_TAct A0_0 c0_0 u0.Acts, fSl k_TAct A1_0 c1_0 u1.Acts] W) (fun a W hJ => ?_) ?_
      ·
       obtain ⟨hF, hS⟩ := hJ
       refine sq_val (v_move hF rfl) hF (by decide) (fun a hF => ?_)
       refine sq_cut 6 (fun a W => FH 57 [(2, .pointer (some (⟨b1, 0, none⟩))), (3, .pointer (some (⟨b2, 0, none⟩))), (49, .bool (((((x7 && (u0.Idle == u1.Idle)) && (u0.Hard == u1.Hard)) && (u0.Owner == u1.Owner)) && (u0.Hits == u1.Hits)) && (u0.Quiet == u1.Quiet)))] a ∧ St M w0 [⟨b2, TRule.enc u1 A1_0 c1_0, 65⟩, ⟨b1, TRule.enc u0 A0_0 c0_0, 65⟩] [] [fSl k_TAct A0_0 c0_0 u0.Acts, fSl k_TAct A1_0 c1_0 u1.Acts] W) (fun a W hJ => ?_) ?_
       ·
        obtain ⟨hF, hS⟩ := hJ
        refine sq_val (v_move hF rfl) hF (by decide) (fun a hF => ?_)
        refine sq_cut 6 (fun a W => FH 57 [(56, .bool ((((((x7 && (u0.Idle == u1.Idle)) && (u0.Hard == u1.Hard)) && (u0.Owner == u1.Owner)) && (u0.Hits == u1.Hits)) && (u0.Quiet == u1.Quiet)) && (u0.Age == u1.Age)))] a ∧ St M w0 [⟨b2, TRule.enc u1 A1_0 c1_0, 65⟩, ⟨b1, TRule.enc u0 A0_0 c0_0, 65⟩] [] [fSl k_TAct A0_0 c0_0 u0.Acts, fSl k_TAct A1_0 c1_0 u1.Acts] W) (fun a W hJ => ?_) ?_
        ·
         obtain ⟨hF, hS⟩ := hJ
         refine sq_val (v_assign hF rfl) hF (by decide) (fun a hF => ?_)
         refine sq_nil ?_
         refine then_n ?_
         refine wp_ret ?_
         obtain rfl := Option.some.inj h
         exact ret1 hF rfl (rv_tmp hF rfl) ⟨_, rfl, rfl, (hS.keep (List.nil_sublist _) (List.Sublist.refl _) trivial)⟩
        ·
         by_cases he18 : (((((x7 && (u0.Idle == u1.Idle)) && (u0.Hard == u1.Hard)) && (u0.Owner == u1.Owner)) && (u0.Hits == u1.Hits)) && (u0.Quiet == u1.Quiet)) = true
         ·
          refine sq_yes hF rfl rfl he18 ?_
          refine sq_val (v_fieldAddr hF rfl pf65_8) hF (by decide) (fun a hF => ?_)
          refine sq_yes hF rfl rfl he18 ?_
          refine sq_val (v_load1 hF rfl pa3 (cells_sub (vs := [.int .i64 (u0.Age)]) (hS.bc (i := 1) rfl) rfl rfl)) hF (by decide) (fun a hF => ?_)
          refine sq_yes hF rfl rfl he18 ?_
          refine sq_val (v_fieldAddr hF rfl pf65_8) hF (by decide) (fun a hF => ?_)
          refine sq_yes hF rfl rfl he18 ?_
          refine sq_val (v_load1 hF rfl pa3 (cells_sub (vs := [.int .i64 (u1.Age)]) (hS.bc (i := 0) rfl) rfl rfl)) hF (by decide) (fun a hF => ?_)
          refine sq_yes hF rfl rfl he18 ?_
          refine sq_val (v_eql hF rfl rfl) hF (by decide) (fun a hF => ?_)
          refine sq_val (v_pick_t hF rfl he18 rfl) hF (by decide) (fun a hF => ?_)
          exact sq_nil (then_j ⟨(hF.keep ⟨(boolV (and_t he18)), trivial⟩), hS⟩)
         ·
          have he18 : (((((x7 && (u0.Idle == u1.Idle)) && (u0.Hard == u1.Hard)) && (u0.Owner == u1.Owner)) && (u0.Hits == u1.Hits)) && (u0.Quiet == u1.Quiet)) = false := nB he18
          refine sq_no hF rfl rfl he18 (by rintro x ⟨⟩; decide) (fun a hF => ?_)
          refine sq_no hF rfl rfl he18 (by rintro x ⟨⟩; decide) (fun a hF => ?_)
          refine sq_no hF rfl rfl he18 (by rintro x ⟨⟩; decide) (fun a hF => ?_)
          refine sq_no hF rfl rfl he18 (by rintro x ⟨⟩; decide) (fun a hF => ?_)
          refine sq_no hF rfl rfl he18 (by rintro x ⟨⟩; decide) (fun a hF => ?_)
          refine sq_val (v_pick_f hF rfl he18 rfl) hF (by decide) (fun a hF => ?_)
          exact sq_nil (then_j ⟨(hF.keep ⟨(boolV (and_f he18)), trivial⟩), hS⟩)
       ·
        by_cases he17 : ((((x7 && (u0.Idle == u1.Idle)) && (u0.Hard == u1.Hard)) && (u0.Owner == u1.Owner)) && (u0.Hits == u1.Hits)) = true
        ·
         refine sq_yes hF rfl rfl he17 ?_
         refine sq_val (v_fieldAddr hF rfl pf65_7) hF (by decide) (fun a hF => ?_)
         refine sq_yes hF rfl rfl he17 ?_
         refine sq_val (v_load1 hF rfl pa3 (cells_sub (vs := [.int .i64 (u0.Quiet)]) (hS.bc (i := 1) rfl) rfl rfl)) hF (by decide) (fun a hF => ?_)
         refine sq_yes hF rfl rfl he17 ?_
         refine sq_val (v_fieldAddr hF rfl pf65_7) hF (by decide) (fun a hF => ?_)
         refine sq_yes hF rfl rfl he17 ?_
         refine sq_val (v_load1 hF rfl pa3 (cells_sub (vs := [.int .i64 (u1.Quiet)]) (hS.bc (i := 0) rfl) rfl rfl)) hF (by decide) (fun a hF => ?_)
         refine sq_yes hF rfl rfl he17 ?_
         refine sq_val (v_eql hF rfl rfl) hF (by decide) (fun a hF => ?_)
         refine sq_val (v_pick_t hF rfl he17 rfl) hF (by decide) (fun a hF => ?_)
         exact sq_nil (then_j ⟨(hF.keep ⟨rfl, rfl, (boolV (and_t he17)), trivial⟩), hS⟩)
        ·
         have he17 : ((((x7 && (u0.Idle == u1.Idle)) && (u0.Hard == u1.Hard)) && (u0.Owner == u1.Owner)) && (u0.Hits == u1.Hits)) = false := nB he17
         refine sq_no hF rfl rfl he17 (by rintro x ⟨⟩; decide) (fun a hF => ?_)
         refine sq_no hF rfl rfl he17 (by rintro x ⟨⟩; decide) (fun a hF => ?_)
         refine sq_no hF rfl rfl he17 (by rintro x ⟨⟩; decide) (fun a hF => ?_)
         refine sq_no hF rfl rfl he17 (by rintro x ⟨⟩; decide) (fun a hF => ?_)
         refine sq_no hF rfl rfl he17 (by rintro x ⟨⟩; decide) (fun a hF => ?_)
         refine sq_val (v_pick_f hF rfl he17 rfl) hF (by decide) (fun a hF => ?_)
         exact sq_nil (then_j ⟨(hF.keep ⟨rfl, rfl, (boolV (and_f he17)), trivial⟩), hS⟩)
      ·
       by_cases he16 : (((x7 && (u0.Idle == u1.Idle)) && (u0.Hard == u1.Hard)) && (u0.Owner == u1.Owner)) = true
       ·
        refine sq_yes hF rfl rfl he16 ?_
        refine sq_val (v_fieldAddr hF rfl pf65_6) hF (by decide) (fun a hF => ?_)
        refine sq_yes hF rfl rfl he16 ?_
        refine sq_val (v_load1 hF rfl pa3 (cells_sub (vs := [.int .i64 (u0.Hits)]) (hS.bc (i := 1) rfl) rfl rfl)) hF (by decide) (fun a hF => ?_)
        refine sq_yes hF rfl rfl he16 ?_
        refine sq_val (v_fieldAddr hF rfl pf65_6) hF (by decide) (fun a hF => ?_)
        refine sq_yes hF rfl rfl he16 ?_
        refine sq_val (v_load1 hF rfl pa3 (cells_sub (vs := [.int .i64 (u1.Hits)]) (hS.bc (i := 0) rfl) rfl rfl)) hF (by decide) (fun a hF => ?_)
        refine sq_yes hF rfl rfl he16 ?_
        refine sq_val (v_eql hF rfl rfl) hF (by decide) (fun a hF => ?_)
        refine sq_val (v_pick_t hF rfl he16 rfl) hF (by decide) (fun a hF => ?_)
        exact sq_nil (then_j ⟨(hF.keep ⟨rfl, rfl, (boolV (and_t he16)), trivial⟩), hS⟩)
       ·
        have he16 : (((x7 && (u0.Idle == u1.Idle)) && (u0.Hard == u1.Hard)) && (u0.Owner == u1.Owner)) = false := nB he16
        refine sq_no hF rfl rfl he16 (by rintro x ⟨⟩; decide) (fun a hF => ?_)
        refine sq_no hF rfl rfl he16 (by rintro x ⟨⟩; decide) (fun a hF => ?_)
        refine sq_no hF rfl rfl he16 (by rintro x ⟨⟩; decide) (fun a hF => ?_)
        refine sq_no hF rfl rfl he16 (by rintro x ⟨⟩; decide) (fun a hF => ?_)
        refine sq_no hF rfl rfl he16 (by rintro x ⟨⟩; decide) (fun a hF => ?_)
        refine sq_val (v_pick_f hF rfl he16 rfl) hF (by decide) (fun a hF => ?_)
        exact sq_nil (then_j ⟨(hF.keep ⟨rfl, rfl, (boolV (and_f he16)), trivial⟩), hS⟩)
     ·
      by_cases he15 : ((x7 && (u0.Idle == u1.Idle)) && (u0.Hard == u1.Hard)) = true
      ·
       refine sq_yes hF rfl rfl he15 ?_
       refine sq_val (v_fieldAddr hF rfl pf65_5) hF (by decide) (fun a hF => ?_)
       refine sq_yes hF rfl rfl he15 ?_
       refine sq_val (v_load1 hF rfl pa3 (cells_sub (vs := [.int .i64 (u0.Owner)]) (hS.bc (i := 1) rfl) rfl rfl)) hF (by decide) (fun a hF => ?_)
       refine sq_yes hF rfl rfl he15 ?_
       refine sq_val (v_fieldAddr hF rfl pf65_5) hF (by decide) (fun a hF => ?_)
       refine sq_yes hF rfl rfl he15 ?_
       refine sq_val (v_load1 hF rfl pa3 (cells_sub (vs := [.int .i64 (u1.Owner)]) (hS.bc (i := 0) rfl) rfl rfl)) hF (by decide) (fun a hF => ?_)
       refine sq_yes hF rfl rfl he15 ?_
       refine sq_val (v_eql hF rfl rfl) hF (by decide) (fun a hF => ?_)
       refine sq_val (v_pick_t hF rfl he15 rfl) hF (by decide) (fun a hF => ?_)
       exact sq_nil (then_j ⟨(hF.keep ⟨rfl, rfl, (boolV (and_t he15)), trivial⟩), hS⟩)
      ·
       have he15 : ((x7 && (u0.Idle == u1.Idle)) && (u0.Hard == u1.Hard)) = false := nB he15
       refine sq_no hF rfl rfl he15 (by rintro x ⟨⟩; decide) (fun a hF => ?_)
       refine sq_no hF rfl rfl he15 (by rintro x ⟨⟩; decide) (fun a hF => ?_)
       refine sq_no hF rfl rfl he15 (by rintro x ⟨⟩; decide) (fun a hF => ?_)
       refine sq_no hF rfl rfl he15 (by rintro x ⟨⟩; decide) (fun a hF => ?_)
       refine sq_no hF rfl rfl he15 (by rintro x ⟨⟩; decide) (fun a hF => ?_)
       refine sq_val (v_pick_f hF rfl he15 rfl) hF (by decide) (fun a hF => ?_)
       exact sq_nil (then_j ⟨(hF.keep ⟨rfl, rfl, (boolV (and_f he15)), trivial⟩), hS⟩)
    ·
     by_cases he14 : (x7 && (u0.Idle == u1.Idle)) = true
     ·
      refine sq_yes hF rfl rfl he14 ?_
      refine sq_val (v_fieldAddr hF rfl pf65_4) hF (by decide) (fun a hF => ?_)
      refine sq_yes hF rfl rfl he14 ?_
      refine sq_val (v_load1 hF rfl pa3 (cells_sub (vs := [.int .i64 (u0.Hard)]) (hS.bc (i := 1) rfl) rfl rfl)) hF (by decide) (fun a hF => ?_)
      refine sq_yes hF rfl rfl he14 ?_
      refine sq_val (v_fieldAddr hF rfl pf65_4) hF (by decide) (fun a hF => ?_)
      refine sq_yes hF rfl rfl he14 ?_
      refine sq_val (v_load1 hF rfl pa3 (cells_sub (vs := [.int .i64 (u1.Hard)]) (hS.bc (i := 0) rfl) rfl rfl)) hF (by decide) (fun a hF => ?_)
      refine sq_yes hF rfl rfl he14 ?_
      refine sq_val (v_eql hF rfl rfl) hF (by decide) (fun a hF => ?_)
      refine sq_val (v_pick_t hF rfl he14 rfl) hF (by decide) (fun a hF => ?_)
      exact sq_nil (then_j ⟨(hF.keep ⟨rfl, rfl, (boolV (and_t he14)), trivial⟩), hS⟩)
     ·
      have he14 : (x7 && (u0.Idle == u1.Idle)) = false := nB he14
      refine sq_no hF rfl rfl he14 (by rintro x ⟨⟩; decide) (fun a hF => ?_)
      refine sq_no hF rfl rfl he14 (by rintro x ⟨⟩; decide) (fun a hF => ?_)
      refine sq_no hF rfl rfl he14 (by rintro x ⟨⟩; decide) (fun a hF => ?_)
      refine sq_no hF rfl rfl he14 (by rintro x ⟨⟩; decide) (fun a hF => ?_)
      refine sq_no hF rfl rfl he14 (by rintro x ⟨⟩; decide) (fun a hF => ?_)
      refine sq_val (v_pick_f hF rfl he14 rfl) hF (by decide) (fun a hF => ?_)
      exact sq_nil (then_j ⟨(hF.keep ⟨rfl, rfl, (boolV (and_f he14)), trivial⟩), hS⟩)
   ·
    by_cases he13 : x7 = true
    ·
     refine sq_yes hF rfl rfl he13 ?_
     refine sq_val (v_fieldAddr hF rfl pf65_3) hF (by decide) (fun a hF => ?_)
     refine sq_yes hF rfl rfl he13 ?_
     refine sq_val (v_load1 hF rfl pa3 (cells_sub (vs := [.int .i64 (u0.Idle)]) (hS.bc (i := 1) rfl) rfl rfl)) hF (by decide) (fun a hF => ?_)
     refine sq_yes hF rfl rfl he13 ?_
     refine sq_val (v_fieldAddr hF rfl pf65_3) hF (by decide) (fun a hF => ?_)
     refine sq_yes hF rfl rfl he13 ?_
     refine sq_val (v_load1 hF rfl pa3 (cells_sub (vs := [.int .i64 (u1.Idle)]) (hS.bc (i := 0) rfl) rfl rfl)) hF (by decide) (fun a hF => ?_)
     refine sq_yes hF rfl rfl he13 ?_
     refine sq_val (v_eql hF rfl rfl) hF (by decide) (fun a hF => ?_)
     refine sq_val (v_pick_t hF rfl he13 rfl) hF (by decide) (fun a hF => ?_)
     exact sq_nil (then_j ⟨(hF.keep ⟨rfl, rfl, (boolV (and_t he13)), trivial⟩), hS⟩)
    ·
     have he13 : x7 = false := nB he13
     refine sq_no hF rfl rfl he13 (by rintro x ⟨⟩; decide) (fun a hF => ?_)
     refine sq_no hF rfl rfl he13 (by rintro x ⟨⟩; decide) (fun a hF => ?_)
     refine sq_no hF rfl rfl he13 (by rintro x ⟨⟩; decide) (fun a hF => ?_)
     refine sq_no hF rfl rfl he13 (by rintro x ⟨⟩; decide) (fun a hF => ?_)
     refine sq_no hF rfl rfl he13 (by rintro x ⟨⟩; decide) (fun a hF => ?_)
     refine sq_val (v_pick_f hF rfl he13 rfl) hF (by decide) (fun a hF => ?_)
     exact sq_nil (then_j ⟨(hF.keep ⟨rfl, rfl, (boolV (and_f he13)), trivial⟩), hS⟩)
  ·
   by_cases he6 : x3 = true
   ·
    replace h := ifT he6 h
    refine sq_yes hF rfl rfl he6 ?_
    refine sq_val (v_fieldAddr hF rfl pf65_2) hF (by decide) (fun a hF => ?_)
    refine sq_yes hF rfl rfl he6 ?_
    refine sq_val (v_load1 hF rfl pa38 (cells_sub (vs := [.slice A0_0 ((u0.Acts).length) c0_0]) (hS.bc (i := 1) rfl) rfl rfl)) hF (by decide) (fun a hF => ?_)
    refine sq_yes hF rfl rfl he6 ?_
    refine sq_val (v_fieldAddr hF rfl pf65_2) hF (by decide) (fun a hF => ?_)
    refine sq_yes hF rfl rfl he6 ?_
    refine sq_val (v_load1 hF rfl pa38 (cells_sub (vs := [.slice A1_0 ((u1.Acts).length) c1_0]) (hS.bc (i := 0) rfl) rfl rfl)) hF (by decide) (fun a hF => ?_)
    refine sq_yes hF rfl rfl he6 ?_
    obtain ⟨x10, hx11, h⟩ := bindS h
    refine sq_call hF pc108 rfl (by decide) (ok_ref04_SameActs k (hS.enter ⟨⟨0, rfl⟩, ⟨1, rfl⟩, trivial⟩) hx11) (fun v W hR a hF => ?_)
    obtain ⟨rfl, hT12⟩ := hR
    have hS := hS.grow hT12.below
    refine sq_val (v_pick_t hF rfl he6 rfl) hF (by decide) (fun a hF => ?_)
    obtain rfl := Option.some.inj h
    exact sq_nil (then_j ⟨(hF.keep ⟨rfl, rfl, rfl, trivial⟩), hS⟩)
   ·
    have he6 : x3 = false := nB he6
    replace h := ifF he6 h
    refine sq_no hF rfl rfl he6 (by rintro x ⟨⟩; decide) (fun a hF => ?_)
    refine sq_no hF rfl rfl he6 (by rintro x ⟨⟩; decide) (fun a hF => ?_)
    refine sq_no hF rfl rfl he6 (by rintro x ⟨⟩; decide) (fun a hF => ?_)
    refine sq_no hF rfl rfl he6 (by rintro x ⟨⟩; decide) (fun a hF => ?_)
    refine sq_no hF rfl rfl he6 (by rintro x ⟨⟩; decide) (fun a hF => ?_)
    refine sq_val (v_pick_f hF rfl he6 rfl) hF (by decide) (fun a hF => ?_)
    obtain rfl := Option.some.inj h
    exact sq_nil (then_j ⟨(hF.keep ⟨rfl, rfl, rfl, trivial⟩), hS⟩)

theorem ok_ref04_Same (k : Nat) {M : Nat → Prop} {w0 : World} {u0 : List TRule} {A0_0 : Option Addr} {c0_0 : Nat} {u1 : List TRule} {A1_0 : Option Addr} {c1_0 : Nat} {o : Bool} (hS : St M w0 [] [] [fSl k_TRule A0_0 c0_0 u0, fSl k_TRule A1_0 c1_0 u1] w0) (h : ref04_Same k u0 u1 = some o) :
    Calls Try.prog 26 #[.slice A0_0 ((u0).length) c0_0, .slice A1_0 ((u1).length) c1_0] w0 fun e W' => ∃ v, e = .returned v ∧ (v = .bool (o) ∧ St M w0 [] [] [] W') := by
  unfold ref04_Same at h
  refine calls_start (args := [.slice A0_0 ((u0).length) c0_0, .slice A1_0 ((u1).length) c1_0]) Try.func26 rfl rfl (Nat.le_of_ble_eq_true rfl) (fun a hF => ?_)
  refine wp_seq ?_
  refine wp_reg ?_
  refine sq_val (v_assign hF rfl) hF (by decide) (fun a hF => ?_)
  refine sq_nil ?_
  refine then_n ?_
  refine wp_seq ?_
  refine wp_seq ?_
  refine wp_reg ?_
  refine sq_val (v_move hF rfl) hF (by decide) (fun a hF => ?_)
  refine sq_val (v_len hF rfl pu37) hF (by decide) (fun a hF => ?_)
  refine sq_val (v_move hF rfl) hF (by decide) (fun a hF => ?_)
  refine sq_val (v_len hF rfl pu37) hF (by decide) (fun a hF => ?_)
  refine sq_val (v_neq hF rfl rfl) hF (by decide) (fun a hF => ?_)
  refine sq_nil ?_
  refine then_n ?_
  refine wp_if hF rfl (fun he1 => ?_) (fun he1 => ?_)
  ·
   replace h := ifT he1 h
   refine wp_seq ?_
   refine wp_reg ?_
   refine sq_val (v_assign hF rfl) hF (by decide) (fun a hF => ?_)
   refine sq_nil ?_
   refine then_n ?_
   refine wp_ret ?_
   refine then_r ?_
   obtain rfl := Option.some.inj h
   exact ret1 hF rfl (rv_tmp hF rfl) ⟨_, rfl, rfl, (hS.keep (List.Sublist.refl _) (List.Sublist.refl _) trivial)⟩
  ·
   replace h := ifF he1 h
   refine wp_skip ?_
   refine then_n ?_
   refine wp_seq ?_
   refine wp_seq ?_
   refine wp_reg ?_
   refine sq_val (v_assign hF rfl) hF (by decide) (fun a hF => ?_)
   refine sq_nil ?_
   refine then_n ?_
   obtain ⟨o4, h, hk5⟩ := bindS h
   refine wp_join (fun a W => Lo.brk () = o4 ∧ FH 27 [] a ∧ St M w0 [] [] [] W) (fun a W hJ => ?_) ?_
   ·
    obtain ⟨rfl, hF, hS⟩ := hJ
    have h := hk5
    dsimp only at h
    refine then_n ?_
    refine wp_seq ?_
    refine wp_reg ?_
    refine sq_val (v_assign hF rfl) hF (by decide) (fun a hF => ?_)
    refine sq_nil ?_
    refine then_n ?_
    refine wp_ret ?_
    obtain rfl := Option.some.inj h
    exact ret1 hF rfl (rv_tmp hF rfl) ⟨_, rfl, rfl, hS⟩
   ·
    refine wp_block ?_
    refine wp_loop_fuel (I := fun m a W => ∃ (x3 : Int), FH 27 [(0, .slice A0_0 ((u0).length) c0_0), (1, .slice A1_0 ((u1).length) c1_0), (5, .int .i64 (x3))] a ∧ St M w0 [] [] [fSl k_TRule A0_0 c0_0 u0, fSl k_TRule A1_0 c1_0 u1] W ∧ (ref04_Same.l0 k u0 u1 m x3) = some o4) ?_ (k := k) ⟨0, (hF.keep ⟨rfl, rfl, rfl, trivial⟩), hS, h⟩
    rintro m6 a W ⟨x3, hF, hS, h⟩
    cases m6 with
    | zero => cases h
    | succ m6 =>
     rw [ref04_Same.l0] at h
     refine wp_seq ?_
     refine wp_seq ?_
     refine wp_reg ?_
     refine sq_val (v_move hF rfl) hF (by decide) (fun a hF => ?_)
     refine sq_val (v_move hF rfl) hF (by decide) (fun a hF => ?_)
     refine sq_val (v_len hF rfl pu37) hF (by decide) (fun a hF => ?_)
     refine sq_val (v_lss hF rfl rfl) hF (by decide) (fun a hF => ?_)
     refine sq_nil ?_
     refine then_n ?_
     refine wp_if hF rfl (fun he7 => ?_) (fun he7 => ?_)
     ·
      replace h := ifT he7 h
      refine wp_skip ?_
      refine then_n ?_
      refine wp_seq ?_
      refine wp_block ?_
      refine wp_seq ?_
      refine wp_quiet rfl (by kernel_rfl) hS ?_
      refine qt_val (fun W hC => (v_move hF rfl)) hF (by decide) (fun a hF => ?_)
      refine qt_val (fun W hC => (v_move hF rfl)) hF (by decide) (fun a hF => ?_)
      obtain ⟨x8, hx9, h⟩ := bindS h
      obtain ⟨p10, cs11, hA12, hat13⟩ := SlR.at (hS.fc (i := 0) rfl) hx9
      obtain ⟨A14, c15, rfl, hs16⟩ := hat13.2.2.2
      refine qt_val (fun W hC => (v_idx hF rfl hA12 rfl psl37 hx9)) hF (by decide) (fun a hF => ?_)
      refine qt_val (fun W hC => (v_load (cs := TRule.enc x8 A14 c15) hF rfl pa65 ps65 (hat13.2.2.1.grow hC.1))) hF (by decide) (fun a hF => ?_)
      refine qt_val (fun W hC => (v_move hF rfl)) hF (by decide) (fun a hF => ?_)
      refine qt_val (fun W hC => (v_move hF rfl)) hF (by decide) (fun a hF => ?_)
      obtain ⟨x17, hx18, h⟩ := bindS h
      obtain ⟨p19, cs20, hA21, hat22⟩ := SlR.at (hS.fc (i := 1) rfl) hx18
      obtain ⟨A23, c24, rfl, hs25⟩ := hat22.2.2.2
      refine qt_val (fun W hC => (v_idx hF rfl hA21 rfl psl37 hx18)) hF (by decide) (fun a hF => ?_)
      refine qt_val (fun W hC => (v_load (cs := TRule.enc x17 A23 c24) hF rfl pa65 ps65 (hat22.2.2.1.grow hC.1))) hF (by decide) (fun a hF => ?_)
      obtain ⟨x26, hx27, h⟩ := bindS h
      refine qt_call hF pc75 rfl (by decide) (fun W hC => q_of hC (ok_ref04_Equal k (((hC.2.addFact (f := fSl k_TAct A14 c15 x8.Acts) ((fSl k_TAct A14 c15 x8.Acts).st hs16 (Stp.below hC.1))).addFact (f := fSl k_TAct A23 c24 x17.Acts) ((fSl k_TAct A23 c24 x17.Acts).st hs25 (Stp.below hC.1))).enter ⟨⟨1, rfl⟩, ⟨0, rfl⟩, trivial⟩) hx27)) (fun a hF => ?_)
      refine qt_val (fun W hC => (v_not hF rfl)) hF (by decide) (fun a hF => ?_)
      refine qt_nil ?_
      intro W hC
      have hS := hC.2
      refine then_n ?_
      refine wp_if hF rfl (fun he28 => ?_) (fun he28 => ?_)
      ·
       replace h := ifT he28 h
       refine wp_seq ?_
       refine wp_reg ?_
       refine sq_val (v_assign hF rfl) hF (by decide) (fun a hF => ?_)
       refine sq_nil ?_
       refine then_n ?_
       refine wp_ret ?_
       refine blk_r ?_
       refine then_r ?_
       refine then_r ?_
       refine blk_r ?_
       refine then_r ?_
       refine then_r ?_
       obtain rfl := Option.some.inj h
       have h := hk5
       dsimp only at h
       obtain rfl := Option.some.inj h
       exact ret1 hF rfl (rv_tmp hF rfl) ⟨_, rfl, rfl, (hS.keep (List.Sublist.refl _) (List.Sublist.refl _) trivial)⟩
      ·
       replace h := ifF he28 h
       refine wp_skip ?_
       refine blk_n ?_
       refine then_n ?_
       refine wp_reg ?_
       refine sq_val (v_move hF rfl) hF (by decide) (fun a hF => ?_)
       refine sq_val (v_add hF rfl rfl) hF (by decide) (fun a hF => ?_)
       refine sq_val (v_assign hF rfl) hF (by decide) (fun a hF => ?_)
       refine sq_nil ?_
       exact then_j ⟨m6, Nat.lt_succ_self _, (IntKind.i64.wrap (x3 + 1)), (hF.keep ⟨rfl, rfl, rfl, trivial⟩), hS, h⟩
     ·
      replace h := ifF he7 h
      refine wp_exit ?_
      refine then_x ?_
      refine then_x ?_
      refine blk_hit ?_
      obtain rfl := Option.some.inj h
      exact then_j ⟨rfl, (hF.keep trivial), (hS.keep (List.Sublist.refl _) (List.Sublist.refl _) trivial)⟩
end Go.Proofs.Ytangebngeeamoaa
