/- What calls of the Go functions come to. -/
import Derived.Test.YtangebngeeamoaaW6
set_option linter.unusedVariables false
set_option linter.unusedSimpArgs false
set_option maxRecDepth 100000
set_option maxHeartbeats 4000000
namespace Go.Proofs.Ytangebngeeamoaa
open Go.RowKit Go.Pod
theorem ok_undo_Diff (k : Nat) {M : Nat → Prop} {w0 : World} {u0 : List TRule} {A0_0 : Option Addr} {c0_0 : Nat} {u1 : List TRule} {A1_0 : Option Addr} {c1_0 : Nat} {o : Tundo_Patch} (hS : St M w0 [] [] [fSl k_TRule A0_0 c0_0 u0, fSl k_TRule A1_0 c1_0 u1] w0) (h : undo_Diff k u0 u1 = some o) :
    Calls Try.prog 83 #[.slice A0_0 ((u0).length) c0_0, .slice A1_0 ((u1).length) c1_0] w0 fun e W' => ∃ v, e = .returned v ∧ (∃ (A23 : Option Addr) (c24 : Nat) (A25 : Option Addr) (c26 : Nat), v = .agg (Tundo_Patch.enc o A23 c24 A25 c26).toArray ∧ St M w0 [] [] [fSl k_TRule A23 c24 o.Gone, fSl k_TRule A25 c26 o.New] W') := by
  unfold undo_Diff at h
  refine calls_start (args := [.slice A0_0 ((u0).length) c0_0, .slice A1_0 ((u1).length) c1_0]) Try.func83 rfl rfl (Nat.le_of_ble_eq_true rfl) (fun a hF => ?_)
  refine wp_seq ?_
  refine wp_reg ?_
  refine sq_alloc hF hS pz51 rfl (by decide) (fun b1 a W hF hS => ?_)
  refine sq_nil ?_
  refine then_n ?_
  refine wp_seq ?_
  refine wp_seq ?_
  refine wp_reg ?_
  refine sq_val (v_move hF rfl) hF (by decide) (fun a hF => ?_)
  obtain ⟨x2, hx3, h⟩ := bindS h
  refine sq_call hF pc65 rfl (by decide) (ok_rule_Table k (hS.enter ⟨⟨0, rfl⟩, trivial⟩) hx3) (fun v W hR a hF => ?_)
  obtain ⟨rfl, hT4⟩ := hR
  have hS := hS.grow hT4.below
  refine sq_val (v_not hF rfl) hF (by decide) (fun a hF => ?_)
  refine sq_val (v_move hF rfl) hF (by decide) (fun a hF => ?_)
  obtain ⟨x6, h, hk8⟩ := bindS h
  refine sq_cut 4 (fun a W => FH 21 [(0, .slice A0_0 ((u0).length) c0_0), (1, .slice A1_0 ((u1).length) c1_0), (4, .pointer (some (⟨b1, 0, none⟩))), (12, .bool x6)] a ∧ St M w0 [⟨b1, Tundo_Patch.enc Tundo_Patch.zero none 0 none 0, 51⟩] [] [fSl k_TRule A0_0 c0_0 u0, fSl k_TRule A1_0 c1_0 u1] W) (fun a W hJ => ?_) ?_
  ·
   have h := hk8
   obtain ⟨hF, hS⟩ := hJ
   refine sq_nil ?_
   refine then_n ?_
   refine wp_if hF rfl (fun he12 => ?_) (fun he12 => ?_)
   ·
    replace h := ifT he12 h
    refine wp_seq ?_
    refine wp_reg ?_
    refine sq_val (v_build (parts := []) (out := Tundo_Patch.enc Tundo_Patch.zero none 0 none 0) hF rfl rfl pz51 rfl pp51 rfl) hF (by decide) (fun a hF => ?_)
    refine sq_store (o := 0) (vs := Tundo_Patch.enc Tundo_Patch.zero none 0 none 0) (cs' := Tundo_Patch.enc Tundo_Patch.zero none 0 none 0) hF hS rfl rfl (i := 0) rfl rfl rfl ps51 (Tundo_Patch.enc_one _ _ _ _ _) (Nat.le_of_ble_eq_true rfl) rfl (fun W hS => ?_)
    refine sq_nil ?_
    refine then_n ?_
    refine wp_ret ?_
    refine then_r ?_
    have hS := hS.addFact (f := fSl k_TRule none 0 []) (SlR.nil _ _ _)
    have hS := hS.addFact (f := fSl k_TRule none 0 []) (SlR.nil _ _ _)
    obtain rfl := Option.some.inj h
    exact ret1 hF rfl (rv_cell (cs := Tundo_Patch.enc Tundo_Patch.zero none 0 none 0) hF rfl pa51 ps51 (hS.bc (i := 0) rfl)) ⟨_, rfl, none, 0, none, 0, rfl, (hS.keep (List.nil_sublist _) (List.Sublist.refl _) ⟨⟨1, rfl⟩, ⟨0, rfl⟩, trivial⟩)⟩
   ·
    replace h := ifF he12 h
    refine wp_skip ?_
    refine then_n ?_
    refine wp_seq ?_
    refine wp_reg ?_
    refine sq_val (v_move hF rfl) hF (by decide) (fun a hF => ?_)
    refine sq_val (v_move hF rfl) hF (by decide) (fun a hF => ?_)
    obtain ⟨x13, hx14, h⟩ := bindS h
    refine sq_call hF pc132 rfl (by decide) (ok_undo_alone k (hS.enter ⟨⟨0, rfl⟩, ⟨1, rfl⟩, trivial⟩) hx14) (fun v W hR a hF => ?_)
    obtain ⟨A15, c16, rfl, hT17⟩ := hR
    have hS := hS.join hT17
    refine sq_val (v_move hF rfl) hF (by decide) (fun a hF => ?_)
    refine sq_val (v_move hF rfl) hF (by decide) (fun a hF => ?_)
    obtain ⟨x18, hx19, h⟩ := bindS h
    refine sq_call hF pc132 rfl (by decide) (ok_undo_alone k (hS.enter ⟨⟨1, rfl⟩, ⟨0, rfl⟩, trivial⟩) hx19) (fun v W hR a hF => ?_)
    obtain ⟨A20, c21, rfl, hT22⟩ := hR
    have hS := hS.join hT22
    have hS := hS.freeze (i := 1) rfl (posB rfl)
    have hS := hS.freeze (i := 0) rfl (posB rfl)
    refine sq_val (v_build (parts := [(0, .tmp 16), (1, .tmp 19)]) (out := Tundo_Patch.enc ({ Gone := x13, New := x18 } : Tundo_Patch) A15 c16 A20 c21) hF rfl rfl pz51 rfl pp51 rfl) hF (by decide) (fun a hF => ?_)
    refine sq_store (o := 0) (vs := Tundo_Patch.enc ({ Gone := x13, New := x18 } : Tundo_Patch) A15 c16 A20 c21) (cs' := Tundo_Patch.enc ({ Gone := x13, New := x18 } : Tundo_Patch) A15 c16 A20 c21) hF hS rfl rfl (i := 0) rfl rfl rfl ps51 (Tundo_Patch.enc_one _ _ _ _ _) (Nat.le_of_ble_eq_true rfl) rfl (fun W hS => ?_)
    refine sq_nil ?_
    refine then_n ?_
    refine wp_ret ?_
    obtain rfl := Option.some.inj h
    exact ret1 hF rfl (rv_cell (cs := Tundo_Patch.enc ({ Gone := x13, New := x18 } : Tundo_Patch) A15 c16 A20 c21) hF rfl pa51 ps51 (hS.bc (i := 0) rfl)) ⟨_, rfl, A15, c16, A20, c21, rfl, (hS.keep (List.nil_sublist _) (List.Sublist.refl _) ⟨⟨1, rfl⟩, ⟨0, rfl⟩, trivial⟩)⟩
  ·
   by_cases he5 : (!x2) = true
   ·
    replace h := ifT he5 h
    refine sq_no hF rfl rfl he5 (by rintro x ⟨⟩; decide) (fun a hF => ?_)
    refine sq_no hF rfl rfl he5 (by rintro x ⟨⟩; decide) (fun a hF => ?_)
    refine sq_no hF rfl rfl he5 (by rintro x ⟨⟩; decide) (fun a hF => ?_)
    refine sq_val (v_pick_t hF rfl he5 rfl) hF (by decide) (fun a hF => ?_)
    obtain rfl := Option.some.inj h
    exact sq_nil (then_j ⟨(hF.keep ⟨rfl, rfl, rfl, rfl, trivial⟩), hS⟩)
   ·
    have he5 : (!x2) = false := nB he5
    replace h := ifF he5 h
    refine sq_yes hF rfl rfl he5 ?_
    refine sq_val (v_move hF rfl) hF (by decide) (fun a hF => ?_)
    refine sq_yes hF rfl rfl he5 ?_
    obtain ⟨x9, hx10, h⟩ := bindS h
    refine sq_call hF pc65 rfl (by decide) (ok_rule_Table k (hS.enter ⟨⟨1, rfl⟩, trivial⟩) hx10) (fun v W hR a hF => ?_)
    obtain ⟨rfl, hT11⟩ := hR
    have hS := hS.grow hT11.below
    refine sq_yes hF rfl rfl he5 ?_
    refine sq_val (v_not hF rfl) hF (by decide) (fun a hF => ?_)
    refine sq_val (v_pick_f hF rfl he5 rfl) hF (by decide) (fun a hF => ?_)
    obtain rfl := Option.some.inj h
    exact sq_nil (then_j ⟨(hF.keep ⟨rfl, rfl, rfl, rfl, trivial⟩), hS⟩)

theorem ok_undo_Inverse (k : Nat) {M : Nat → Prop} {w0 : World} {u0 : List TRule} {A0_0 : Option Addr} {c0_0 : Nat} {u1 : TMod} {A1_0 : Option Addr} {c1_0 : Nat} {u2 : Int} {o : (List TRule) × Tundo_Patch × Int} (hS : St M w0 [] [] [fSl k_TRule A0_0 c0_0 u0, fSl k_TAct A1_0 c1_0 u1.Acts] w0) (h : undo_Inverse k u0 u1 u2 = some o) :
    Calls Try.prog 31 #[.slice A0_0 ((u0).length) c0_0, .agg (TMod.enc u1 A1_0 c1_0).toArray, .int .i64 (u2)] w0 fun e W' => ∃ v, e = .returned v ∧ (∃ (A16 : Option Addr) (c17 : Nat) (A18 : Option Addr) (c19 : Nat) (A20 : Option Addr) (c21 : Nat), v = .tuple #[.slice A16 ((o.1).length) c17, .agg (Tundo_Patch.enc o.2.1 A18 c19 A20 c21).toArray, .int .i64 (o.2.2)] ∧ St M w0 [] [] [fSl k_TRule A16 c17 o.1, fSl k_TRule A18 c19 o.2.1.Gone, fSl k_TRule A20 c21 o.2.1.New] W') := by
  unfold undo_Inverse at h
  refine calls_start (args := [.slice A0_0 ((u0).length) c0_0, .agg (TMod.enc u1 A1_0 c1_0).toArray, .int .i64 (u2)]) Try.func31 rfl rfl (Nat.le_of_ble_eq_true rfl) (fun a hF => ?_)
  refine wp_seq ?_
  refine wp_reg ?_
  refine sq_box hF hS rfl rfl (by decide) (fun b1 a W hF hS => ?_)
  refine sq_val (v_assign hF rfl) hF (by decide) (fun a hF => ?_)
  refine sq_alloc hF hS pz51 rfl (by decide) (fun b2 a W hF hS => ?_)
  refine sq_val (v_assign hF rfl) hF (by decide) (fun a hF => ?_)
  refine sq_nil ?_
  refine then_n ?_
  refine wp_seq ?_
  refine wp_reg ?_
  refine sq_val (v_move hF rfl) hF (by decide) (fun a hF => ?_)
  refine sq_val (v_load (cs := TMod.enc u1 A1_0 c1_0) hF rfl pa40 ps40 (hS.bc (i := 1) rfl)) hF (by decide) (fun a hF => ?_)
  refine sq_val (v_move hF rfl) hF (by decide) (fun a hF => ?_)
  obtain ⟨x3, hx4, h⟩ := bindS h
  refine sq_call hF pc24 rfl (by decide) (ok_mods_Apply k (hS.enter ⟨⟨0, rfl⟩, ⟨1, rfl⟩, trivial⟩) hx4) (fun v W hR a hF => ?_)
  obtain ⟨A5, c6, rfl, hT7⟩ := hR
  have hS := hS.join hT7
  refine sq_val (v_move hF rfl) hF (by decide) (fun a hF => ?_)
  refine sq_val (v_extract hF rfl rfl) hF (by decide) (fun a hF => ?_)
  refine sq_val (v_extract hF rfl rfl) hF (by decide) (fun a hF => ?_)
  refine sq_val (v_assign hF rfl) hF (by decide) (fun a hF => ?_)
  refine sq_val (v_assign hF rfl) hF (by decide) (fun a hF => ?_)
  refine sq_nil ?_
  refine then_n ?_
  refine wp_seq ?_
  refine wp_seq ?_
  refine wp_reg ?_
  refine sq_val (v_move hF rfl) hF (by decide) (fun a hF => ?_)
  refine sq_val (v_neq hF rfl rfl) hF (by decide) (fun a hF => ?_)
  refine sq_nil ?_
  refine then_n ?_
  refine wp_if hF rfl (fun he8 => ?_) (fun he8 => ?_)
  ·
   replace h := ifT he8 h
   refine wp_seq ?_
   refine wp_reg ?_
   refine sq_val (v_build (parts := []) (out := Tundo_Patch.enc Tundo_Patch.zero none 0 none 0) hF rfl rfl pz51 rfl pp51 rfl) hF (by decide) (fun a hF => ?_)
   refine sq_val (v_move hF rfl) hF (by decide) (fun a hF => ?_)
   refine sq_val (v_assign hF rfl) hF (by decide) (fun a hF => ?_)
   refine sq_store (o := 0) (vs := Tundo_Patch.enc Tundo_Patch.zero none 0 none 0) (cs' := Tundo_Patch.enc Tundo_Patch.zero none 0 none 0) hF hS rfl rfl (i := 0) rfl rfl rfl ps51 (Tundo_Patch.enc_one _ _ _ _ _) (Nat.le_of_ble_eq_true rfl) rfl (fun W hS => ?_)
   refine sq_val (v_assign hF rfl) hF (by decide) (fun a hF => ?_)
   refine sq_nil ?_
   refine then_n ?_
   refine wp_ret ?_
   refine then_r ?_
   have hS := hS.addFact (f := fSl k_TRule none 0 []) (SlR.nil _ _ _)
   have hS := hS.addFact (f := fSl k_TRule none 0 []) (SlR.nil _ _ _)
   have hS := hS.addFact (f := fSl k_TRule none 0 []) (SlR.nil _ _ _)
   obtain rfl := Option.some.inj h
   exact ret3 hF rfl (rv_tmp hF rfl) (rv_cell (cs := Tundo_Patch.enc Tundo_Patch.zero none 0 none 0) hF rfl pa51 ps51 (hS.bc (i := 0) rfl)) (rv_tmp hF rfl) ⟨_, rfl, none, 0, none, 0, none, 0, rfl, (hS.keep (List.nil_sublist _) (List.nil_sublist _) ⟨⟨2, rfl⟩, ⟨1, rfl⟩, ⟨0, rfl⟩, trivial⟩)⟩
  ·
   replace h := ifF he8 h
   refine wp_skip ?_
   refine then_n ?_
   refine wp_seq ?_
   refine wp_reg ?_
   refine sq_val (v_move hF rfl) hF (by decide) (fun a hF => ?_)
   refine sq_val (v_move hF rfl) hF (by decide) (fun a hF => ?_)
   refine sq_val (v_move hF rfl) hF (by decide) (fun a hF => ?_)
   have hS := hS.freeze (i := 0) rfl (posB rfl)
   obtain ⟨x9, hx10, h⟩ := bindS h
   refine sq_call hF pc83 rfl (by decide) (ok_undo_Diff k (hS.enter ⟨⟨1, rfl⟩, ⟨0, rfl⟩, trivial⟩) hx10) (fun v W hR a hF => ?_)
   obtain ⟨A11, c12, A13, c14, rfl, hT15⟩ := hR
   have hS := hS.join hT15
   refine sq_val (v_assign hF rfl) hF (by decide) (fun a hF => ?_)
   refine sq_store (o := 0) (vs := Tundo_Patch.enc x9 A11 c12 A13 c14) (cs' := Tundo_Patch.enc x9 A11 c12 A13 c14) hF hS rfl rfl (i := 0) rfl rfl rfl ps51 (Tundo_Patch.enc_one _ _ _ _ _) (Nat.le_of_ble_eq_true rfl) rfl (fun W hS => ?_)
   refine sq_val (v_assign hF rfl) hF (by decide) (fun a hF => ?_)
   refine sq_nil ?_
   refine then_n ?_
   refine wp_ret ?_
   obtain rfl := Option.some.inj h
   exact ret3 hF rfl (rv_tmp hF rfl) (rv_cell (cs := Tundo_Patch.enc x9 A11 c12 A13 c14) hF rfl pa51 ps51 (hS.bc (i := 0) rfl)) (rv_tmp hF rfl) ⟨_, rfl, A5, c6, A11, c12, A13, c14, rfl, (hS.keep (List.nil_sublist _) (List.Sublist.refl _) ⟨⟨2, rfl⟩, ⟨0, rfl⟩, ⟨1, rfl⟩, trivial⟩)⟩

theorem ok_undo_swap_1 {M : Nat → Prop} {w0 : World} {u0 : TRule} {A0_0 : Option Addr} {c0_0 : Nat} {y0 : TRule} {b0_ : Nat} {B0_0 : Option Addr} {d0_0 : Nat} {o : Bool} (hS : St M w0 [] [] [fSl k_TAct A0_0 c0_0 u0.Acts, fSl k_TAct B0_0 d0_0 y0.Acts, fBox b0_ (TRule.enc y0 B0_0 d0_0) 65] w0) (h : undo_swap_1 u0 y0 = some o) :
    Calls Try.prog 133 #[.agg (TRule.enc u0 A0_0 c0_0).toArray, .pointer (some (⟨b0_, 0, none⟩))] w0 fun e W' => ∃ v, e = .returned v ∧ (v = .bool (o) ∧ St M w0 [] [] [] W') := by
  unfold undo_swap_1 at h
  refine calls_start (args := [.agg (TRule.enc u0 A0_0 c0_0).toArray, .pointer (some (⟨b0_, 0, none⟩))]) Try.func133 rfl rfl (Nat.le_of_ble_eq_true rfl) (fun a hF => ?_)
  refine wp_seq ?_
  refine wp_reg ?_
  refine sq_box hF hS rfl rfl (by decide) (fun b1 a W hF hS => ?_)
  refine sq_val (v_assign hF rfl) hF (by decide) (fun a hF => ?_)
  refine sq_nil ?_
  refine then_n ?_
  refine wp_seq ?_
  refine wp_reg ?_
  refine sq_val (v_load (cs := TRule.enc u0 A0_0 c0_0) hF rfl pa65 ps65 (hS.bc (i := 0) rfl)) hF (by decide) (fun a hF => ?_)
  refine sq_val (v_load (cs := TRule.enc y0 B0_0 d0_0) hF rfl pa65 ps65 (hS.fbc (i := 2) rfl)) hF (by decide) (fun a hF => ?_)
  obtain ⟨x2, hx3, h⟩ := bindS h
  refine sq_call hF pc122 rfl (by decide) (ok_rule_Key (hS.enter ⟨⟨0, rfl⟩, ⟨1, rfl⟩, trivial⟩) hx3) (fun v W hR a hF => ?_)
  obtain ⟨rfl, hT4⟩ := hR
  have hS := hS.grow hT4.below
  refine sq_val (v_assign hF rfl) hF (by decide) (fun a hF => ?_)
  refine sq_nil ?_
  refine then_n ?_
  refine wp_ret ?_
  obtain rfl := Option.some.inj h
  exact ret1 hF rfl (rv_tmp hF rfl) ⟨_, rfl, rfl, (hS.keep (List.nil_sublist _) (List.Sublist.refl _) trivial)⟩

theorem ok_undo_swap (k : Nat) {M : Nat → Prop} {w0 : World} {u0 : List TRule} {A0_0 : Option Addr} {c0_0 : Nat} {u1 : List TRule} {A1_0 : Option Addr} {c1_0 : Nat} {u2 : List TRule} {A2_0 : Option Addr} {c2_0 : Nat} {o : (List TRule) × Int} (hS : St M w0 [] [] [fSl k_TRule A0_0 c0_0 u0, fSl k_TRule A1_0 c1_0 u1, fSl k_TRule A2_0 c2_0 u2] w0) (h : undo_swap k u0 u1 u2 = some o) :
    Calls Try.prog 84 #[.slice A0_0 ((u0).length) c0_0, .slice A1_0 ((u1).length) c1_0, .slice A2_0 ((u2).length) c2_0] w0 fun e W' => ∃ v, e = .returned v ∧ (∃ (A59 : Option Addr) (c60 : Nat), v = .tuple #[.slice A59 ((o.1).length) c60, .int .i64 (o.2)] ∧ St M w0 [] [⟨k_TRule, 65, A59, c60, o.1⟩] [] W') := by
  unfold undo_swap at h
  refine calls_start (args := [.slice A0_0 ((u0).length) c0_0, .slice A1_0 ((u1).length) c1_0, .slice A2_0 ((u2).length) c2_0]) Try.func84 rfl rfl (Nat.le_of_ble_eq_true rfl) (fun a hF => ?_)
  refine wp_seq ?_
  refine wp_reg ?_
  refine sq_val (v_assign hF rfl) hF (by decide) (fun a hF => ?_)
  refine sq_val (v_assign hF rfl) hF (by decide) (fun a hF => ?_)
  refine sq_nil ?_
  refine then_n ?_
  refine wp_seq ?_
  refine wp_seq ?_
  refine wp_reg ?_
  refine sq_val (v_move hF rfl) hF (by decide) (fun a hF => ?_)
  obtain ⟨x1, hx2, h⟩ := bindS h
  refine sq_call hF pc65 rfl (by decide) (ok_rule_Table k (hS.enter ⟨⟨0, rfl⟩, trivial⟩) hx2) (fun v W hR a hF => ?_)
  obtain ⟨rfl, hT3⟩ := hR
  have hS := hS.grow hT3.below
  refine sq_val (v_not hF rfl) hF (by decide) (fun a hF => ?_)
  refine sq_val (v_move hF rfl) hF (by decide) (fun a hF => ?_)
  obtain ⟨x5, h, hk7⟩ := bindS h
  refine sq_cut 4 (fun a W => FH 46 [(0, .slice A0_0 ((u0).length) c0_0), (1, .slice A1_0 ((u1).length) c1_0), (2, .slice A2_0 ((u2).length) c2_0), (18, .bool x5)] a ∧ St M w0 [] [] [fSl k_TRule A0_0 c0_0 u0, fSl k_TRule A1_0 c1_0 u1, fSl k_TRule A2_0 c2_0 u2] W) (fun a W hJ => ?_) ?_
  ·
   have h := hk7
   obtain ⟨hF, hS⟩ := hJ
   refine sq_val (v_move hF rfl) hF (by decide) (fun a hF => ?_)
   obtain ⟨x12, h, hk14⟩ := bindS h
   refine sq_cut 4 (fun a W => FH 46 [(0, .slice A0_0 ((u0).length) c0_0), (1, .slice A1_0 ((u1).length) c1_0), (2, .slice A2_0 ((u2).length) c2_0), (23, .bool x12)] a ∧ St M w0 [] [] [fSl k_TRule A0_0 c0_0 u0, fSl k_TRule A1_0 c1_0 u1, fSl k_TRule A2_0 c2_0 u2] W) (fun a W hJ => ?_) ?_
   ·
    have h := hk14
    obtain ⟨hF, hS⟩ := hJ
    refine sq_nil ?_
    refine then_n ?_
    refine wp_if hF rfl (fun he18 => ?_) (fun he18 => ?_)
    ·
     replace h := ifT he18 h
     refine wp_seq ?_
     refine wp_reg ?_
     refine sq_val (v_assign hF rfl) hF (by decide) (fun a hF => ?_)
     refine sq_val (v_assign hF rfl) hF (by decide) (fun a hF => ?_)
     refine sq_nil ?_
     refine then_n ?_
     refine wp_ret ?_
     refine then_r ?_
     have hS := hS.addNil k_TRule 65
     obtain rfl := Option.some.inj h
     exact ret2 hF rfl (rv_tmp hF rfl) (rv_tmp hF rfl) ⟨_, rfl, none, 0, rfl, (hS.keep (List.Sublist.refl _) (List.Sublist.refl _) trivial)⟩
    ·
     replace h := ifF he18 h
     refine wp_skip ?_
     refine then_n ?_
     refine wp_seq ?_
     refine wp_seq ?_
     refine wp_reg ?_
     refine sq_val (v_move hF rfl) hF (by decide) (fun a hF => ?_)
     refine sq_val (v_move hF rfl) hF (by decide) (fun a hF => ?_)
     obtain ⟨x19, hx20, h⟩ := bindS h
     refine sq_call hF pc132 rfl (by decide) (ok_undo_alone k (hS.enter ⟨⟨1, rfl⟩, ⟨0, rfl⟩, trivial⟩) hx20) (fun v W hR a hF => ?_)
     obtain ⟨A21, c22, rfl, hT23⟩ := hR
     have hS := hS.join hT23
     refine sq_val (v_len hF rfl pu37) hF (by decide) (fun a hF => ?_)
     refine sq_val (v_gtr hF rfl rfl) hF (by decide) (fun a hF => ?_)
     refine sq_nil ?_
     refine then_n ?_
     refine wp_if hF rfl (fun he24 => ?_) (fun he24 => ?_)
     ·
      replace h := ifT he24 h
      refine wp_seq ?_
      refine wp_reg ?_
      refine sq_val (v_assign hF rfl) hF (by decide) (fun a hF => ?_)
      refine sq_val (v_assign hF rfl) hF (by decide) (fun a hF => ?_)
      refine sq_nil ?_
      refine then_n ?_
      refine wp_ret ?_
      refine then_r ?_
      have hS := hS.addNil k_TRule 65
      obtain rfl := Option.some.inj h
      exact ret2 hF rfl (rv_tmp hF rfl) (rv_tmp hF rfl) ⟨_, rfl, none, 0, rfl, (hS.keep (List.Sublist.refl _) (.cons_cons _ (List.nil_sublist _)) trivial)⟩
     ·
      replace h := ifF he24 h
      refine wp_skip ?_
      refine then_n ?_
      refine wp_seq ?_
      refine wp_reg ?_
      refine sq_val (v_move hF rfl) hF (by decide) (fun a hF => ?_)
      refine sq_val (v_move hF rfl) hF (by decide) (fun a hF => ?_)
      obtain ⟨x25, hx26, h⟩ := bindS h
      refine sq_call hF pc132 rfl (by decide) (ok_undo_alone k (hS.enter ⟨⟨0, rfl⟩, ⟨1, rfl⟩, trivial⟩) hx26) (fun v W hR a hF => ?_)
      obtain ⟨A27, c28, rfl, hT29⟩ := hR
      have hS := hS.join hT29
      refine sq_val (v_assign hF rfl) hF (by decide) (fun a hF => ?_)
      refine sq_nil ?_
      refine then_n ?_
      refine wp_seq ?_
      refine wp_seq ?_
      refine wp_reg ?_
      refine sq_val (v_move hF rfl) hF (by decide) (fun a hF => ?_)
      refine sq_val (v_len hF rfl pu37) hF (by decide) (fun a hF => ?_)
      refine sq_val (v_move hF rfl) hF (by decide) (fun a hF => ?_)
      refine sq_nil ?_
      refine then_n ?_
      obtain ⟨o32, h, hk33⟩ := bindS h
      refine wp_join (fun a W => Lo.brk () = o32 ∧ FH 46 [(2, .slice A2_0 ((u2).length) c2_0), (8, .slice A27 ((x25).length) c28)] a ∧ St M w0 [] [⟨k_TRule, 65, A27, c28, x25⟩] [fSl k_TRule A2_0 c2_0 u2] W) (fun a W hJ => ?_) ?_
      ·
       obtain ⟨rfl, hF, hS⟩ := hJ
       have h := hk33
       dsimp only at h
       refine then_n ?_
       refine wp_seq ?_
       refine wp_reg ?_
       refine sq_val (v_move hF rfl) hF (by decide) (fun a hF => ?_)
       refine sq_val (v_move hF rfl) hF (by decide) (fun a hF => ?_)
       obtain ⟨x36, hx37, h⟩ := bindS h
       refine sq_append (ys := u2) hF hS (i := 0) rfl rfl rfl (SlR.src (hS.fc (i := 0) rfl)) psl37 pb65 pz65 rfl (by decide) (by decide) hx37 (by decide) (fun A34 c35 a W hF hS => ?_)
       have hS := hS.freeze (i := 0) rfl (posB rfl)
       obtain ⟨x38, hx39, h⟩ := bindS h
       refine sq_call hF pc126 rfl (by decide) (ok_rule_Sort k (hS.enter ⟨⟨0, rfl⟩, trivial⟩) hx39) (fun v W hR a hF => ?_)
       obtain ⟨A40, c41, rfl, hT42⟩ := hR
       have hS := hS.join hT42
       refine sq_val (v_assign hF rfl) hF (by decide) (fun a hF => ?_)
       refine sq_val (v_assign hF rfl) hF (by decide) (fun a hF => ?_)
       refine sq_nil ?_
       refine then_n ?_
       refine wp_ret ?_
       obtain rfl := Option.some.inj h
       exact ret2 hF rfl (rv_tmp hF rfl) (rv_tmp hF rfl) ⟨_, rfl, A40, c41, rfl, (hS.keep (List.Sublist.refl _) (List.Sublist.refl _) trivial)⟩
      ·
       refine wp_block ?_
       refine wp_loop_fuel (I := fun m a W => ∃ (x31 : Int), FH 46 [(2, .slice A2_0 ((u2).length) c2_0), (8, .slice A27 ((x25).length) c28), (32, .slice A2_0 ((u2).length) c2_0), (33, .int .i64 ((u2.length : Int))), (34, .int .i64 (x31))] a ∧ St M w0 [] [⟨k_TRule, 65, A27, c28, x25⟩] [fSl k_TRule A2_0 c2_0 u2] W ∧ (undo_swap.l0 k u2 x25 m x31) = some o32) ?_ (k := k) ⟨0, (hF.keep ⟨rfl, rfl, rfl, rfl, rfl, trivial⟩), (hS.keep (List.Sublist.refl _) (.cons_cons _ (List.nil_sublist _)) ⟨⟨2, rfl⟩, trivial⟩), h⟩
       rintro m43 a W ⟨x31, hF, hS, h⟩
       cases m43 with
       | zero => cases h
       | succ m43 =>
        rw [undo_swap.l0] at h
        refine wp_seq ?_
        refine wp_reg ?_
        refine sq_val (v_lss hF rfl rfl) hF (by decide) (fun a hF => ?_)
        refine sq_nil ?_
        refine then_n ?_
        refine wp_seq ?_
        refine wp_if hF rfl (fun he44 => ?_) (fun he44 => ?_)
        ·
         replace h := ifT he44 h
         refine wp_skip ?_
         refine then_n ?_
         refine wp_seq ?_
         refine wp_block ?_
         refine wp_seq ?_
         refine wp_reg ?_
         obtain ⟨x45, hx46, h⟩ := bindS h
         obtain ⟨p47, cs48, hA49, hat50⟩ := SlR.at (hS.fc (i := 0) rfl) hx46
         obtain ⟨A51, c52, rfl, hs53⟩ := hat50.2.2.2
         have hS := hS.addFact (f := fAt k_TRule (p47.add (x31.toNat * 32)) (TRule.enc x45 A51 c52) x45) hat50
         have hS := hS.addFact (f := fSl k_TAct A51 c52 x45.Acts) hs53
         refine sq_val (v_idx hF rfl hA49 rfl psl37 hx46) hF (by decide) (fun a hF => ?_)
         refine sq_val (v_load (cs := TRule.enc x45 A51 c52) hF rfl pa65 ps65 (hS.pc (i := 1) rfl)) hF (by decide) (fun a hF => ?_)
         refine sq_alloc hF hS pz65 rfl (by decide) (fun b54 a W hF hS => ?_)
         refine sq_store (o := 0) (vs := TRule.enc x45 A51 c52) (cs' := TRule.enc x45 A51 c52) hF hS rfl rfl (i := 0) rfl rfl rfl ps65 (TRule.enc_one _ _ _) (Nat.le_of_ble_eq_true rfl) rfl (fun W hS => ?_)
         refine sq_nil ?_
         refine then_n ?_
         refine wp_seq ?_
         refine wp_reg ?_
         refine sq_val (v_move hF rfl) hF (by decide) (fun a hF => ?_)
         have hS := hS.freezeBox (i := 0) rfl
         have hS := hS.addFact (f := fFn1 Try.prog 133 ([.pointer (some (⟨b54, 0, none⟩))]) k_TRule true (fun (a0 : TRule) => undo_swap_1 a0 x45) (fun y => .bool y)) ⟨pc133, fun M' W' hs hv cs a0 y hR hp => by obtain ⟨P0_0, q0_0, rfl, z0_0⟩ := hR; exact fromSt (ok_undo_swap_1 (St.ofAll hv ⟨z0_0, ((fSl k_TAct A51 c52 x45.Acts).st (hS.fc (i := 1) rfl) hs), ((fBox b54 (TRule.enc x45 A51 c52) 65).st (hS.fc (i := 0) rfl) hs), trivial⟩) hp)⟩
         refine sq_val (v_makeFunc (xs := [.tmp 10]) (vs := [.pointer (some (⟨b54, 0, none⟩))]) hF rfl) hF (by decide) (fun a hF => ?_)
         obtain ⟨x55, hx56, h⟩ := bindS h
         refine sq_call hF pc125 rfl (by decide) (ok_slices_ContainsFunc_Rule k ((hS.freeze (i := 0) rfl (posB rfl)).enter ⟨⟨0, rfl⟩, ⟨1, rfl⟩, trivial⟩) hx56) (fun v W hR a hF => ?_)
         obtain ⟨rfl, hT57⟩ := hR
         have hS := hS.grow hT57.below
         refine sq_nil ?_
         refine then_n ?_
         refine wp_if hF rfl (fun he58 => ?_) (fun he58 => ?_)
         ·
          replace h := ifT he58 h
          refine wp_seq ?_
          refine wp_reg ?_
          refine sq_val (v_assign hF rfl) hF (by decide) (fun a hF => ?_)
          refine sq_val (v_assign hF rfl) hF (by decide) (fun a hF => ?_)
          refine sq_nil ?_
          refine then_n ?_
          refine wp_ret ?_
          refine blk_r ?_
          refine then_r ?_
          refine then_r ?_
          refine blk_r ?_
          refine then_r ?_
          refine then_r ?_
          have hS := hS.addNil k_TRule 65
          obtain rfl := Option.some.inj h
          have h := hk33
          dsimp only at h
          obtain rfl := Option.some.inj h
          exact ret2 hF rfl (rv_tmp hF rfl) (rv_tmp hF rfl) ⟨_, rfl, none, 0, rfl, (hS.keep (List.Sublist.refl _) (.cons_cons _ (List.nil_sublist _)) trivial)⟩
         ·
          replace h := ifF he58 h
          refine wp_skip ?_
          refine blk_n ?_
          refine then_n ?_
          refine wp_reg ?_
          refine sq_val (v_add hF rfl rfl) hF (by decide) (fun a hF => ?_)
          refine sq_val (v_move hF rfl) hF (by decide) (fun a hF => ?_)
          refine sq_nil ?_
          exact then_j ⟨m43, Nat.lt_succ_self _, (IntKind.i64.wrap (x31 + 1)), (hF.keep ⟨rfl, rfl, rfl, rfl, rfl, trivial⟩), (hS.keep (List.Sublist.refl _) (List.Sublist.refl _) ⟨⟨4, rfl⟩, trivial⟩), h⟩
        ·
         replace h := ifF he44 h
         refine wp_exit ?_
         refine then_x ?_
         refine then_x ?_
         refine blk_hit ?_
         obtain rfl := Option.some.inj h
         exact then_j ⟨rfl, (hF.keep ⟨rfl, rfl, trivial⟩), hS⟩
   ·
    by_cases he11 : x5 = true
    ·
     replace h := ifT he11 h
     refine sq_no hF rfl rfl he11 (by rintro x ⟨⟩; decide) (fun a hF => ?_)
     refine sq_no hF rfl rfl he11 (by rintro x ⟨⟩; decide) (fun a hF => ?_)
     refine sq_no hF rfl rfl he11 (by rintro x ⟨⟩; decide) (fun a hF => ?_)
     refine sq_val (v_pick_t hF rfl he11 rfl) hF (by decide) (fun a hF => ?_)
     obtain rfl := Option.some.inj h
     exact sq_nil (then_j ⟨(hF.keep ⟨rfl, rfl, rfl, rfl, trivial⟩), hS⟩)
    ·
     have he11 : x5 = false := nB he11
     replace h := ifF he11 h
     refine sq_yes hF rfl rfl he11 ?_
     refine sq_val (v_move hF rfl) hF (by decide) (fun a hF => ?_)
     refine sq_yes hF rfl rfl he11 ?_
     obtain ⟨x15, hx16, h⟩ := bindS h
     refine sq_call hF pc65 rfl (by decide) (ok_rule_Table k (hS.enter ⟨⟨2, rfl⟩, trivial⟩) hx16) (fun v W hR a hF => ?_)
     obtain ⟨rfl, hT17⟩ := hR
     have hS := hS.grow hT17.below
     refine sq_yes hF rfl rfl he11 ?_
     refine sq_val (v_not hF rfl) hF (by decide) (fun a hF => ?_)
     refine sq_val (v_pick_f hF rfl he11 rfl) hF (by decide) (fun a hF => ?_)
     obtain rfl := Option.some.inj h
     exact sq_nil (then_j ⟨(hF.keep ⟨rfl, rfl, rfl, rfl, trivial⟩), hS⟩)
  ·
   by_cases he4 : (!x1) = true
   ·
    replace h := ifT he4 h
    refine sq_no hF rfl rfl he4 (by rintro x ⟨⟩; decide) (fun a hF => ?_)
    refine sq_no hF rfl rfl he4 (by rintro x ⟨⟩; decide) (fun a hF => ?_)
    refine sq_no hF rfl rfl he4 (by rintro x ⟨⟩; decide) (fun a hF => ?_)
    refine sq_val (v_pick_t hF rfl he4 rfl) hF (by decide) (fun a hF => ?_)
    obtain rfl := Option.some.inj h
    exact sq_nil (then_j ⟨(hF.keep ⟨rfl, rfl, rfl, rfl, trivial⟩), hS⟩)
   ·
    have he4 : (!x1) = false := nB he4
    replace h := ifF he4 h
    refine sq_yes hF rfl rfl he4 ?_
    refine sq_val (v_move hF rfl) hF (by decide) (fun a hF => ?_)
    refine sq_yes hF rfl rfl he4 ?_
    obtain ⟨x8, hx9, h⟩ := bindS h
    refine sq_call hF pc65 rfl (by decide) (ok_rule_Table k (hS.enter ⟨⟨1, rfl⟩, trivial⟩) hx9) (fun v W hR a hF => ?_)
    obtain ⟨rfl, hT10⟩ := hR
    have hS := hS.grow hT10.below
    refine sq_yes hF rfl rfl he4 ?_
    refine sq_val (v_not hF rfl) hF (by decide) (fun a hF => ?_)
    refine sq_val (v_pick_f hF rfl he4 rfl) hF (by decide) (fun a hF => ?_)
    obtain rfl := Option.some.inj h
    exact sq_nil (then_j ⟨(hF.keep ⟨rfl, rfl, rfl, rfl, trivial⟩), hS⟩)

theorem ok_undo_Back (k : Nat) {M : Nat → Prop} {w0 : World} {u0 : List TRule} {A0_0 : Option Addr} {c0_0 : Nat} {u1 : Tundo_Patch} {A1_0 : Option Addr} {c1_0 : Nat} {A1_1 : Option Addr} {c1_1 : Nat} {o : (List TRule) × Int} (hS : St M w0 [] [] [fSl k_TRule A0_0 c0_0 u0, fSl k_TRule A1_0 c1_0 u1.Gone, fSl k_TRule A1_1 c1_1 u1.New] w0) (h : undo_Back k u0 u1 = some o) :
    Calls Try.prog 32 #[.slice A0_0 ((u0).length) c0_0, .agg (Tundo_Patch.enc u1 A1_0 c1_0 A1_1 c1_1).toArray] w0 fun e W' => ∃ v, e = .returned v ∧ (∃ (A7 : Option Addr) (c8 : Nat), v = .tuple #[.slice A7 ((o.1).length) c8, .int .i64 (o.2)] ∧ St M w0 [] [⟨k_TRule, 65, A7, c8, o.1⟩] [] W') := by
  unfold undo_Back at h
  refine calls_start (args := [.slice A0_0 ((u0).length) c0_0, .agg (Tundo_Patch.enc u1 A1_0 c1_0 A1_1 c1_1).toArray]) Try.func32 rfl rfl (Nat.le_of_ble_eq_true rfl) (fun a hF => ?_)
  refine wp_seq ?_
  refine wp_reg ?_
  refine sq_box hF hS rfl rfl (by decide) (fun b1 a W hF hS => ?_)
  refine sq_val (v_assign hF rfl) hF (by decide) (fun a hF => ?_)
  refine sq_val (v_assign hF rfl) hF (by decide) (fun a hF => ?_)
  refine sq_nil ?_
  refine then_n ?_
  refine wp_seq ?_
  refine wp_reg ?_
  refine sq_val (v_move hF rfl) hF (by decide) (fun a hF => ?_)
  refine sq_val (v_fieldAddr hF rfl pf51_1) hF (by decide) (fun a hF => ?_)
  refine sq_val (v_load1 hF rfl pa37 (cells_sub (vs := [.slice A1_1 ((u1.New).length) c1_1]) (hS.bc (i := 0) rfl) rfl rfl)) hF (by decide) (fun a hF => ?_)
  refine sq_val (v_fieldAddr hF rfl pf51_0) hF (by decide) (fun a hF => ?_)
  refine sq_val (v_load1 hF rfl pa37 (cells_sub (vs := [.slice A1_0 ((u1.Gone).length) c1_0]) (hS.bc (i := 0) rfl) rfl rfl)) hF (by decide) (fun a hF => ?_)
  obtain ⟨x2, hx3, h⟩ := bindS h
  refine sq_call hF pc84 rfl (by decide) (ok_undo_swap k (hS.enter ⟨⟨0, rfl⟩, ⟨2, rfl⟩, ⟨1, rfl⟩, trivial⟩) hx3) (fun v W hR a hF => ?_)
  obtain ⟨A4, c5, rfl, hT6⟩ := hR
  have hS := hS.join hT6
  refine sq_val (v_extract hF rfl rfl) hF (by decide) (fun a hF => ?_)
  refine sq_val (v_extract hF rfl rfl) hF (by decide) (fun a hF => ?_)
  refine sq_val (v_assign hF rfl) hF (by decide) (fun a hF => ?_)
  refine sq_val (v_assign hF rfl) hF (by decide) (fun a hF => ?_)
  refine sq_nil ?_
  refine then_n ?_
  refine wp_ret ?_
  obtain rfl := Option.some.inj h
  exact ret2 hF rfl (rv_tmp hF rfl) (rv_tmp hF rfl) ⟨_, rfl, A4, c5, rfl, (hS.keep (List.nil_sublist _) (List.Sublist.refl _) trivial)⟩

theorem ok_law08_answers (k : Nat) {M : Nat → Prop} {w0 : World}  {o : Bool} (hS : St M w0 [] [] [] w0) (h : law08_answers k = some o) :
    Calls Try.prog 30 #[] w0 fun e W' => ∃ v, e = .returned v ∧ (v = .bool (o) ∧ St M w0 [] [] [] W') := by
  unfold law08_answers at h
  refine calls_start (args := []) Try.func30 rfl rfl (Nat.le_of_ble_eq_true rfl) (fun a hF => ?_)
  refine wp_seq ?_
  refine wp_reg ?_
  refine sq_val (v_assign hF rfl) hF (by decide) (fun a hF => ?_)
  refine sq_nil ?_
  refine then_n ?_
  refine wp_seq ?_
  refine wp_reg ?_
  refine sq_val (v_build (parts := [(0, .const (.int .i64 1))]) (out := TMod.enc ({ Kind := 1, Match := TCube.zero, Prio := 0, Acts := [], Idle := 0, Hard := 0, Owner := 0, Check := false } : TMod) none 0) hF rfl rfl pz40 rfl pp40 rfl) hF (by decide) (fun a hF => ?_)
  have hS := hS.addFact (f := fSl k_TRule none 0 []) (SlR.nil _ _ _)
  have hS := hS.addFact (f := fSl k_TAct none 0 []) (SlR.nil _ _ _)
  obtain ⟨x1, hx2, h⟩ := bindS h
  refine sq_call hF pc31 rfl (by decide) (ok_undo_Inverse k (u0 := []) (A0_0 := none) (c0_0 := 0) (u1 := ({ Kind := 1, Match := TCube.zero, Prio := 0, Acts := [], Idle := 0, Hard := 0, Owner := 0, Check := false } : TMod)) (hS.enter ⟨⟨1, rfl⟩, ⟨0, rfl⟩, trivial⟩) hx2) (fun v W hR a hF => ?_)
  obtain ⟨A3, c4, A5, c6, A7, c8, rfl, hT9⟩ := hR
  have hS := hS.join hT9
  refine sq_val (v_move hF rfl) hF (by decide) (fun a hF => ?_)
  refine sq_val (v_extract hF rfl rfl) hF (by decide) (fun a hF => ?_)
  refine sq_val (v_extract hF rfl rfl) hF (by decide) (fun a hF => ?_)
  refine sq_val (v_extract hF rfl rfl) hF (by decide) (fun a hF => ?_)
  refine sq_alloc hF hS pz51 rfl (by decide) (fun b10 a W hF hS => ?_)
  refine sq_val (v_assign hF rfl) hF (by decide) (fun a hF => ?_)
  refine sq_store (o := 0) (vs := Tundo_Patch.enc x1.2.1 A5 c6 A7 c8) (cs' := Tundo_Patch.enc x1.2.1 A5 c6 A7 c8) hF hS rfl rfl (i := 0) rfl rfl rfl ps51 (Tundo_Patch.enc_one _ _ _ _ _) (Nat.le_of_ble_eq_true rfl) rfl (fun W hS => ?_)
  refine sq_val (v_assign hF rfl) hF (by decide) (fun a hF => ?_)
  refine sq_nil ?_
  refine then_n ?_
  refine wp_seq ?_
  refine wp_reg ?_
  refine sq_val (v_move hF rfl) hF (by decide) (fun a hF => ?_)
  refine sq_val (v_load (cs := Tundo_Patch.enc x1.2.1 A5 c6 A7 c8) hF rfl pa51 ps51 (hS.bc (i := 0) rfl)) hF (by decide) (fun a hF => ?_)
  obtain ⟨x11, hx12, h⟩ := bindS h
  refine sq_call hF pc32 rfl (by decide) (ok_undo_Back k (hS.enter ⟨⟨0, rfl⟩, ⟨1, rfl⟩, ⟨2, rfl⟩, trivial⟩) hx12) (fun v W hR a hF => ?_)
  obtain ⟨A13, c14, rfl, hT15⟩ := hR
  have hS := hS.join hT15
  refine sq_val (v_move hF rfl) hF (by decide) (fun a hF => ?_)
  refine sq_val (v_extract hF rfl rfl) hF (by decide) (fun a hF => ?_)
  refine sq_val (v_extract hF rfl rfl) hF (by decide) (fun a hF => ?_)
  refine sq_val (v_assign hF rfl) hF (by decide) (fun a hF => ?_)
  refine sq_val (v_assign hF rfl) hF (by decide) (fun a hF => ?_)
  refine sq_nil ?_
  refine then_n ?_
  refine wp_seq ?_
  refine wp_reg ?_
  refine sq_val (v_move hF rfl) hF (by decide) (fun a hF => ?_)
  refine sq_val (v_eql hF rfl rfl) hF (by decide) (fun a hF => ?_)
  refine sq_val (v_move hF rfl) hF (by decide) (fun a hF => ?_)
  refine sq_cut 3 (fun a W => FH 40 [(1, .slice A3 ((x1.1).length) c4), (2, .pointer (some (⟨b10, 0, none⟩))), (4, .slice A13 ((x11.1).length) c14), (23, .bool ((x1.2.2 == 0) && (x11.2 == 0)))] a ∧ St M w0 [⟨b10, Tundo_Patch.enc x1.2.1 A5 c6 A7 c8, 51⟩] [⟨k_TRule, 65, A13, c14, x11.1⟩] [fSl k_TRule A3 c4 x1.1, fSl k_TRule A5 c6 x1.2.1.Gone, fSl k_TRule A7 c8 x1.2.1.New, fSl k_TAct none 0 [], fSl k_TRule none 0 []] W) (fun a W hJ => ?_) ?_
  ·
   obtain ⟨hF, hS⟩ := hJ
   refine sq_val (v_move hF rfl) hF (by decide) (fun a hF => ?_)
   refine sq_cut 4 (fun a W => FH 40 [(2, .pointer (some (⟨b10, 0, none⟩))), (4, .slice A13 ((x11.1).length) c14), (28, .bool (((x1.2.2 == 0) && (x11.2 == 0)) && ((x1.1.length : Int) == 1)))] a ∧ St M w0 [⟨b10, Tundo_Patch.enc x1.2.1 A5 c6 A7 c8, 51⟩] [⟨k_TRule, 65, A13, c14, x11.1⟩] [fSl k_TRule A3 c4 x1.1, fSl k_TRule A5 c6 x1.2.1.Gone, fSl k_TRule A7 c8 x1.2.1.New, fSl k_TAct none 0 [], fSl k_TRule none 0 []] W) (fun a W hJ => ?_) ?_
   ·
    obtain ⟨hF, hS⟩ := hJ
    refine sq_val (v_move hF rfl) hF (by decide) (fun a hF => ?_)
    refine sq_cut 5 (fun a W => FH 40 [(4, .slice A13 ((x11.1).length) c14), (34, .bool ((((x1.2.2 == 0) && (x11.2 == 0)) && ((x1.1.length : Int) == 1)) && ((x1.2.1.New.length : Int) == 1)))] a ∧ St M w0 [⟨b10, Tundo_Patch.enc x1.2.1 A5 c6 A7 c8, 51⟩] [⟨k_TRule, 65, A13, c14, x11.1⟩] [fSl k_TRule A3 c4 x1.1, fSl k_TRule A5 c6 x1.2.1.Gone, fSl k_TRule A7 c8 x1.2.1.New, fSl k_TAct none 0 [], fSl k_TRule none 0 []] W) (fun a W hJ => ?_) ?_
    ·
     obtain ⟨hF, hS⟩ := hJ
     refine sq_val (v_move hF rfl) hF (by decide) (fun a hF => ?_)
     refine sq_cut 4 (fun a W => FH 40 [(39, .bool (((((x1.2.2 == 0) && (x11.2 == 0)) && ((x1.1.length : Int) == 1)) && ((x1.2.1.New.length : Int) == 1)) && ((x11.1.length : Int) == 0)))] a ∧ St M w0 [⟨b10, Tundo_Patch.enc x1.2.1 A5 c6 A7 c8, 51⟩] [⟨k_TRule, 65, A13, c14, x11.1⟩] [fSl k_TRule A3 c4 x1.1, fSl k_TRule A5 c6 x1.2.1.Gone, fSl k_TRule A7 c8 x1.2.1.New, fSl k_TAct none 0 [], fSl k_TRule none 0 []] W) (fun a W hJ => ?_) ?_
     ·
      obtain ⟨hF, hS⟩ := hJ
      refine sq_val (v_assign hF rfl) hF (by decide) (fun a hF => ?_)
      refine sq_nil ?_
      refine then_n ?_
      refine wp_ret ?_
      obtain rfl := Option.some.inj h
      exact ret1 hF rfl (rv_tmp hF rfl) ⟨_, rfl, rfl, (hS.keep (List.nil_sublist _) (List.nil_sublist _) trivial)⟩
     ·
      by_cases he19 : ((((x1.2.2 == 0) && (x11.2 == 0)) && ((x1.1.length : Int) == 1)) && ((x1.2.1.New.length : Int) == 1)) = true
      ·
       refine sq_yes hF rfl rfl he19 ?_
       refine sq_val (v_move hF rfl) hF (by decide) (fun a hF => ?_)
       refine sq_yes hF rfl rfl he19 ?_
       refine sq_val (v_len hF rfl pu37) hF (by decide) (fun a hF => ?_)
       refine sq_yes hF rfl rfl he19 ?_
       refine sq_val (v_eql hF rfl rfl) hF (by decide) (fun a hF => ?_)
       refine sq_val (v_pick_t hF rfl he19 rfl) hF (by decide) (fun a hF => ?_)
       exact sq_nil (then_j ⟨(hF.keep ⟨(boolV (and_t he19)), trivial⟩), hS⟩)
      ·
       have he19 : ((((x1.2.2 == 0) && (x11.2 == 0)) && ((x1.1.length : Int) == 1)) && ((x1.2.1.New.length : Int) == 1)) = false := nB he19
       refine sq_no hF rfl rfl he19 (by rintro x ⟨⟩; decide) (fun a hF => ?_)
       refine sq_no hF rfl rfl he19 (by rintro x ⟨⟩; decide) (fun a hF => ?_)
       refine sq_no hF rfl rfl he19 (by rintro x ⟨⟩; decide) (fun a hF => ?_)
       refine sq_val (v_pick_f hF rfl he19 rfl) hF (by decide) (fun a hF => ?_)
       exact sq_nil (then_j ⟨(hF.keep ⟨(boolV (and_f he19)), trivial⟩), hS⟩)
    ·
     by_cases he18 : (((x1.2.2 == 0) && (x11.2 == 0)) && ((x1.1.length : Int) == 1)) = true
     ·
      refine sq_yes hF rfl rfl he18 ?_
      refine sq_val (v_fieldAddr hF rfl pf51_1) hF (by decide) (fun a hF => ?_)
      refine sq_yes hF rfl rfl he18 ?_
      refine sq_val (v_load1 hF rfl pa37 (cells_sub (vs := [.slice A7 ((x1.2.1.New).length) c8]) (hS.bc (i := 0) rfl) rfl rfl)) hF (by decide) (fun a hF => ?_)
      refine sq_yes hF rfl rfl he18 ?_
      refine sq_val (v_len hF rfl pu37) hF (by decide) (fun a hF => ?_)
      refine sq_yes hF rfl rfl he18 ?_
      refine sq_val (v_eql hF rfl rfl) hF (by decide) (fun a hF => ?_)
      refine sq_val (v_pick_t hF rfl he18 rfl) hF (by decide) (fun a hF => ?_)
      exact sq_nil (then_j ⟨(hF.keep ⟨rfl, (boolV (and_t he18)), trivial⟩), hS⟩)
     ·
      have he18 : (((x1.2.2 == 0) && (x11.2 == 0)) && ((x1.1.length : Int) == 1)) = false := nB he18
      refine sq_no hF rfl rfl he18 (by rintro x ⟨⟩; decide) (fun a hF => ?_)
      refine sq_no hF rfl rfl he18 (by rintro x ⟨⟩; decide) (fun a hF => ?_)
      refine sq_no hF rfl rfl he18 (by rintro x ⟨⟩; decide) (fun a hF => ?_)
      refine sq_no hF rfl rfl he18 (by rintro x ⟨⟩; decide) (fun a hF => ?_)
      refine sq_val (v_pick_f hF rfl he18 rfl) hF (by decide) (fun a hF => ?_)
      exact sq_nil (then_j ⟨(hF.keep ⟨rfl, (boolV (and_f he18)), trivial⟩), hS⟩)
   ·
    by_cases he17 : ((x1.2.2 == 0) && (x11.2 == 0)) = true
    ·
     refine sq_yes hF rfl rfl he17 ?_
     refine sq_val (v_move hF rfl) hF (by decide) (fun a hF => ?_)
     refine sq_yes hF rfl rfl he17 ?_
     refine sq_val (v_len hF rfl pu37) hF (by decide) (fun a hF => ?_)
     refine sq_yes hF rfl rfl he17 ?_
     refine sq_val (v_eql hF rfl rfl) hF (by decide) (fun a hF => ?_)
     refine sq_val (v_pick_t hF rfl he17 rfl) hF (by decide) (fun a hF => ?_)
     exact sq_nil (then_j ⟨(hF.keep ⟨rfl, rfl, (boolV (and_t he17)), trivial⟩), hS⟩)
    ·
     have he17 : ((x1.2.2 == 0) && (x11.2 == 0)) = false := nB he17
     refine sq_no hF rfl rfl he17 (by rintro x ⟨⟩; decide) (fun a hF => ?_)
     refine sq_no hF rfl rfl he17 (by rintro x ⟨⟩; decide) (fun a hF => ?_)
     refine sq_no hF rfl rfl he17 (by rintro x ⟨⟩; decide) (fun a hF => ?_)
     refine sq_val (v_pick_f hF rfl he17 rfl) hF (by decide) (fun a hF => ?_)
     exact sq_nil (then_j ⟨(hF.keep ⟨rfl, rfl, (boolV (and_f he17)), trivial⟩), hS⟩)
  ·
   by_cases he16 : (x1.2.2 == 0) = true
   ·
    refine sq_yes hF rfl rfl he16 ?_
    refine sq_val (v_move hF rfl) hF (by decide) (fun a hF => ?_)
    refine sq_yes hF rfl rfl he16 ?_
    refine sq_val (v_eql hF rfl rfl) hF (by decide) (fun a hF => ?_)
    refine sq_val (v_pick_t hF rfl he16 rfl) hF (by decide) (fun a hF => ?_)
    exact sq_nil (then_j ⟨(hF.keep ⟨rfl, rfl, rfl, (boolV (and_t he16)), trivial⟩), hS⟩)
   ·
    have he16 : (x1.2.2 == 0) = false := nB he16
    refine sq_no hF rfl rfl he16 (by rintro x ⟨⟩; decide) (fun a hF => ?_)
    refine sq_no hF rfl rfl he16 (by rintro x ⟨⟩; decide) (fun a hF => ?_)
    refine sq_val (v_pick_f hF rfl he16 rfl) hF (by decide) (fun a hF => ?_)
    exact sq_nil (then_j ⟨(hF.keep ⟨rfl, rfl, rfl, (boolV (and_f he16)), trivial⟩), hS⟩)

theorem ok_ref01_Size {M : Nat → Prop} {w0 : World} {u0 : Int} {o : Int} (hS : St M w0 [] [] [] w0) (h : ref01_Size u0 = some o) :
    Calls Try.prog 110 #[.int .i64 (u0)] w0 fun e W' => ∃ v, e = .returned v ∧ (v = .int .i64 (o) ∧ St M w0 [] [] [] W') := by
  unfold ref01_Size at h
  refine calls_start (args := [.int .i64 (u0)]) Try.func110 rfl rfl (Nat.le_of_ble_eq_true rfl) (fun a hF => ?_)
  refine wp_seq ?_
  refine wp_reg ?_
  refine sq_val (v_assign hF rfl) hF (by decide) (fun a hF => ?_)
  refine sq_nil ?_
  refine then_n ?_
  refine wp_seq ?_
  refine wp_seq ?_
  refine wp_reg ?_
  refine sq_val (v_move hF rfl) hF (by decide) (fun a hF => ?_)
  refine sq_val (v_lss hF rfl rfl) hF (by decide) (fun a hF => ?_)
  refine sq_val (v_move hF rfl) hF (by decide) (fun a hF => ?_)
  refine sq_cut 3 (fun a W => FH 13 [(0, .int .i64 (u0)), (8, .bool ((decide (u0 < 0)) || (decide (11 < u0))))] a ∧ St M w0 [] [] [] W) (fun a W hJ => ?_) ?_
  ·
   obtain ⟨hF, hS⟩ := hJ
   refine sq_nil ?_
   refine then_n ?_
   refine wp_if hF rfl (fun he2 => ?_) (fun he2 => ?_)
   ·
    replace h := ifT he2 h
    refine wp_seq ?_
    refine wp_reg ?_
    refine sq_val (v_assign hF rfl) hF (by decide) (fun a hF => ?_)
    refine sq_nil ?_
    refine then_n ?_
    refine wp_ret ?_
    refine then_r ?_
    obtain rfl := Option.some.inj h
    exact ret1 hF rfl (rv_tmp hF rfl) ⟨_, rfl, rfl, hS⟩
   ·
    replace h := ifF he2 h
    refine wp_skip ?_
    refine then_n ?_
    refine wp_seq ?_
    refine wp_reg ?_
    refine sq_buildSlice (κ := (kInt .i64)) (xs := [.const (.int .i64 16), .const (.int .i64 48), .const (.int .i64 48), .const (.int .i64 16), .const (.int .i64 12), .const (.int .i64 4), .const (.int .i64 32), .const (.int .i64 32), .const (.int .i64 8), .const (.int .i64 8), .const (.int .i64 12), .const (.int .i64 12)]) (ys := [16, 48, 48, 16, 12, 4, 32, 32, 8, 8, 12, 12]) hF hS rfl rfl rfl (Els.cons rfl (Els.cons rfl (Els.cons rfl (Els.cons rfl (Els.cons rfl (Els.cons rfl (Els.cons rfl (Els.cons rfl (Els.cons rfl (Els.cons rfl (Els.cons rfl (Els.cons rfl (Els.nil _ _ _))))))))))))) rfl psl76 pz3 rfl (by decide) (by decide) (by decide) (fun A3 c4 a W hF hS => ?_)
    refine sq_val (v_move hF rfl) hF (by decide) (fun a hF => ?_)
    obtain ⟨x5, hx6, h⟩ := bindS h
    obtain ⟨p7, cs8, hA9, hc11, hr12⟩ := Row.ok.at (hS.rw_ (i := 0) rfl) hx6
    obtain rfl : cs8 = [.int .i64 (x5)] := hr12
    refine sq_val (v_idx hF rfl hA9 rfl psl76 hx6) hF (by decide) (fun a hF => ?_)
    refine sq_val (v_load1 hF rfl pa3 hc11) hF (by decide) (fun a hF => ?_)
    refine sq_val (v_assign hF rfl) hF (by decide) (fun a hF => ?_)
    refine sq_nil ?_
    refine then_n ?_
    refine wp_ret ?_
    obtain rfl := Option.some.inj h
    exact ret1 hF rfl (rv_tmp hF rfl) ⟨_, rfl, rfl, (hS.keep (List.Sublist.refl _) (List.nil_sublist _) trivial)⟩
  ·
   by_cases he1 : (decide (u0 < 0)) = true
   ·
    refine sq_no hF rfl rfl he1 (by rintro x ⟨⟩; decide) (fun a hF => ?_)
    refine sq_no hF rfl rfl he1 (by rintro x ⟨⟩; decide) (fun a hF => ?_)
    refine sq_val (v_pick_t hF rfl he1 rfl) hF (by decide) (fun a hF => ?_)
    exact sq_nil (then_j ⟨(hF.keep ⟨rfl, (boolV (or_t he1)), trivial⟩), hS⟩)
   ·
    have he1 : (decide (u0 < 0)) = false := nB he1
    refine sq_yes hF rfl rfl he1 ?_
    refine sq_val (v_move hF rfl) hF (by decide) (fun a hF => ?_)
    refine sq_yes hF rfl rfl he1 ?_
    refine sq_val (v_gtr hF rfl rfl) hF (by decide) (fun a hF => ?_)
    refine sq_val (v_pick_f hF rfl he1 rfl) hF (by decide) (fun a hF => ?_)
    exact sq_nil (then_j ⟨(hF.keep ⟨rfl, (boolV (or_f he1)), trivial⟩), hS⟩)

theorem ok_ref01_Fits {M : Nat → Prop} {w0 : World} {u0 : Int} {u1 : Int} {o : Bool} (hS : St M w0 [] [] [] w0) (h : ref01_Fits u0 u1 = some o) :
    Calls Try.prog 114 #[.int .u64 (u0), .int .i64 (u1)] w0 fun e W' => ∃ v, e = .returned v ∧ (v = .bool (o) ∧ St M w0 [] [] [] W') := by
  unfold ref01_Fits at h
  refine calls_start (args := [.int .u64 (u0), .int .i64 (u1)]) Try.func114 rfl rfl (Nat.le_of_ble_eq_true rfl) (fun a hF => ?_)
  refine wp_seq ?_
  refine wp_reg ?_
  refine sq_val (v_assign hF rfl) hF (by decide) (fun a hF => ?_)
  refine sq_nil ?_
  refine then_n ?_
  refine wp_seq ?_
  refine wp_reg ?_
  refine sq_val (v_move hF rfl) hF (by decide) (fun a hF => ?_)
  refine sq_val (v_move hF rfl) hF (by decide) (fun a hF => ?_)
  refine sq_val (v_convI hF rfl pu3 pu137) hF (by decide) (fun a hF => ?_)
  obtain ⟨hb1, h⟩ := ifS h
  refine sq_val (v_shl hF rfl rfl hb1) hF (by decide) (fun a hF => ?_)
  refine sq_val (v_lss hF rfl rfl) hF (by decide) (fun a hF => ?_)
  refine sq_val (v_assign hF rfl) hF (by decide) (fun a hF => ?_)
  refine sq_nil ?_
  refine then_n ?_
  refine wp_ret ?_
  obtain rfl := Option.some.inj h
  exact ret1 hF rfl (rv_tmp hF rfl) ⟨_, rfl, rfl, hS⟩

theorem ok_ref01_Head (k : Nat) {M : Nat → Prop} {w0 : World} {u0 : Arr 12} {o : Bool} (hS : St M w0 [] [] [] w0) (h : ref01_Head k u0 = some o) :
    Calls Try.prog 61 #[.agg (A12u64.enc u0).toArray] w0 fun e W' => ∃ v, e = .returned v ∧ (v = .bool (o) ∧ St M w0 [] [] [] W') := by
  unfold ref01_Head at h
  refine calls_start (args := [.agg (A12u64.enc u0).toArray]) Try.func61 rfl rfl (Nat.le_of_ble_eq_true rfl) (fun a hF => ?_)
  refine wp_seq ?_
  refine wp_reg ?_
  refine sq_box hF hS rfl rfl (by decide) (fun b1 a W hF hS => ?_)
  refine sq_val (v_assign hF rfl) hF (by decide) (fun a hF => ?_)
  refine sq_nil ?_
  refine then_n ?_
  refine wp_seq ?_
  refine wp_seq ?_
  refine wp_reg ?_
  refine sq_val (v_assign hF rfl) hF (by decide) (fun a hF => ?_)
  refine sq_nil ?_
  refine then_n ?_
  obtain ⟨o4, h, hk5⟩ := bindS h
  refine wp_join (fun a W => Lo.brk () = o4 ∧ FH 15 [] a ∧ St M w0 [] [] [] W) (fun a W hJ => ?_) ?_
  ·
   obtain ⟨rfl, hF, hS⟩ := hJ
   have h := hk5
   dsimp only at h
   refine then_n ?_
   refine wp_seq ?_
   refine wp_reg ?_
   refine sq_val (v_assign hF rfl) hF (by decide) (fun a hF => ?_)
   refine sq_nil ?_
   refine then_n ?_
   refine wp_ret ?_
   obtain rfl := Option.some.inj h
   exact ret1 hF rfl (rv_tmp hF rfl) ⟨_, rfl, rfl, hS⟩
  ·
   refine wp_block ?_
   refine wp_loop_fuel (I := fun m a W => ∃ (x3 : Int), FH 15 [(1, .pointer (some (⟨b1, 0, none⟩))), (3, .int .i64 (x3))] a ∧ St M w0 [⟨b1, A12u64.enc u0, 24⟩] [] [] W ∧ (ref01_Head.l0 k u0 m x3) = some o4) ?_ (k := k) ⟨0, (hF.keep ⟨rfl, rfl, trivial⟩), hS, h⟩
   rintro m6 a W ⟨x3, hF, hS, h⟩
   cases m6 with
   | zero => cases h
   | succ m6 =>
    rw [ref01_Head.l0] at h
    refine wp_seq ?_
    refine wp_seq ?_
    refine wp_reg ?_
    refine sq_val (v_move hF rfl) hF (by decide) (fun a hF => ?_)
    refine sq_val (v_lss hF rfl rfl) hF (by decide) (fun a hF => ?_)
    refine sq_nil ?_
    refine then_n ?_
    refine wp_if hF rfl (fun he7 => ?_) (fun he7 => ?_)
    ·
     replace h := ifT he7 h
     refine wp_skip ?_
     refine then_n ?_
     refine wp_seq ?_
     refine wp_block ?_
     refine wp_seq ?_
     refine wp_quiet rfl (by kernel_rfl) hS ?_
     refine qt_val (fun W hC => (v_move hF rfl)) hF (by decide) (fun a hF => ?_)
     obtain ⟨hb8, h⟩ := ifS h
     refine qt_val (fun W hC => (v_indexAddr hF rfl rfl par24 hb8.1 hb8.2)) hF (by decide) (fun a hF => ?_)
     refine qt_val (fun W hC => (v_load1 hF rfl pa22 (cells_sub (vs := [.int .u64 ((u0.at x3))]) (hC.2.bc (i := 0) rfl) rfl (A12u64.get u0 x3 hb8.1 hb8.2)))) hF (by decide) (fun a hF => ?_)
     refine qt_val (fun W hC => (v_move hF rfl)) hF (by decide) (fun a hF => ?_)
     obtain ⟨x9, hx10, h⟩ := bindS h
     refine qt_call hF pc110 rfl (by decide) (fun W hC => q_of hC (ok_ref01_Size (hC.2.enter trivial) hx10)) (fun a hF => ?_)
     obtain ⟨x11, hx12, h⟩ := bindS h
     refine qt_call hF pc114 rfl (by decide) (fun W hC => q_of hC (ok_ref01_Fits (hC.2.enter trivial) hx12)) (fun a hF => ?_)
     refine qt_val (fun W hC => (v_not hF rfl)) hF (by decide) (fun a hF => ?_)
     refine qt_nil ?_
     intro W hC
     have hS := hC.2
     refine then_n ?_
     refine wp_if hF rfl (fun he13 => ?_) (fun he13 => ?_)
     ·
      replace h := ifT he13 h
      refine wp_seq ?_
      refine wp_reg ?_
      refine sq_val (v_assign hF rfl) hF (by decide) (fun a hF => ?_)
      refine sq_nil ?_
      refine then_n ?_
      refine wp_ret ?_
      refine blk_r ?_
      refine then_r ?_
      refine then_r ?_
      refine blk_r ?_
      refine then_r ?_
      refine then_r ?_
      obtain rfl := Option.some.inj h
      have h := hk5
      dsimp only at h
      obtain rfl := Option.some.inj h
      exact ret1 hF rfl (rv_tmp hF rfl) ⟨_, rfl, rfl, (hS.keep (List.nil_sublist _) (List.Sublist.refl _) trivial)⟩
     ·
      replace h := ifF he13 h
      refine wp_skip ?_
      refine blk_n ?_
      refine then_n ?_
      refine wp_reg ?_
      refine sq_val (v_move hF rfl) hF (by decide) (fun a hF => ?_)
      refine sq_val (v_add hF rfl rfl) hF (by decide) (fun a hF => ?_)
      refine sq_val (v_assign hF rfl) hF (by decide) (fun a hF => ?_)
      refine sq_nil ?_
      exact then_j ⟨m6, Nat.lt_succ_self _, (IntKind.i64.wrap (x3 + 1)), (hF.keep ⟨rfl, rfl, trivial⟩), hS, h⟩
    ·
     replace h := ifF he7 h
     refine wp_exit ?_
     refine then_x ?_
     refine then_x ?_
     refine blk_hit ?_
     obtain rfl := Option.some.inj h
     exact then_j ⟨rfl, (hF.keep trivial), (hS.keep (List.nil_sublist _) (List.Sublist.refl _) trivial)⟩

theorem ok_ref01_Bits (k : Nat) {M : Nat → Prop} {w0 : World} {u0 : Int} {u1 : Int} {o : (List Bool)} (hS : St M w0 [] [] [] w0) (h : ref01_Bits k u0 u1 = some o) :
    Calls Try.prog 109 #[.int .u64 (u0), .int .i64 (u1)] w0 fun e W' => ∃ v, e = .returned v ∧ (∃ (A23 : Option Addr) (c24 : Nat), v = .slice A23 ((o).length) c24 ∧ St M w0 [] [⟨kBool, 4, A23, c24, o⟩] [] W') := by
  unfold ref01_Bits at h
  refine calls_start (args := [.int .u64 (u0), .int .i64 (u1)]) Try.func109 rfl rfl (Nat.le_of_ble_eq_true rfl) (fun a hF => ?_)
  refine wp_seq ?_
  refine wp_reg ?_
  refine sq_val (v_assign hF rfl) hF (by decide) (fun a hF => ?_)
  refine sq_nil ?_
  refine then_n ?_
  refine wp_seq ?_
  refine wp_reg ?_
  refine sq_val (v_assign hF rfl) hF (by decide) (fun a hF => ?_)
  refine sq_nil ?_
  refine then_n ?_
  refine wp_seq ?_
  refine wp_seq ?_
  refine wp_reg ?_
  refine sq_val (v_move hF rfl) hF (by decide) (fun a hF => ?_)
  refine sq_val (v_sub hF rfl rfl) hF (by decide) (fun a hF => ?_)
  refine sq_val (v_assign hF rfl) hF (by decide) (fun a hF => ?_)
  refine sq_nil ?_
  refine then_n ?_
  obtain ⟨o12, h, hk13⟩ := bindS h
  refine wp_join (fun a W => ∃ (x9 : List Bool) (A10 : Option Addr) (c11 : Nat), x9 = o12 ∧ FH 23 [(5, .slice A10 ((x9).length) c11)] a ∧ St M w0 [] [⟨kBool, 4, A10, c11, x9⟩] [] W) (fun a W hJ => ?_) ?_
  ·
   obtain ⟨x9, A10, c11, rfl, hF, hS⟩ := hJ
   have h := hk13
   refine then_n ?_
   refine wp_seq ?_
   refine wp_reg ?_
   refine sq_val (v_move hF rfl) hF (by decide) (fun a hF => ?_)
   refine sq_val (v_assign hF rfl) hF (by decide) (fun a hF => ?_)
   refine sq_nil ?_
   refine then_n ?_
   refine wp_ret ?_
   obtain rfl := Option.some.inj h
   exact ret1 hF rfl (rv_tmp hF rfl) ⟨_, rfl, A10, c11, rfl, hS⟩
  ·
   have hS := hS.addNil kBool 4
   refine wp_block ?_
   refine wp_loop_fuel (I := fun m a W => ∃ (x5 : List Bool) (x8 : Int) (A6 : Option Addr) (c7 : Nat), FH 23 [(0, .int .u64 (u0)), (5, .slice A6 ((x5).length) c7), (6, .int .i64 (x8))] a ∧ St M w0 [] [⟨kBool, 4, A6, c7, x5⟩] [] W ∧ (ref01_Bits.l0 k u0 m x5 x8) = some o12) ?_ (k := k) ⟨([]), (IntKind.i64.wrap (u1 - 1)), none, 0, (hF.keep ⟨rfl, rfl, rfl, trivial⟩), hS, h⟩
   rintro m14 a W ⟨x5, x8, A6, c7, hF, hS, h⟩
   cases m14 with
   | zero => cases h
   | succ m14 =>
    rw [ref01_Bits.l0] at h
    refine wp_seq ?_
    refine wp_seq ?_
    refine wp_reg ?_
    refine sq_val (v_move hF rfl) hF (by decide) (fun a hF => ?_)
    refine sq_val (v_geq hF rfl rfl) hF (by decide) (fun a hF => ?_)
    refine sq_nil ?_
    refine then_n ?_
    refine wp_if hF rfl (fun he15 => ?_) (fun he15 => ?_)
    ·
     replace h := ifT he15 h
     refine wp_skip ?_
     refine then_n ?_
     refine wp_seq ?_
     refine wp_block ?_
     refine wp_reg ?_
     refine sq_val (v_move hF rfl) hF (by decide) (fun a hF => ?_)
     refine sq_val (v_move hF rfl) hF (by decide) (fun a hF => ?_)
     refine sq_val (v_move hF rfl) hF (by decide) (fun a hF => ?_)
     refine sq_val (v_convI hF rfl pu3 pu137) hF (by decide) (fun a hF => ?_)
     obtain ⟨hb16, h⟩ := ifS h
     refine sq_val (v_shr hF rfl rfl hb16) hF (by decide) (fun a hF => ?_)
     refine sq_val (v_and hF rfl rfl) hF (by decide) (fun a hF => ?_)
     refine sq_val (v_eql hF rfl rfl) hF (by decide) (fun a hF => ?_)
     refine sq_buildSlice (κ := kBool) (xs := [.tmp 19]) (ys := [((bAnd .u64 (bShr .u64 u0 (IntKind.u64.wrap x8)) 1) == 1)]) hF hS rfl rfl rfl (Els.cons rfl (Els.nil _ _ _)) rfl psl116 pz4 rfl (by decide) (by decide) (by decide) (fun A17 c18 a W hF hS => ?_)
     obtain ⟨x21, hx22, h⟩ := bindS h
     refine sq_append (ys := ([((bAnd .u64 (bShr .u64 u0 (IntKind.u64.wrap x8)) 1) == 1)])) hF hS (i := 1) rfl rfl rfl (hS.rw_ (i := 0) rfl).src psl116 pb4 pz4 rfl (by decide) (by decide) hx22 (by decide) (fun A19 c20 a W hF hS => ?_)
     refine sq_val (v_assign hF rfl) hF (by decide) (fun a hF => ?_)
     refine sq_nil ?_
     refine blk_n ?_
     refine then_n ?_
     refine wp_reg ?_
     refine sq_val (v_move hF rfl) hF (by decide) (fun a hF => ?_)
     refine sq_val (v_sub hF rfl rfl) hF (by decide) (fun a hF => ?_)
     refine sq_val (v_assign hF rfl) hF (by decide) (fun a hF => ?_)
     refine sq_nil ?_
     exact then_j ⟨m14, Nat.lt_succ_self _, x21, (IntKind.i64.wrap (x8 - 1)), A19, c20, (hF.keep ⟨rfl, rfl, rfl, trivial⟩), (hS.keep (List.Sublist.refl _) (.cons _ (List.Sublist.refl _)) trivial), h⟩
    ·
     replace h := ifF he15 h
     refine wp_exit ?_
     refine then_x ?_
     refine then_x ?_
     refine blk_hit ?_
     obtain rfl := Option.some.inj h
     exact then_j ⟨x5, A6, c7, rfl, (hF.keep ⟨rfl, trivial⟩), hS⟩
end Go.Proofs.Ytangebngeeamoaa
