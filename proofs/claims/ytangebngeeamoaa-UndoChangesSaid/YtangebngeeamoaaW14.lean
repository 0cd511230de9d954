/- What calls of the Go functions come to. -/
import Derived.Test.YtangebngeeamoaaW13
set_option linter.unusedVariables false
set_option linter.unusedSimpArgs false
set_option maxRecDepth 100000
set_option maxHeartbeats 4000000
namespace Go.Proofs.Ytangebngeeamoaa
open Go.RowKit Go.Pod
theorem ok_ref04_Apply (k : Nat) {M : Nat → Prop} {w0 : World} {u0 : List TRule} {A0_0 : Option Addr} {c0_0 : Nat} {u1 : TMod} {A1_0 : Option Addr} {c1_0 : Nat} {u2 : Int} {o : (List TRule) × Int} (hS : St M w0 [] [] [fSl k_TRule A0_0 c0_0 u0, fSl k_TAct A1_0 c1_0 u1.Acts] w0) (h : ref04_Apply k u0 u1 u2 = some o) :
    Calls Try.prog 25 #[.slice A0_0 ((u0).length) c0_0, .agg (TMod.enc u1 A1_0 c1_0).toArray, .int .i64 (u2)] w0 fun e W' => ∃ v, e = .returned v ∧ (∃ (A195 : Option Addr) (c196 : Nat), v = .tuple #[.slice A195 ((o.1).length) c196, .int .i64 (o.2)] ∧ St M w0 [] [⟨k_TRule, 65, A195, c196, o.1⟩] [] W') := by
  unfold ref04_Apply at h
  refine calls_start (args := [.slice A0_0 ((u0).length) c0_0, .agg (TMod.enc u1 A1_0 c1_0).toArray, .int .i64 (u2)]) Try.func25 rfl rfl (Nat.le_of_ble_eq_true rfl) (fun a hF => ?_)
  refine wp_seq ?_
  refine wp_reg ?_
  refine sq_box hF hS rfl rfl (by decide) (fun b1 a W hF hS => ?_)
  refine sq_val (v_assign hF rfl) hF (by decide) (fun a hF => ?_)
  refine sq_val (v_assign hF rfl) hF (by decide) (fun a hF => ?_)
  refine sq_nil ?_
  refine then_n ?_
  refine wp_seq ?_
  refine wp_seq ?_
  refine wp_reg ?_
  refine sq_val (v_move hF rfl) hF (by decide) (fun a hF => ?_)
  obtain ⟨x2, hx3, h⟩ := bindS h
  refine sq_call hF pc29 rfl (by decide) (ok_ref04_Table k (hS.enter ⟨⟨0, rfl⟩, trivial⟩) hx3) (fun v W hR a hF => ?_)
  obtain ⟨rfl, hT4⟩ := hR
  have hS := hS.grow hT4.below
  refine sq_val (v_not hF rfl) hF (by decide) (fun a hF => ?_)
  refine sq_val (v_move hF rfl) hF (by decide) (fun a hF => ?_)
  obtain ⟨x6, h, hk8⟩ := bindS h
  refine sq_cut 4 (fun a W => FH 130 [(0, .slice A0_0 ((u0).length) c0_0), (2, .int .i64 (u2)), (4, .pointer (some (⟨b1, 0, none⟩))), (23, .bool x6)] a ∧ St M w0 [⟨b1, TMod.enc u1 A1_0 c1_0, 40⟩] [] [fSl k_TRule A0_0 c0_0 u0, fSl k_TAct A1_0 c1_0 u1.Acts] W) (fun a W hJ => ?_) ?_
  ·
   have h := hk8
   obtain ⟨hF, hS⟩ := hJ
   refine sq_nil ?_
   refine then_n ?_
   refine wp_if hF rfl (fun he12 => ?_) (fun he12 => ?_)
   ·
    replace h := ifT he12 h
    refine wp_seq ?_
    refine wp_reg ?_
    refine sq_val (v_assign hF rfl) hF (by decide) (fun a hF => ?_)
    refine sq_val (v_assign hF rfl) hF (by decide) (fun a hF => ?_)
    refine sq_nil ?_
    refine then_n ?_
    refine wp_ret ?_
    refine then_r ?_
    have hS := hS.addNil k_TRule 65
    obtain rfl := Option.some.inj h
    exact ret2 hF rfl (rv_tmp hF rfl) (rv_tmp hF rfl) ⟨_, rfl, none, 0, rfl, (hS.keep (List.nil_sublist _) (List.Sublist.refl _) trivial)⟩
   ·
    replace h := ifF he12 h
    refine wp_skip ?_
    refine then_n ?_
    refine wp_seq ?_
    refine wp_seq ?_
    refine wp_reg ?_
    refine sq_val (v_fieldAddr hF rfl pf40_0) hF (by decide) (fun a hF => ?_)
    refine sq_val (v_load1 hF rfl pa3 (cells_sub (vs := [.int .i64 (u1.Kind)]) (hS.bc (i := 0) rfl) rfl rfl)) hF (by decide) (fun a hF => ?_)
    refine sq_val (v_eql hF rfl rfl) hF (by decide) (fun a hF => ?_)
    refine sq_nil ?_
    refine then_n ?_
    refine wp_if hF rfl (fun he13 => ?_) (fun he13 => ?_)
    ·
     replace h := ifT he13 h
     refine wp_seq ?_
     refine wp_reg ?_
     refine sq_val (v_fieldAddr hF rfl pf40_1) hF (by decide) (fun a hF => ?_)
     refine sq_val (v_load (cs := TCube.enc u1.Match) hF rfl pa26 ps26 (cells_sub (vs := TCube.enc u1.Match) (hS.bc (i := 0) rfl) rfl rfl)) hF (by decide) (fun a hF => ?_)
     refine sq_val (v_fieldAddr hF rfl pf40_2) hF (by decide) (fun a hF => ?_)
     refine sq_val (v_load1 hF rfl pa3 (cells_sub (vs := [.int .i64 (u1.Prio)]) (hS.bc (i := 0) rfl) rfl rfl)) hF (by decide) (fun a hF => ?_)
     refine sq_val (v_fieldAddr hF rfl pf40_3) hF (by decide) (fun a hF => ?_)
     refine sq_val (v_load1 hF rfl pa38 (cells_sub (vs := [.slice A1_0 ((u1.Acts).length) c1_0]) (hS.bc (i := 0) rfl) rfl rfl)) hF (by decide) (fun a hF => ?_)
     refine sq_val (v_fieldAddr hF rfl pf40_4) hF (by decide) (fun a hF => ?_)
     refine sq_val (v_load1 hF rfl pa3 (cells_sub (vs := [.int .i64 (u1.Idle)]) (hS.bc (i := 0) rfl) rfl rfl)) hF (by decide) (fun a hF => ?_)
     refine sq_val (v_fieldAddr hF rfl pf40_5) hF (by decide) (fun a hF => ?_)
     refine sq_val (v_load1 hF rfl pa3 (cells_sub (vs := [.int .i64 (u1.Hard)]) (hS.bc (i := 0) rfl) rfl rfl)) hF (by decide) (fun a hF => ?_)
     refine sq_val (v_fieldAddr hF rfl pf40_6) hF (by decide) (fun a hF => ?_)
     refine sq_val (v_load1 hF rfl pa3 (cells_sub (vs := [.int .i64 (u1.Owner)]) (hS.bc (i := 0) rfl) rfl rfl)) hF (by decide) (fun a hF => ?_)
     refine sq_val (v_build (parts := [(0, .tmp 28), (1, .tmp 30), (2, .tmp 32), (3, .tmp 34), (4, .tmp 36), (5, .tmp 38)]) (out := TRule.enc ({ Match := u1.Match, Prio := u1.Prio, Acts := u1.Acts, Idle := u1.Idle, Hard := u1.Hard, Owner := u1.Owner, Hits := 0, Quiet := 0, Age := 0 } : TRule) A1_0 c1_0) hF rfl rfl pz65 rfl pp65 rfl) hF (by decide) (fun a hF => ?_)
     refine sq_alloc hF hS pz65 rfl (by decide) (fun b14 a W hF hS => ?_)
     refine sq_store (o := 0) (vs := TRule.enc ({ Match := u1.Match, Prio := u1.Prio, Acts := u1.Acts, Idle := u1.Idle, Hard := u1.Hard, Owner := u1.Owner, Hits := 0, Quiet := 0, Age := 0 } : TRule) A1_0 c1_0) (cs' := TRule.enc ({ Match := u1.Match, Prio := u1.Prio, Acts := u1.Acts, Idle := u1.Idle, Hard := u1.Hard, Owner := u1.Owner, Hits := 0, Quiet := 0, Age := 0 } : TRule) A1_0 c1_0) hF hS rfl rfl (i := 0) rfl rfl rfl ps65 (TRule.enc_one _ _ _) (Nat.le_of_ble_eq_true rfl) rfl (fun W hS => ?_)
     refine sq_nil ?_
     refine then_n ?_
     refine wp_seq ?_
     refine wp_reg ?_
     refine sq_val (v_assign hF rfl) hF (by decide) (fun a hF => ?_)
     refine sq_val (v_assign hF rfl) hF (by decide) (fun a hF => ?_)
     refine sq_nil ?_
     refine then_n ?_
     refine wp_seq ?_
     refine wp_seq ?_
     refine wp_reg ?_
     refine sq_val (v_assign hF rfl) hF (by decide) (fun a hF => ?_)
     refine sq_nil ?_
     refine then_n ?_
     obtain ⟨o23, h, hk24⟩ := bindS h
     refine wp_join (fun a W => ∃ (x21 : Bool) (x22 : Bool), Lo.brk (x21, x22) = o23 ∧ FH 130 [(0, .slice A0_0 ((u0).length) c0_0), (2, .int .i64 (u2)), (4, .pointer (some (⟨b1, 0, none⟩))), (8, .pointer (some (⟨b14, 0, none⟩))), (9, .bool (x21)), (10, .bool (x22))] a ∧ St M w0 [⟨b14, TRule.enc ({ Match := u1.Match, Prio := u1.Prio, Acts := u1.Acts, Idle := u1.Idle, Hard := u1.Hard, Owner := u1.Owner, Hits := 0, Quiet := 0, Age := 0 } : TRule) A1_0 c1_0, 65⟩, ⟨b1, TMod.enc u1 A1_0 c1_0, 40⟩] [] [fSl k_TRule A0_0 c0_0 u0, fSl k_TAct A1_0 c1_0 u1.Acts] W) (fun a W hJ => ?_) ?_
     ·
      obtain ⟨x21, x22, rfl, hF, hS⟩ := hJ
      have h := hk24
      dsimp only at h
      refine then_n ?_
      refine wp_seq ?_
      refine wp_seq ?_
      refine wp_reg ?_
      refine sq_val (v_fieldAddr hF rfl pf40_7) hF (by decide) (fun a hF => ?_)
      refine sq_val (v_load1 hF rfl pa4 (cells_sub (vs := [.bool (u1.Check)]) (hS.bc (i := 1) rfl) rfl rfl)) hF (by decide) (fun a hF => ?_)
      refine sq_val (v_move hF rfl) hF (by decide) (fun a hF => ?_)
      refine sq_cut 2 (fun a W => FH 130 [(0, .slice A0_0 ((u0).length) c0_0), (2, .int .i64 (u2)), (8, .pointer (some (⟨b14, 0, none⟩))), (9, .bool (x21)), (73, .bool (u1.Check && x22))] a ∧ St M w0 [⟨b14, TRule.enc ({ Match := u1.Match, Prio := u1.Prio, Acts := u1.Acts, Idle := u1.Idle, Hard := u1.Hard, Owner := u1.Owner, Hits := 0, Quiet := 0, Age := 0 } : TRule) A1_0 c1_0, 65⟩, ⟨b1, TMod.enc u1 A1_0 c1_0, 40⟩] [] [fSl k_TRule A0_0 c0_0 u0, fSl k_TAct A1_0 c1_0 u1.Acts] W) (fun a W hJ => ?_) ?_
      ·
       obtain ⟨hF, hS⟩ := hJ
       refine sq_nil ?_
       refine then_n ?_
       refine wp_if hF rfl (fun he26 => ?_) (fun he26 => ?_)
       ·
        replace h := ifT he26 h
        refine wp_seq ?_
        refine wp_reg ?_
        refine sq_val (v_assign hF rfl) hF (by decide) (fun a hF => ?_)
        refine sq_val (v_assign hF rfl) hF (by decide) (fun a hF => ?_)
        refine sq_nil ?_
        refine then_n ?_
        refine wp_ret ?_
        refine then_r ?_
        refine then_r ?_
        have hS := hS.addNil k_TRule 65
        obtain rfl := Option.some.inj h
        exact ret2 hF rfl (rv_tmp hF rfl) (rv_tmp hF rfl) ⟨_, rfl, none, 0, rfl, (hS.keep (List.nil_sublist _) (List.Sublist.refl _) trivial)⟩
       ·
        replace h := ifF he26 h
        refine wp_skip ?_
        refine then_n ?_
        refine wp_seq ?_
        refine wp_seq ?_
        refine wp_reg ?_
        refine sq_val (v_move hF rfl) hF (by decide) (fun a hF => ?_)
        refine sq_val (v_not hF rfl) hF (by decide) (fun a hF => ?_)
        refine sq_val (v_move hF rfl) hF (by decide) (fun a hF => ?_)
        refine sq_cut 5 (fun a W => FH 130 [(0, .slice A0_0 ((u0).length) c0_0), (8, .pointer (some (⟨b14, 0, none⟩))), (81, .bool ((!x21) && (decide (u2 ≤ (u0.length : Int)))))] a ∧ St M w0 [⟨b14, TRule.enc ({ Match := u1.Match, Prio := u1.Prio, Acts := u1.Acts, Idle := u1.Idle, Hard := u1.Hard, Owner := u1.Owner, Hits := 0, Quiet := 0, Age := 0 } : TRule) A1_0 c1_0, 65⟩, ⟨b1, TMod.enc u1 A1_0 c1_0, 40⟩] [] [fSl k_TRule A0_0 c0_0 u0, fSl k_TAct A1_0 c1_0 u1.Acts] W) (fun a W hJ => ?_) ?_
        ·
         obtain ⟨hF, hS⟩ := hJ
         refine sq_nil ?_
         refine then_n ?_
         refine wp_if hF rfl (fun he28 => ?_) (fun he28 => ?_)
         ·
          replace h := ifT he28 h
          refine wp_seq ?_
          refine wp_reg ?_
          refine sq_val (v_assign hF rfl) hF (by decide) (fun a hF => ?_)
          refine sq_val (v_assign hF rfl) hF (by decide) (fun a hF => ?_)
          refine sq_nil ?_
          refine then_n ?_
          refine wp_ret ?_
          refine then_r ?_
          refine then_r ?_
          have hS := hS.addNil k_TRule 65
          obtain rfl := Option.some.inj h
          exact ret2 hF rfl (rv_tmp hF rfl) (rv_tmp hF rfl) ⟨_, rfl, none, 0, rfl, (hS.keep (List.nil_sublist _) (List.Sublist.refl _) trivial)⟩
         ·
          replace h := ifF he28 h
          refine wp_skip ?_
          refine then_n ?_
          refine wp_seq ?_
          obtain ⟨o33, h, hk34⟩ := bindS h
          refine wp_join (fun a W => ∃ (x29 : List TRule) (x32 : Int) (A30 : Option Addr) (c31 : Nat), (x29, x32) = o33 ∧ FH 130 [(6, .slice A30 ((x29).length) c31), (7, .int .i64 (x32))] a ∧ St M w0 [] [⟨k_TRule, 65, A30, c31, x29⟩] [] W) (fun a W hJ => ?_) ?_
          ·
           obtain ⟨x29, x32, A30, c31, rfl, hF, hS⟩ := hJ
           have h := hk34
           dsimp only at h
           refine then_n ?_
           refine wp_ret ?_
           refine then_r ?_
           obtain rfl := Option.some.inj h
           exact ret2 hF rfl (rv_tmp hF rfl) (rv_tmp hF rfl) ⟨_, rfl, A30, c31, rfl, hS⟩
          ·
           refine wp_drawn (fun _ => St M w0 [⟨b14, TRule.enc ({ Match := u1.Match, Prio := u1.Prio, Acts := u1.Acts, Idle := u1.Idle, Hard := u1.Hard, Owner := u1.Owner, Hits := 0, Quiet := 0, Age := 0 } : TRule) A1_0 c1_0, 65⟩, ⟨b1, TMod.enc u1 A1_0 c1_0, 40⟩] [] [fSl k_TRule A0_0 c0_0 u0, fSl k_TAct A1_0 c1_0 u1.Acts]) (fun _ => false) rfl hS (fun W hB0 hR0 => ?_)
           have hS := hR0
           have hQC : (fun _ => St M w0 [⟨b14, TRule.enc ({ Match := u1.Match, Prio := u1.Prio, Acts := u1.Acts, Idle := u1.Idle, Hard := u1.Hard, Owner := u1.Owner, Hits := 0, Quiet := 0, Age := 0 } : TRule) A1_0 c1_0, 65⟩, ⟨b1, TMod.enc u1 A1_0 c1_0, 40⟩] [] [fSl k_TRule A0_0 c0_0 u0, fSl k_TAct A1_0 c1_0 u1.Acts]) W W := hS
           obtain ⟨x35, hx36, h⟩ := bindS h
           obtain ⟨x37, hx38, h⟩ := bindS h
           obtain ⟨x39, hx40, h⟩ := bindS h
           refine e_val (listed' := #[false, true, false, false, false, false, false, false, false]) 1 rfl (by kernel_rfl) (by kernel_rfl) (fun _ _ _ h => h) (fun W => (v_move hF rfl)) hF (by decide) (fun a hF => ?_)
           refine e_valS (listed' := #[false, true, false, true, false, false, false, false, false]) 3 rfl (by kernel_rfl) (by kernel_rfl) (fun _ _ _ h => h) (fun W hC => (v_load (cs := TRule.enc ({ Match := u1.Match, Prio := u1.Prio, Acts := u1.Acts, Idle := u1.Idle, Hard := u1.Hard, Owner := u1.Owner, Hits := 0, Quiet := 0, Age := 0 } : TRule) A1_0 c1_0) hF rfl pa65 ps65 (hC.bc (i := 0) rfl))) hQC (by kernel_rfl) hF (by decide) (fun a hF => ?_)
           refine e_many [0, 4] (by kernel_rfl) (by decide) ⟨⟨_, rfl, ?_⟩, ⟨_, rfl, ?_⟩, trivial⟩
           ·
            refine sq_buildSlice (κ := k_TRule) (xs := []) (ys := ([] : List TRule)) hF hS rfl rfl rfl (Els.nil _ _ _) rfl psl37 pz65 rfl (by decide) (by decide) (by decide) (fun A41 c42 a W hF hS => ?_)
            refine sq_nil (then_j ⟨?_, ?_⟩)
            · exact fun _ _ => (hS.keep (List.Sublist.refl _) (List.nil_sublist _) ⟨⟨0, rfl⟩, ⟨1, rfl⟩, trivial⟩)
            ·
             have hQC : (fun _ => St M w0 [⟨b14, TRule.enc ({ Match := u1.Match, Prio := u1.Prio, Acts := u1.Acts, Idle := u1.Idle, Hard := u1.Hard, Owner := u1.Owner, Hits := 0, Quiet := 0, Age := 0 } : TRule) A1_0 c1_0, 65⟩, ⟨b1, TMod.enc u1 A1_0 c1_0, 40⟩] [] [fSl k_TRule A0_0 c0_0 u0, fSl k_TAct A1_0 c1_0 u1.Acts]) W W := (hS.keep (List.Sublist.refl _) (List.nil_sublist _) ⟨⟨0, rfl⟩, ⟨1, rfl⟩, trivial⟩)
             refine e_listed (listed' := #[true, true, false, true, false, false, false, false, false]) (by kernel_rfl) ?_
             refine e_many [2, 4] (by kernel_rfl) (by decide) ⟨⟨_, rfl, ?_⟩, ⟨_, rfl, ?_⟩, trivial⟩
             ·
              refine sq_append (ys := u0) hF hS (i := 0) rfl rfl rfl (SlR.src (hS.fc (i := 0) rfl)) psl37 pb65 pz65 rfl (by decide) (by decide) hx36 (by decide) (fun A43 c44 a W hF hS => ?_)
              refine sq_nil (then_j ⟨?_, ?_⟩)
              · exact fun _ _ => (hS.keep (List.Sublist.refl _) (List.nil_sublist _) ⟨⟨0, rfl⟩, ⟨1, rfl⟩, trivial⟩)
              ·
               have hQC : (fun _ => St M w0 [⟨b14, TRule.enc ({ Match := u1.Match, Prio := u1.Prio, Acts := u1.Acts, Idle := u1.Idle, Hard := u1.Hard, Owner := u1.Owner, Hits := 0, Quiet := 0, Age := 0 } : TRule) A1_0 c1_0, 65⟩, ⟨b1, TMod.enc u1 A1_0 c1_0, 40⟩] [] [fSl k_TRule A0_0 c0_0 u0, fSl k_TAct A1_0 c1_0 u1.Acts]) W W := (hS.keep (List.Sublist.refl _) (List.nil_sublist _) ⟨⟨0, rfl⟩, ⟨1, rfl⟩, trivial⟩)
               refine e_listed (listed' := #[true, true, true, true, false, false, false, false, false]) (by kernel_rfl) ?_
               refine e_one (listed' := #[true, true, true, true, true, false, false, false, false]) 4 rfl (by kernel_rfl) (by kernel_rfl) ?_
               refine sq_buildSlice (κ := k_TRule) (xs := [.tmp 85]) (ys := [({ Match := u1.Match, Prio := u1.Prio, Acts := u1.Acts, Idle := u1.Idle, Hard := u1.Hard, Owner := u1.Owner, Hits := 0, Quiet := 0, Age := 0 } : TRule)]) hF hS rfl rfl rfl (Els.cons ⟨A1_0, c1_0, rfl, (hS.fc (i := 1) rfl)⟩ (Els.nil _ _ _)) rfl psl37 pz65 rfl (by decide) (by decide) (by decide) (fun A45 c46 a W hF hS => ?_)
               refine sq_nil (then_j ⟨?_, ?_⟩)
               · exact fun _ _ => (hS.keep (List.Sublist.refl _) (List.nil_sublist _) ⟨⟨0, rfl⟩, ⟨1, rfl⟩, trivial⟩)
               ·
                have hQC : (fun _ => St M w0 [⟨b14, TRule.enc ({ Match := u1.Match, Prio := u1.Prio, Acts := u1.Acts, Idle := u1.Idle, Hard := u1.Hard, Owner := u1.Owner, Hits := 0, Quiet := 0, Age := 0 } : TRule) A1_0 c1_0, 65⟩, ⟨b1, TMod.enc u1 A1_0 c1_0, 40⟩] [] [fSl k_TRule A0_0 c0_0 u0, fSl k_TAct A1_0 c1_0 u1.Acts]) W W := (hS.keep (List.Sublist.refl _) (List.nil_sublist _) ⟨⟨0, rfl⟩, ⟨1, rfl⟩, trivial⟩)
                refine e_one (listed' := #[true, true, true, true, true, true, false, false, false]) 5 rfl (by kernel_rfl) (by kernel_rfl) ?_
                refine sq_append (ys := ([({ Match := u1.Match, Prio := u1.Prio, Acts := u1.Acts, Idle := u1.Idle, Hard := u1.Hard, Owner := u1.Owner, Hits := 0, Quiet := 0, Age := 0 } : TRule)])) hF hS (i := 1) rfl rfl rfl (hS.rw_ (i := 0) rfl).src psl37 pb65 pz65 rfl (by decide) (by decide) hx38 (by decide) (fun A47 c48 a W hF hS => ?_)
                refine sq_nil (then_j ⟨?_, ?_⟩)
                · exact fun _ _ => (hS.keep (List.Sublist.refl _) (List.nil_sublist _) ⟨⟨0, rfl⟩, ⟨1, rfl⟩, trivial⟩)
                ·
                 have hQC : (fun _ => St M w0 [⟨b14, TRule.enc ({ Match := u1.Match, Prio := u1.Prio, Acts := u1.Acts, Idle := u1.Idle, Hard := u1.Hard, Owner := u1.Owner, Hits := 0, Quiet := 0, Age := 0 } : TRule) A1_0 c1_0, 65⟩, ⟨b1, TMod.enc u1 A1_0 c1_0, 40⟩] [] [fSl k_TRule A0_0 c0_0 u0, fSl k_TAct A1_0 c1_0 u1.Acts]) W W := (hS.keep (List.Sublist.refl _) (List.nil_sublist _) ⟨⟨0, rfl⟩, ⟨1, rfl⟩, trivial⟩)
                 refine e_one (listed' := #[true, true, true, true, true, true, true, false, false]) 6 rfl (by kernel_rfl) (by kernel_rfl) ?_
                 have hS := hS.freeze (i := 1) rfl (posB rfl)
                 refine sq_call hF pc73 rfl (by decide) (ok_ref04_Sort k (hS.enter ⟨⟨0, rfl⟩, trivial⟩) hx40) (fun v W hR a hF => ?_)
                 obtain ⟨A49, c50, rfl, hT51⟩ := hR
                 have hS := hS.join hT51
                 refine sq_nil (then_j ⟨?_, ?_⟩)
                 · exact fun _ _ => (hS.keep (List.Sublist.refl _) (List.nil_sublist _) ⟨⟨1, rfl⟩, ⟨2, rfl⟩, trivial⟩)
                 ·
                  have hQC : (fun _ => St M w0 [⟨b14, TRule.enc ({ Match := u1.Match, Prio := u1.Prio, Acts := u1.Acts, Idle := u1.Idle, Hard := u1.Hard, Owner := u1.Owner, Hits := 0, Quiet := 0, Age := 0 } : TRule) A1_0 c1_0, 65⟩, ⟨b1, TMod.enc u1 A1_0 c1_0, 40⟩] [] [fSl k_TRule A0_0 c0_0 u0, fSl k_TAct A1_0 c1_0 u1.Acts]) W W := (hS.keep (List.Sublist.refl _) (List.nil_sublist _) ⟨⟨1, rfl⟩, ⟨2, rfl⟩, trivial⟩)
                  refine e_val (listed' := #[true, true, true, true, true, true, true, true, false]) 7 rfl (by kernel_rfl) (by kernel_rfl) (fun _ _ _ h => h) (fun W => (v_assign hF rfl)) hF (by decide) (fun a hF => ?_)
                  refine e_val (listed' := #[true, true, true, true, true, true, true, true, true]) 8 rfl (by kernel_rfl) (by kernel_rfl) (fun _ _ _ h => h) (fun W => (v_assign hF rfl)) hF (by decide) (fun a hF => ?_)
                  refine e_done (by kernel_rfl) ?_ _
                  obtain rfl := Option.some.inj h
                  exact then_j ⟨x39, 0, A49, c50, rfl, (hF.keep ⟨rfl, rfl, trivial⟩), (hS.keep (List.nil_sublist _) (.cons_cons _ (List.nil_sublist _)) trivial)⟩
             ·
              refine sq_buildSlice (κ := k_TRule) (xs := [.tmp 85]) (ys := [({ Match := u1.Match, Prio := u1.Prio, Acts := u1.Acts, Idle := u1.Idle, Hard := u1.Hard, Owner := u1.Owner, Hits := 0, Quiet := 0, Age := 0 } : TRule)]) hF hS rfl rfl rfl (Els.cons ⟨A1_0, c1_0, rfl, (hS.fc (i := 1) rfl)⟩ (Els.nil _ _ _)) rfl psl37 pz65 rfl (by decide) (by decide) (by decide) (fun A52 c53 a W hF hS => ?_)
              refine sq_nil (then_j ⟨?_, ?_⟩)
              · exact fun _ _ => (hS.keep (List.Sublist.refl _) (List.nil_sublist _) ⟨⟨0, rfl⟩, ⟨1, rfl⟩, trivial⟩)
              ·
               have hQC : (fun _ => St M w0 [⟨b14, TRule.enc ({ Match := u1.Match, Prio := u1.Prio, Acts := u1.Acts, Idle := u1.Idle, Hard := u1.Hard, Owner := u1.Owner, Hits := 0, Quiet := 0, Age := 0 } : TRule) A1_0 c1_0, 65⟩, ⟨b1, TMod.enc u1 A1_0 c1_0, 40⟩] [] [fSl k_TRule A0_0 c0_0 u0, fSl k_TAct A1_0 c1_0 u1.Acts]) W W := (hS.keep (List.Sublist.refl _) (List.nil_sublist _) ⟨⟨0, rfl⟩, ⟨1, rfl⟩, trivial⟩)
               refine e_listed (listed' := #[true, true, false, true, true, false, false, false, false]) (by kernel_rfl) ?_
               refine e_one (listed' := #[true, true, true, true, true, false, false, false, false]) 2 rfl (by kernel_rfl) (by kernel_rfl) ?_
               refine sq_append (ys := u0) hF hS (i := 1) rfl rfl rfl (SlR.src (hS.fc (i := 0) rfl)) psl37 pb65 pz65 rfl (by decide) (by decide) hx36 (by decide) (fun A54 c55 a W hF hS => ?_)
               refine sq_nil (then_j ⟨?_, ?_⟩)
               · exact fun _ _ => (hS.keep (List.Sublist.refl _) (List.nil_sublist _) ⟨⟨0, rfl⟩, ⟨1, rfl⟩, trivial⟩)
               ·
                have hQC : (fun _ => St M w0 [⟨b14, TRule.enc ({ Match := u1.Match, Prio := u1.Prio, Acts := u1.Acts, Idle := u1.Idle, Hard := u1.Hard, Owner := u1.Owner, Hits := 0, Quiet := 0, Age := 0 } : TRule) A1_0 c1_0, 65⟩, ⟨b1, TMod.enc u1 A1_0 c1_0, 40⟩] [] [fSl k_TRule A0_0 c0_0 u0, fSl k_TAct A1_0 c1_0 u1.Acts]) W W := (hS.keep (List.Sublist.refl _) (List.nil_sublist _) ⟨⟨0, rfl⟩, ⟨1, rfl⟩, trivial⟩)
                refine e_one (listed' := #[true, true, true, true, true, true, false, false, false]) 5 rfl (by kernel_rfl) (by kernel_rfl) ?_
                refine sq_append (ys := ([({ Match := u1.Match, Prio := u1.Prio, Acts := u1.Acts, Idle := u1.Idle, Hard := u1.Hard, Owner := u1.Owner, Hits := 0, Quiet := 0, Age := 0 } : TRule)])) hF hS (i := 1) rfl rfl rfl (hS.rw_ (i := 0) rfl).src psl37 pb65 pz65 rfl (by decide) (by decide) hx38 (by decide) (fun A56 c57 a W hF hS => ?_)
                refine sq_nil (then_j ⟨?_, ?_⟩)
                · exact fun _ _ => (hS.keep (List.Sublist.refl _) (List.nil_sublist _) ⟨⟨0, rfl⟩, ⟨1, rfl⟩, trivial⟩)
                ·
                 have hQC : (fun _ => St M w0 [⟨b14, TRule.enc ({ Match := u1.Match, Prio := u1.Prio, Acts := u1.Acts, Idle := u1.Idle, Hard := u1.Hard, Owner := u1.Owner, Hits := 0, Quiet := 0, Age := 0 } : TRule) A1_0 c1_0, 65⟩, ⟨b1, TMod.enc u1 A1_0 c1_0, 40⟩] [] [fSl k_TRule A0_0 c0_0 u0, fSl k_TAct A1_0 c1_0 u1.Acts]) W W := (hS.keep (List.Sublist.refl _) (List.nil_sublist _) ⟨⟨0, rfl⟩, ⟨1, rfl⟩, trivial⟩)
                 refine e_one (listed' := #[true, true, true, true, true, true, true, false, false]) 6 rfl (by kernel_rfl) (by kernel_rfl) ?_
                 have hS := hS.freeze (i := 1) rfl (posB rfl)
                 refine sq_call hF pc73 rfl (by decide) (ok_ref04_Sort k (hS.enter ⟨⟨0, rfl⟩, trivial⟩) hx40) (fun v W hR a hF => ?_)
                 obtain ⟨A58, c59, rfl, hT60⟩ := hR
                 have hS := hS.join hT60
                 refine sq_nil (then_j ⟨?_, ?_⟩)
                 · exact fun _ _ => (hS.keep (List.Sublist.refl _) (List.nil_sublist _) ⟨⟨1, rfl⟩, ⟨2, rfl⟩, trivial⟩)
                 ·
                  have hQC : (fun _ => St M w0 [⟨b14, TRule.enc ({ Match := u1.Match, Prio := u1.Prio, Acts := u1.Acts, Idle := u1.Idle, Hard := u1.Hard, Owner := u1.Owner, Hits := 0, Quiet := 0, Age := 0 } : TRule) A1_0 c1_0, 65⟩, ⟨b1, TMod.enc u1 A1_0 c1_0, 40⟩] [] [fSl k_TRule A0_0 c0_0 u0, fSl k_TAct A1_0 c1_0 u1.Acts]) W W := (hS.keep (List.Sublist.refl _) (List.nil_sublist _) ⟨⟨1, rfl⟩, ⟨2, rfl⟩, trivial⟩)
                  refine e_val (listed' := #[true, true, true, true, true, true, true, true, false]) 7 rfl (by kernel_rfl) (by kernel_rfl) (fun _ _ _ h => h) (fun W => (v_assign hF rfl)) hF (by decide) (fun a hF => ?_)
                  refine e_val (listed' := #[true, true, true, true, true, true, true, true, true]) 8 rfl (by kernel_rfl) (by kernel_rfl) (fun _ _ _ h => h) (fun W => (v_assign hF rfl)) hF (by decide) (fun a hF => ?_)
                  refine e_done (by kernel_rfl) ?_ _
                  obtain rfl := Option.some.inj h
                  exact then_j ⟨x39, 0, A58, c59, rfl, (hF.keep ⟨rfl, rfl, trivial⟩), (hS.keep (List.nil_sublist _) (.cons_cons _ (List.nil_sublist _)) trivial)⟩
           ·
            refine sq_buildSlice (κ := k_TRule) (xs := [.tmp 85]) (ys := [({ Match := u1.Match, Prio := u1.Prio, Acts := u1.Acts, Idle := u1.Idle, Hard := u1.Hard, Owner := u1.Owner, Hits := 0, Quiet := 0, Age := 0 } : TRule)]) hF hS rfl rfl rfl (Els.cons ⟨A1_0, c1_0, rfl, (hS.fc (i := 1) rfl)⟩ (Els.nil _ _ _)) rfl psl37 pz65 rfl (by decide) (by decide) (by decide) (fun A61 c62 a W hF hS => ?_)
            refine sq_nil (then_j ⟨?_, ?_⟩)
            · exact fun _ _ => (hS.keep (List.Sublist.refl _) (List.nil_sublist _) ⟨⟨0, rfl⟩, ⟨1, rfl⟩, trivial⟩)
            ·
             have hQC : (fun _ => St M w0 [⟨b14, TRule.enc ({ Match := u1.Match, Prio := u1.Prio, Acts := u1.Acts, Idle := u1.Idle, Hard := u1.Hard, Owner := u1.Owner, Hits := 0, Quiet := 0, Age := 0 } : TRule) A1_0 c1_0, 65⟩, ⟨b1, TMod.enc u1 A1_0 c1_0, 40⟩] [] [fSl k_TRule A0_0 c0_0 u0, fSl k_TAct A1_0 c1_0 u1.Acts]) W W := (hS.keep (List.Sublist.refl _) (List.nil_sublist _) ⟨⟨0, rfl⟩, ⟨1, rfl⟩, trivial⟩)
             refine e_listed (listed' := #[false, true, false, true, true, false, false, false, false]) (by kernel_rfl) ?_
             refine e_one (listed' := #[true, true, false, true, true, false, false, false, false]) 0 rfl (by kernel_rfl) (by kernel_rfl) ?_
             refine sq_buildSlice (κ := k_TRule) (xs := []) (ys := ([] : List TRule)) hF hS rfl rfl rfl (Els.nil _ _ _) rfl psl37 pz65 rfl (by decide) (by decide) (by decide) (fun A63 c64 a W hF hS => ?_)
             refine sq_nil (then_j ⟨?_, ?_⟩)
             · exact fun _ _ => (hS.keep (List.Sublist.refl _) (List.nil_sublist _) ⟨⟨0, rfl⟩, ⟨1, rfl⟩, trivial⟩)
             ·
              have hQC : (fun _ => St M w0 [⟨b14, TRule.enc ({ Match := u1.Match, Prio := u1.Prio, Acts := u1.Acts, Idle := u1.Idle, Hard := u1.Hard, Owner := u1.Owner, Hits := 0, Quiet := 0, Age := 0 } : TRule) A1_0 c1_0, 65⟩, ⟨b1, TMod.enc u1 A1_0 c1_0, 40⟩] [] [fSl k_TRule A0_0 c0_0 u0, fSl k_TAct A1_0 c1_0 u1.Acts]) W W := (hS.keep (List.Sublist.refl _) (List.nil_sublist _) ⟨⟨0, rfl⟩, ⟨1, rfl⟩, trivial⟩)
              refine e_one (listed' := #[true, true, true, true, true, false, false, false, false]) 2 rfl (by kernel_rfl) (by kernel_rfl) ?_
              refine sq_append (ys := u0) hF hS (i := 0) rfl rfl rfl (SlR.src (hS.fc (i := 0) rfl)) psl37 pb65 pz65 rfl (by decide) (by decide) hx36 (by decide) (fun A65 c66 a W hF hS => ?_)
              refine sq_nil (then_j ⟨?_, ?_⟩)
              · exact fun _ _ => (hS.keep (List.Sublist.refl _) (List.nil_sublist _) ⟨⟨0, rfl⟩, ⟨1, rfl⟩, trivial⟩)
              ·
               have hQC : (fun _ => St M w0 [⟨b14, TRule.enc ({ Match := u1.Match, Prio := u1.Prio, Acts := u1.Acts, Idle := u1.Idle, Hard := u1.Hard, Owner := u1.Owner, Hits := 0, Quiet := 0, Age := 0 } : TRule) A1_0 c1_0, 65⟩, ⟨b1, TMod.enc u1 A1_0 c1_0, 40⟩] [] [fSl k_TRule A0_0 c0_0 u0, fSl k_TAct A1_0 c1_0 u1.Acts]) W W := (hS.keep (List.Sublist.refl _) (List.nil_sublist _) ⟨⟨0, rfl⟩, ⟨1, rfl⟩, trivial⟩)
               refine e_one (listed' := #[true, true, true, true, true, true, false, false, false]) 5 rfl (by kernel_rfl) (by kernel_rfl) ?_
               refine sq_append (ys := ([({ Match := u1.Match, Prio := u1.Prio, Acts := u1.Acts, Idle := u1.Idle, Hard := u1.Hard, Owner := u1.Owner, Hits := 0, Quiet := 0, Age := 0 } : TRule)])) hF hS (i := 0) rfl rfl rfl (hS.rw_ (i := 1) rfl).src psl37 pb65 pz65 rfl (by decide) (by decide) hx38 (by decide) (fun A67 c68 a W hF hS => ?_)
               refine sq_nil (then_j ⟨?_, ?_⟩)
               · exact fun _ _ => (hS.keep (List.Sublist.refl _) (List.nil_sublist _) ⟨⟨0, rfl⟩, ⟨1, rfl⟩, trivial⟩)
               ·
                have hQC : (fun _ => St M w0 [⟨b14, TRule.enc ({ Match := u1.Match, Prio := u1.Prio, Acts := u1.Acts, Idle := u1.Idle, Hard := u1.Hard, Owner := u1.Owner, Hits := 0, Quiet := 0, Age := 0 } : TRule) A1_0 c1_0, 65⟩, ⟨b1, TMod.enc u1 A1_0 c1_0, 40⟩] [] [fSl k_TRule A0_0 c0_0 u0, fSl k_TAct A1_0 c1_0 u1.Acts]) W W := (hS.keep (List.Sublist.refl _) (List.nil_sublist _) ⟨⟨0, rfl⟩, ⟨1, rfl⟩, trivial⟩)
                refine e_one (listed' := #[true, true, true, true, true, true, true, false, false]) 6 rfl (by kernel_rfl) (by kernel_rfl) ?_
                have hS := hS.freeze (i := 0) rfl (posB rfl)
                refine sq_call hF pc73 rfl (by decide) (ok_ref04_Sort k (hS.enter ⟨⟨0, rfl⟩, trivial⟩) hx40) (fun v W hR a hF => ?_)
                obtain ⟨A69, c70, rfl, hT71⟩ := hR
                have hS := hS.join hT71
                refine sq_nil (then_j ⟨?_, ?_⟩)
                · exact fun _ _ => (hS.keep (List.Sublist.refl _) (List.nil_sublist _) ⟨⟨1, rfl⟩, ⟨2, rfl⟩, trivial⟩)
                ·
                 have hQC : (fun _ => St M w0 [⟨b14, TRule.enc ({ Match := u1.Match, Prio := u1.Prio, Acts := u1.Acts, Idle := u1.Idle, Hard := u1.Hard, Owner := u1.Owner, Hits := 0, Quiet := 0, Age := 0 } : TRule) A1_0 c1_0, 65⟩, ⟨b1, TMod.enc u1 A1_0 c1_0, 40⟩] [] [fSl k_TRule A0_0 c0_0 u0, fSl k_TAct A1_0 c1_0 u1.Acts]) W W := (hS.keep (List.Sublist.refl _) (List.nil_sublist _) ⟨⟨1, rfl⟩, ⟨2, rfl⟩, trivial⟩)
                 refine e_val (listed' := #[true, true, true, true, true, true, true, true, false]) 7 rfl (by kernel_rfl) (by kernel_rfl) (fun _ _ _ h => h) (fun W => (v_assign hF rfl)) hF (by decide) (fun a hF => ?_)
                 refine e_val (listed' := #[true, true, true, true, true, true, true, true, true]) 8 rfl (by kernel_rfl) (by kernel_rfl) (fun _ _ _ h => h) (fun W => (v_assign hF rfl)) hF (by decide) (fun a hF => ?_)
                 refine e_done (by kernel_rfl) ?_ _
                 obtain rfl := Option.some.inj h
                 exact then_j ⟨x39, 0, A69, c70, rfl, (hF.keep ⟨rfl, rfl, trivial⟩), (hS.keep (List.nil_sublist _) (.cons_cons _ (List.nil_sublist _)) trivial)⟩
        ·
         by_cases he27 : (!x21) = true
         ·
          refine sq_yes hF rfl rfl he27 ?_
          refine sq_val (v_move hF rfl) hF (by decide) (fun a hF => ?_)
          refine sq_yes hF rfl rfl he27 ?_
          refine sq_val (v_len hF rfl pu37) hF (by decide) (fun a hF => ?_)
          refine sq_yes hF rfl rfl he27 ?_
          refine sq_val (v_move hF rfl) hF (by decide) (fun a hF => ?_)
          refine sq_yes hF rfl rfl he27 ?_
          refine sq_val (v_geq hF rfl rfl) hF (by decide) (fun a hF => ?_)
          refine sq_val (v_pick_t hF rfl he27 rfl) hF (by decide) (fun a hF => ?_)
          exact sq_nil (then_j ⟨(hF.keep ⟨rfl, rfl, (boolV (and_t he27)), trivial⟩), hS⟩)
         ·
          have he27 : (!x21) = false := nB he27
          refine sq_no hF rfl rfl he27 (by rintro x ⟨⟩; decide) (fun a hF => ?_)
          refine sq_no hF rfl rfl he27 (by rintro x ⟨⟩; decide) (fun a hF => ?_)
          refine sq_no hF rfl rfl he27 (by rintro x ⟨⟩; decide) (fun a hF => ?_)
          refine sq_no hF rfl rfl he27 (by rintro x ⟨⟩; decide) (fun a hF => ?_)
          refine sq_val (v_pick_f hF rfl he27 rfl) hF (by decide) (fun a hF => ?_)
          exact sq_nil (then_j ⟨(hF.keep ⟨rfl, rfl, (boolV (and_f he27)), trivial⟩), hS⟩)
      ·
       by_cases he25 : u1.Check = true
       ·
        refine sq_yes hF rfl rfl he25 ?_
        refine sq_val (v_move hF rfl) hF (by decide) (fun a hF => ?_)
        refine sq_val (v_pick_t hF rfl he25 rfl) hF (by decide) (fun a hF => ?_)
        exact sq_nil (then_j ⟨(hF.keep ⟨rfl, rfl, rfl, rfl, (boolV (and_t he25)), trivial⟩), hS⟩)
       ·
        have he25 : u1.Check = false := nB he25
        refine sq_no hF rfl rfl he25 (by rintro x ⟨⟩; decide) (fun a hF => ?_)
        refine sq_val (v_pick_f hF rfl he25 rfl) hF (by decide) (fun a hF => ?_)
        exact sq_nil (then_j ⟨(hF.keep ⟨rfl, rfl, rfl, rfl, (boolV (and_f he25)), trivial⟩), hS⟩)
     ·
      refine wp_block ?_
      refine wp_loop_fuel (I := fun m a W => ∃ (x18 : Bool) (x19 : Bool) (x20 : Int), FH 130 [(0, .slice A0_0 ((u0).length) c0_0), (2, .int .i64 (u2)), (4, .pointer (some (⟨b1, 0, none⟩))), (8, .pointer (some (⟨b14, 0, none⟩))), (9, .bool (x18)), (10, .bool (x19)), (11, .int .i64 (x20))] a ∧ St M w0 [⟨b14, TRule.enc ({ Match := u1.Match, Prio := u1.Prio, Acts := u1.Acts, Idle := u1.Idle, Hard := u1.Hard, Owner := u1.Owner, Hits := 0, Quiet := 0, Age := 0 } : TRule) A1_0 c1_0, 65⟩, ⟨b1, TMod.enc u1 A1_0 c1_0, 40⟩] [] [fSl k_TRule A0_0 c0_0 u0, fSl k_TAct A1_0 c1_0 u1.Acts] W ∧ (ref04_Apply.l0 k u0 u1 m x18 x19 x20) = some o23) ?_ (k := k) ⟨false, false, 0, (hF.keep ⟨rfl, rfl, rfl, rfl, rfl, rfl, rfl, trivial⟩), hS, h⟩
      rintro m72 a W ⟨x18, x19, x20, hF, hS, h⟩
      cases m72 with
      | zero => cases h
      | succ m72 =>
       rw [ref04_Apply.l0] at h
       refine wp_seq ?_
       refine wp_seq ?_
       refine wp_reg ?_
       refine sq_val (v_move hF rfl) hF (by decide) (fun a hF => ?_)
       refine sq_val (v_move hF rfl) hF (by decide) (fun a hF => ?_)
       refine sq_val (v_len hF rfl pu37) hF (by decide) (fun a hF => ?_)
       refine sq_val (v_lss hF rfl rfl) hF (by decide) (fun a hF => ?_)
       refine sq_nil ?_
       refine then_n ?_
       refine wp_if hF rfl (fun he73 => ?_) (fun he73 => ?_)
       ·
        replace h := ifT he73 h
        refine wp_skip ?_
        refine then_n ?_
        refine wp_seq ?_
        obtain ⟨o76, h, hk77⟩ := bindS h
        refine wp_join (fun a W => ∃ (x74 : Bool) (x75 : Bool), Lo.brk (x74, x75) = o76 ∧ FH 130 [(0, .slice A0_0 ((u0).length) c0_0), (2, .int .i64 (u2)), (4, .pointer (some (⟨b1, 0, none⟩))), (8, .pointer (some (⟨b14, 0, none⟩))), (9, .bool (x74)), (10, .bool (x75)), (11, .int .i64 (x20))] a ∧ St M w0 [⟨b14, TRule.enc ({ Match := u1.Match, Prio := u1.Prio, Acts := u1.Acts, Idle := u1.Idle, Hard := u1.Hard, Owner := u1.Owner, Hits := 0, Quiet := 0, Age := 0 } : TRule) A1_0 c1_0, 65⟩, ⟨b1, TMod.enc u1 A1_0 c1_0, 40⟩] [] [fSl k_TRule A0_0 c0_0 u0, fSl k_TAct A1_0 c1_0 u1.Acts] W) (fun a W hJ => ?_) ?_
        ·
         obtain ⟨x74, x75, rfl, hF, hS⟩ := hJ
         have h := hk77
         dsimp only at h
         refine then_n ?_
         refine wp_reg ?_
         refine sq_val (v_move hF rfl) hF (by decide) (fun a hF => ?_)
         refine sq_val (v_add hF rfl rfl) hF (by decide) (fun a hF => ?_)
         refine sq_val (v_assign hF rfl) hF (by decide) (fun a hF => ?_)
         refine sq_nil ?_
         exact then_j ⟨m72, Nat.lt_succ_self _, x74, x75, (IntKind.i64.wrap (x20 + 1)), (hF.keep ⟨rfl, rfl, rfl, rfl, rfl, rfl, rfl, trivial⟩), hS, h⟩
        ·
         refine wp_block ?_
         refine wp_seq ?_
         refine wp_quiet rfl (by kernel_rfl) hS ?_
         refine qt_val (fun W hC => (v_move hF rfl)) hF (by decide) (fun a hF => ?_)
         refine qt_val (fun W hC => (v_move hF rfl)) hF (by decide) (fun a hF => ?_)
         obtain ⟨x78, hx79, h⟩ := bindS h
         obtain ⟨p80, cs81, hA82, hat83⟩ := SlR.at (hS.fc (i := 0) rfl) hx79
         obtain ⟨A84, c85, rfl, hs86⟩ := hat83.2.2.2
         refine qt_val (fun W hC => (v_idx hF rfl hA82 rfl psl37 hx79)) hF (by decide) (fun a hF => ?_)
         refine qt_val (fun W hC => (v_load (cs := TRule.enc x78 A84 c85) hF rfl pa65 ps65 (hat83.2.2.1.grow hC.1))) hF (by decide) (fun a hF => ?_)
         refine qt_val (fun W hC => (v_load (cs := TRule.enc ({ Match := u1.Match, Prio := u1.Prio, Acts := u1.Acts, Idle := u1.Idle, Hard := u1.Hard, Owner := u1.Owner, Hits := 0, Quiet := 0, Age := 0 } : TRule) A1_0 c1_0) hF rfl pa65 ps65 (hC.2.bc (i := 0) rfl))) hF (by decide) (fun a hF => ?_)
         obtain ⟨x87, hx88, h⟩ := bindS h
         refine qt_call hF pc71 rfl (by decide) (fun W hC => q_of hC (ok_ref04_Key (u1 := ({ Match := u1.Match, Prio := u1.Prio, Acts := u1.Acts, Idle := u1.Idle, Hard := u1.Hard, Owner := u1.Owner, Hits := 0, Quiet := 0, Age := 0 } : TRule)) ((hC.2.addFact (f := fSl k_TAct A84 c85 x78.Acts) ((fSl k_TAct A84 c85 x78.Acts).st hs86 (Stp.below hC.1))).enter ⟨⟨0, rfl⟩, ⟨2, rfl⟩, trivial⟩) hx88)) (fun a hF => ?_)
         refine qt_nil ?_
         intro W hC
         have hS := hC.2
         refine then_n ?_
         obtain ⟨o91, h, hk92⟩ := bindS h
         refine wp_join (fun a W => ∃ (x89 : Bool) (x90 : Bool), Lo.brk (x89, x90) = o91 ∧ FH 130 [(0, .slice A0_0 ((u0).length) c0_0), (2, .int .i64 (u2)), (4, .pointer (some (⟨b1, 0, none⟩))), (8, .pointer (some (⟨b14, 0, none⟩))), (9, .bool (x89)), (10, .bool (x90)), (11, .int .i64 (x20))] a ∧ St M w0 [⟨b14, TRule.enc ({ Match := u1.Match, Prio := u1.Prio, Acts := u1.Acts, Idle := u1.Idle, Hard := u1.Hard, Owner := u1.Owner, Hits := 0, Quiet := 0, Age := 0 } : TRule) A1_0 c1_0, 65⟩, ⟨b1, TMod.enc u1 A1_0 c1_0, 40⟩] [] [fSl k_TRule A0_0 c0_0 u0, fSl k_TAct A1_0 c1_0 u1.Acts] W) (fun a W hJ => ?_) ?_
         ·
          obtain ⟨x89, x90, rfl, hF, hS⟩ := hJ
          have h := hk92
          dsimp only at h
          refine blk_n ?_
          obtain rfl := Option.some.inj h
          exact then_j ⟨x89, x90, rfl, (hF.keep ⟨rfl, rfl, rfl, rfl, rfl, rfl, rfl, trivial⟩), hS⟩
         ·
          refine wp_if hF rfl (fun he93 => ?_) (fun he93 => ?_)
          ·
           replace h := ifT he93 h
           refine wp_seq ?_
           refine wp_reg ?_
           refine sq_val (v_assign hF rfl) hF (by decide) (fun a hF => ?_)
           refine sq_nil ?_
           refine then_n ?_
           refine wp_seq ?_
           refine wp_quiet rfl (by kernel_rfl) hS ?_
           refine qt_val (fun W hC => (v_move hF rfl)) hF (by decide) (fun a hF => ?_)
           refine qt_val (fun W hC => (v_move hF rfl)) hF (by decide) (fun a hF => ?_)
           obtain ⟨p94, cs95, hA96, hat97⟩ := SlR.at (hS.fc (i := 0) rfl) hx79
           obtain ⟨A98, c99, rfl, hs100⟩ := hat97.2.2.2
           refine qt_val (fun W hC => (v_idx hF rfl hA96 rfl psl37 hx79)) hF (by decide) (fun a hF => ?_)
           refine qt_val (fun W hC => (v_fieldAddr hF rfl pf65_5)) hF (by decide) (fun a hF => ?_)
           refine qt_val (fun W hC => (v_load1 hF rfl pa3 (cells_sub (vs := [.int .i64 (x78.Owner)]) (hat97.2.2.1.grow hC.1) rfl rfl))) hF (by decide) (fun a hF => ?_)
           refine qt_val (fun W hC => (v_fieldAddr hF rfl pf40_6)) hF (by decide) (fun a hF => ?_)
           refine qt_val (fun W hC => (v_load1 hF rfl pa3 (cells_sub (vs := [.int .i64 (u1.Owner)]) (hC.2.bc (i := 1) rfl) rfl rfl))) hF (by decide) (fun a hF => ?_)
           refine qt_val (fun W hC => (v_neq hF rfl rfl)) hF (by decide) (fun a hF => ?_)
           refine qt_nil ?_
           intro W hC
           have hS := hC.2
           refine then_n ?_
           refine wp_if hF rfl (fun he101 => ?_) (fun he101 => ?_)
           ·
            replace h := ifT he101 h
            refine wp_seq ?_
            refine wp_reg ?_
            refine sq_val (v_assign hF rfl) hF (by decide) (fun a hF => ?_)
            refine sq_val (v_assign hF rfl) hF (by decide) (fun a hF => ?_)
            refine sq_nil ?_
            refine then_n ?_
            refine wp_ret ?_
            refine then_r ?_
            refine blk_r ?_
            refine then_r ?_
            refine then_r ?_
            refine then_r ?_
            refine blk_r ?_
            refine then_r ?_
            refine then_r ?_
            refine then_r ?_
            have hS := hS.addNil k_TRule 65
            obtain rfl := Option.some.inj h
            have h := hk92
            dsimp only at h
            obtain rfl := Option.some.inj h
            have h := hk77
            dsimp only at h
            obtain rfl := Option.some.inj h
            have h := hk24
            dsimp only at h
            obtain rfl := Option.some.inj h
            exact ret2 hF rfl (rv_tmp hF rfl) (rv_tmp hF rfl) ⟨_, rfl, none, 0, rfl, (hS.keep (List.nil_sublist _) (List.Sublist.refl _) trivial)⟩
           ·
            replace h := ifF he101 h
            refine wp_skip ?_
            obtain rfl := Option.some.inj h
            exact then_j ⟨true, x19, rfl, (hF.keep ⟨rfl, rfl, rfl, rfl, rfl, rfl, rfl, trivial⟩), hS⟩
          ·
           replace h := ifF he93 h
           refine wp_quiet rfl (by kernel_rfl) hS ?_
           refine qt_val (fun W hC => (v_move hF rfl)) hF (by decide) (fun a hF => ?_)
           refine qt_val (fun W hC => (v_move hF rfl)) hF (by decide) (fun a hF => ?_)
           obtain ⟨x103, h, hk105⟩ := bindS h
           refine qt_cut 7 (fun a => FH 130 [(0, .slice A0_0 ((u0).length) c0_0), (2, .int .i64 (u2)), (4, .pointer (some (⟨b1, 0, none⟩))), (8, .pointer (some (⟨b14, 0, none⟩))), (9, .bool (x18)), (11, .int .i64 (x20)), (68, .bool x103)] a) (fun a hF => ?_) ?_
           ·
            have h := hk105
            refine qt_val (fun W hC => (v_assign hF rfl)) hF (by decide) (fun a hF => ?_)
            refine qt_nil ?_
            intro W hC
            have hS := hC.2
            obtain rfl := Option.some.inj h
            exact then_j ⟨x18, x103, rfl, (hF.keep ⟨rfl, rfl, rfl, rfl, rfl, rfl, rfl, trivial⟩), hS⟩
           ·
            by_cases he102 : x19 = true
            ·
             replace h := ifT he102 h
             refine qt_no hF rfl rfl he102 (by decide) (fun a hF => ?_)
             refine qt_no hF rfl rfl he102 (by decide) (fun a hF => ?_)
             refine qt_no hF rfl rfl he102 (by decide) (fun a hF => ?_)
             refine qt_no hF rfl rfl he102 (by decide) (fun a hF => ?_)
             refine qt_no hF rfl rfl he102 (by decide) (fun a hF => ?_)
             refine qt_no hF rfl rfl he102 (by decide) (fun a hF => ?_)
             refine qt_val (fun W hC => (v_pick_t hF rfl he102 rfl)) hF (by decide) (fun a hF => ?_)
             obtain rfl := Option.some.inj h
             exact qt_nil (hF.keep ⟨rfl, rfl, rfl, rfl, rfl, rfl, rfl, trivial⟩)
            ·
             have he102 : x19 = false := nB he102
             replace h := ifF he102 h
             refine qt_yes hF rfl rfl he102 ?_
             refine qt_val (fun W hC => (v_move hF rfl)) hF (by decide) (fun a hF => ?_)
             refine qt_yes hF rfl rfl he102 ?_
             refine qt_val (fun W hC => (v_move hF rfl)) hF (by decide) (fun a hF => ?_)
             refine qt_yes hF rfl rfl he102 ?_
             obtain ⟨p106, cs107, hA108, hat109⟩ := SlR.at (hS.fc (i := 0) rfl) hx79
             obtain ⟨A110, c111, rfl, hs112⟩ := hat109.2.2.2
             refine qt_val (fun W hC => (v_idx hF rfl hA108 rfl psl37 hx79)) hF (by decide) (fun a hF => ?_)
             refine qt_yes hF rfl rfl he102 ?_
             refine qt_val (fun W hC => (v_load (cs := TRule.enc x78 A110 c111) hF rfl pa65 ps65 (hat109.2.2.1.grow hC.1))) hF (by decide) (fun a hF => ?_)
             refine qt_yes hF rfl rfl he102 ?_
             refine qt_val (fun W hC => (v_load (cs := TRule.enc ({ Match := u1.Match, Prio := u1.Prio, Acts := u1.Acts, Idle := u1.Idle, Hard := u1.Hard, Owner := u1.Owner, Hits := 0, Quiet := 0, Age := 0 } : TRule) A1_0 c1_0) hF rfl pa65 ps65 (hC.2.bc (i := 0) rfl))) hF (by decide) (fun a hF => ?_)
             refine qt_yes hF rfl rfl he102 ?_
             obtain ⟨x113, hx114, h⟩ := bindS h
             refine qt_call hF pc72 rfl (by decide) (fun W hC => q_of hC (ok_ref04_Overlap k (u1 := ({ Match := u1.Match, Prio := u1.Prio, Acts := u1.Acts, Idle := u1.Idle, Hard := u1.Hard, Owner := u1.Owner, Hits := 0, Quiet := 0, Age := 0 } : TRule)) ((hC.2.addFact (f := fSl k_TAct A110 c111 x78.Acts) ((fSl k_TAct A110 c111 x78.Acts).st hs112 (Stp.below hC.1))).enter ⟨⟨0, rfl⟩, ⟨2, rfl⟩, trivial⟩) hx114)) (fun a hF => ?_)
             refine qt_val (fun W hC => (v_pick_f hF rfl he102 rfl)) hF (by decide) (fun a hF => ?_)
             obtain rfl := Option.some.inj h
             exact qt_nil (hF.keep ⟨rfl, rfl, rfl, rfl, rfl, rfl, rfl, trivial⟩)
       ·
        replace h := ifF he73 h
        refine wp_exit ?_
        refine then_x ?_
        refine then_x ?_
        refine blk_hit ?_
        obtain rfl := Option.some.inj h
        exact then_j ⟨x18, x19, rfl, (hF.keep ⟨rfl, rfl, rfl, rfl, rfl, rfl, trivial⟩), hS⟩
    ·
     replace h := ifF he13 h
     refine wp_skip ?_
     refine then_n ?_
     refine wp_seq ?_
     refine wp_reg ?_
     refine sq_val (v_assign hF rfl) hF (by decide) (fun a hF => ?_)
     refine sq_nil ?_
     refine then_n ?_
     refine wp_seq ?_
     refine wp_reg ?_
     refine sq_val (v_move hF rfl) hF (by decide) (fun a hF => ?_)
     refine sq_val (v_load (cs := TMod.enc u1 A1_0 c1_0) hF rfl pa40 ps40 (hS.bc (i := 0) rfl)) hF (by decide) (fun a hF => ?_)
     obtain ⟨x115, hx116, h⟩ := bindS h
     refine sq_call hF pc74 rfl (by decide) (ok_ref04_Touched k (hS.enter ⟨⟨0, rfl⟩, ⟨1, rfl⟩, trivial⟩) hx116) (fun v W hR a hF => ?_)
     obtain ⟨A117, c118, rfl, hT119⟩ := hR
     have hS := hS.join hT119
     refine sq_val (v_assign hF rfl) hF (by decide) (fun a hF => ?_)
     refine sq_nil ?_
     refine then_n ?_
     refine wp_seq ?_
     refine wp_seq ?_
     refine wp_reg ?_
     refine sq_val (v_assign hF rfl) hF (by decide) (fun a hF => ?_)
     refine sq_nil ?_
     refine then_n ?_
     obtain ⟨o144, h, hk145⟩ := bindS h
     refine wp_join (fun a W => ∃ (x141 : List TRule) (A142 : Option Addr) (c143 : Nat), x141 = o144 ∧ FH 130 [(12, .slice A142 ((x141).length) c143)] a ∧ St M w0 [] [⟨k_TRule, 65, A142, c143, x141⟩] [] W) (fun a W hJ => ?_) ?_
     ·
      obtain ⟨x141, A142, c143, rfl, hF, hS⟩ := hJ
      have h := hk145
      refine then_n ?_
      refine wp_seq ?_
      refine wp_reg ?_
      refine sq_val (v_move hF rfl) hF (by decide) (fun a hF => ?_)
      refine sq_val (v_assign hF rfl) hF (by decide) (fun a hF => ?_)
      refine sq_val (v_assign hF rfl) hF (by decide) (fun a hF => ?_)
      refine sq_nil ?_
      refine then_n ?_
      refine wp_ret ?_
      obtain rfl := Option.some.inj h
      exact ret2 hF rfl (rv_tmp hF rfl) (rv_tmp hF rfl) ⟨_, rfl, A142, c143, rfl, hS⟩
     ·
      have hS := hS.addNil k_TRule 65
      have hS := hS.freeze (i := 1) rfl (posB rfl)
      refine wp_block ?_
      refine wp_loop_fuel (I := fun m a W => ∃ (x134 : List TRule) (x137 : List Int) (x140 : Int) (A135 : Option Addr) (c136 : Nat) (A138 : Option Addr) (c139 : Nat), FH 130 [(0, .slice A0_0 ((u0).length) c0_0), (4, .pointer (some (⟨b1, 0, none⟩))), (12, .slice A135 ((x134).length) c136), (13, .slice A138 ((x137).length) c139), (14, .int .i64 (x140))] a ∧ St M w0 [⟨b1, TMod.enc u1 A1_0 c1_0, 40⟩] [⟨k_TRule, 65, A135, c136, x134⟩] [fSl (kInt .i64) A138 c139 x137, fSl k_TRule A0_0 c0_0 u0, fSl k_TAct A1_0 c1_0 u1.Acts] W ∧ (ref04_Apply.l1 k u0 u1 m x134 x137 x140) = some o144) ?_ (k := k) ⟨([]), x115, 0, none, 0, A117, c118, (hF.keep ⟨rfl, rfl, rfl, rfl, rfl, trivial⟩), hS, h⟩
      rintro m146 a W ⟨x134, x137, x140, A135, c136, A138, c139, hF, hS, h⟩
      cases m146 with
      | zero => cases h
      | succ m146 =>
       rw [ref04_Apply.l1] at h
       refine wp_seq ?_
       refine wp_seq ?_
       refine wp_reg ?_
       refine sq_val (v_move hF rfl) hF (by decide) (fun a hF => ?_)
       refine sq_val (v_move hF rfl) hF (by decide) (fun a hF => ?_)
       refine sq_val (v_len hF rfl pu37) hF (by decide) (fun a hF => ?_)
       refine sq_val (v_lss hF rfl rfl) hF (by decide) (fun a hF => ?_)
       refine sq_nil ?_
       refine then_n ?_
       refine wp_if hF rfl (fun he147 => ?_) (fun he147 => ?_)
       ·
        replace h := ifT he147 h
        refine wp_skip ?_
        refine then_n ?_
        refine wp_seq ?_
        obtain ⟨o154, h, hk155⟩ := bindS h
        refine wp_join (fun a W => ∃ (x148 : List TRule) (x151 : List Int) (A149 : Option Addr) (c150 : Nat) (A152 : Option Addr) (c153 : Nat), (x148, x151) = o154 ∧ FH 130 [(0, .slice A0_0 ((u0).length) c0_0), (4, .pointer (some (⟨b1, 0, none⟩))), (12, .slice A149 ((x148).length) c150), (13, .slice A152 ((x151).length) c153), (14, .int .i64 (x140))] a ∧ St M w0 [⟨b1, TMod.enc u1 A1_0 c1_0, 40⟩] [⟨k_TRule, 65, A149, c150, x148⟩] [fSl (kInt .i64) A152 c153 x151, fSl k_TRule A0_0 c0_0 u0, fSl k_TAct A1_0 c1_0 u1.Acts] W) (fun a W hJ => ?_) ?_
        ·
         obtain ⟨x148, x151, A149, c150, A152, c153, rfl, hF, hS⟩ := hJ
         have h := hk155
         dsimp only at h
         refine then_n ?_
         refine wp_reg ?_
         refine sq_val (v_move hF rfl) hF (by decide) (fun a hF => ?_)
         refine sq_val (v_add hF rfl rfl) hF (by decide) (fun a hF => ?_)
         refine sq_val (v_assign hF rfl) hF (by decide) (fun a hF => ?_)
         refine sq_nil ?_
         exact then_j ⟨m146, Nat.lt_succ_self _, x148, x151, (IntKind.i64.wrap (x140 + 1)), A149, c150, A152, c153, (hF.keep ⟨rfl, rfl, rfl, rfl, rfl, trivial⟩), hS, h⟩
        ·
         refine wp_block ?_
         refine wp_seq ?_
         refine wp_reg ?_
         refine sq_val (v_move hF rfl) hF (by decide) (fun a hF => ?_)
         refine sq_val (v_move hF rfl) hF (by decide) (fun a hF => ?_)
         obtain ⟨x156, hx157, h⟩ := bindS h
         obtain ⟨p158, cs159, hA160, hat161⟩ := SlR.at (hS.fc (i := 1) rfl) hx157
         obtain ⟨A162, c163, rfl, hs164⟩ := hat161.2.2.2
         have hS := hS.addFact (f := fAt k_TRule (p158.add (x140.toNat * 32)) (TRule.enc x156 A162 c163) x156) hat161
         have hS := hS.addFact (f := fSl k_TAct A162 c163 x156.Acts) hs164
         refine sq_val (v_idx hF rfl hA160 rfl psl37 hx157) hF (by decide) (fun a hF => ?_)
         refine sq_val (v_load (cs := TRule.enc x156 A162 c163) hF rfl pa65 ps65 (hS.pc (i := 1) rfl)) hF (by decide) (fun a hF => ?_)
         refine sq_alloc hF hS pz65 rfl (by decide) (fun b165 a W hF hS => ?_)
         refine sq_store (o := 0) (vs := TRule.enc x156 A162 c163) (cs' := TRule.enc x156 A162 c163) hF hS rfl rfl (i := 0) rfl rfl rfl ps65 (TRule.enc_one _ _ _) (Nat.le_of_ble_eq_true rfl) rfl (fun W hS => ?_)
         refine sq_nil ?_
         refine then_n ?_
         refine wp_seq ?_
         refine wp_seq ?_
         refine wp_reg ?_
         refine sq_val (v_move hF rfl) hF (by decide) (fun a hF => ?_)
         refine sq_val (v_len hF rfl pu76) hF (by decide) (fun a hF => ?_)
         refine sq_val (v_gtr hF rfl rfl) hF (by decide) (fun a hF => ?_)
         refine sq_val (v_move hF rfl) hF (by decide) (fun a hF => ?_)
         obtain ⟨x167, h, hk169⟩ := bindS h
         refine sq_cut 6 (fun a W => FH 130 [(0, .slice A0_0 ((u0).length) c0_0), (4, .pointer (some (⟨b1, 0, none⟩))), (12, .slice A135 ((x134).length) c136), (13, .slice A138 ((x137).length) c139), (14, .int .i64 (x140)), (15, .pointer (some (⟨b165, 0, none⟩))), (111, .bool x167)] a ∧ St M w0 [⟨b165, TRule.enc x156 A162 c163, 65⟩, ⟨b1, TMod.enc u1 A1_0 c1_0, 40⟩] [⟨k_TRule, 65, A135, c136, x134⟩] [fSl k_TAct A162 c163 x156.Acts, fAt k_TRule (p158.add (x140.toNat * 32)) (TRule.enc x156 A162 c163) x156, fSl (kInt .i64) A138 c139 x137, fSl k_TRule A0_0 c0_0 u0, fSl k_TAct A1_0 c1_0 u1.Acts] W) (fun a W hJ => ?_) ?_
         ·
          have h := hk169
          obtain ⟨hF, hS⟩ := hJ
          refine sq_nil ?_
          refine then_n ?_
          refine wp_if hF rfl (fun he176 => ?_) (fun he176 => ?_)
          ·
           replace h := ifT he176 h
           refine wp_seq ?_
           refine wp_reg ?_
           refine sq_val (v_move hF rfl) hF (by decide) (fun a hF => ?_)
           obtain ⟨hb177, h⟩ := ifS h
           refine sq_val (v_slice (κ := (kInt .i64)) (lo := (1 : Int).toNat) (hi := x137.length) hF rfl rfl rfl psl76 (.inr ⟨_, _, rfl, by omega, rfl⟩) (.inl ⟨rfl, rfl⟩) (by omega) (by omega) (hS.fc (i := 2) rfl).1) hF (by decide) (fun a hF => ?_)
           have hcut180 := SlR.cut (xs := x137) (hS.fc (i := 2) rfl) (lo := (1 : Int).toNat) (hi := x137.length) (by omega) (by omega)
           generalize (if c139 = (1 : Int).toNat then A138 else Option.map (fun (q : Addr) => q.add ((1 : Int).toNat * ((kInt .i64)).sz)) A138) = A178 at hF hcut180
           generalize c139 - (1 : Int).toNat = c179 at hF hcut180
           have hS := hS.addFact (f := fSl (kInt .i64) A178 c179 ((x137.take x137.length).drop (1 : Int).toNat)) hcut180
           refine sq_val (v_assign hF rfl) hF (by decide) (fun a hF => ?_)
           refine sq_nil ?_
           refine then_n ?_
           refine wp_seq ?_
           refine wp_seq ?_
           refine wp_reg ?_
           refine sq_val (v_fieldAddr hF rfl pf40_0) hF (by decide) (fun a hF => ?_)
           refine sq_val (v_load1 hF rfl pa3 (cells_sub (vs := [.int .i64 (u1.Kind)]) (hS.bc (i := 1) rfl) rfl rfl)) hF (by decide) (fun a hF => ?_)
           refine sq_val (v_eql hF rfl rfl) hF (by decide) (fun a hF => ?_)
           refine sq_val (v_move hF rfl) hF (by decide) (fun a hF => ?_)
           refine sq_cut 4 (fun a W => FH 130 [(0, .slice A0_0 ((u0).length) c0_0), (4, .pointer (some (⟨b1, 0, none⟩))), (12, .slice A135 ((x134).length) c136), (13, .slice A178 ((((x137.take x137.length).drop (1 : Int).toNat)).length) c179), (14, .int .i64 (x140)), (15, .pointer (some (⟨b165, 0, none⟩))), (121, .bool ((u1.Kind == 3) || (u1.Kind == 5)))] a ∧ St M w0 [⟨b165, TRule.enc x156 A162 c163, 65⟩, ⟨b1, TMod.enc u1 A1_0 c1_0, 40⟩] [⟨k_TRule, 65, A135, c136, x134⟩] [fSl (kInt .i64) A178 c179 ((x137.take x137.length).drop (1 : Int).toNat), fSl k_TAct A162 c163 x156.Acts, fAt k_TRule (p158.add (x140.toNat * 32)) (TRule.enc x156 A162 c163) x156, fSl (kInt .i64) A138 c139 x137, fSl k_TRule A0_0 c0_0 u0, fSl k_TAct A1_0 c1_0 u1.Acts] W) (fun a W hJ => ?_) ?_
           ·
            obtain ⟨hF, hS⟩ := hJ
            refine sq_nil ?_
            refine then_n ?_
            refine wp_if hF rfl (fun he182 => ?_) (fun he182 => ?_)
            ·
             replace h := ifT he182 h
             refine wp_exit ?_
             refine then_x ?_
             refine then_x ?_
             refine blk_hit ?_
             obtain rfl := Option.some.inj h
             exact then_j ⟨x134, ((x137.take x137.length).drop (1 : Int).toNat), A135, c136, A178, c179, rfl, (hF.keep ⟨rfl, rfl, rfl, rfl, rfl, trivial⟩), (hS.keep (.cons _ (List.Sublist.refl _)) (List.Sublist.refl _) ⟨⟨0, rfl⟩, ⟨4, rfl⟩, ⟨5, rfl⟩, trivial⟩)⟩
            ·
             replace h := ifF he182 h
             refine wp_skip ?_
             refine then_n ?_
             refine wp_reg ?_
             refine sq_val (v_fieldAddr hF rfl pf40_3) hF (by decide) (fun a hF => ?_)
             refine sq_val (v_load1 hF rfl pa38 (cells_sub (vs := [.slice A1_0 ((u1.Acts).length) c1_0]) (hS.bc (i := 1) rfl) rfl rfl)) hF (by decide) (fun a hF => ?_)
             refine sq_val (v_fieldAddr hF rfl pf65_2) hF (by decide) (fun a hF => ?_)
             refine sq_store (o := 25) (vs := [.slice A1_0 ((u1.Acts).length) c1_0]) (cs' := TRule.enc (TRule.setActs x156 u1.Acts) A1_0 c1_0) hF hS rfl rfl (i := 0) rfl rfl rfl ps38 (one1 rfl) (Nat.le_of_ble_eq_true rfl) rfl (fun W hS => ?_)
             refine sq_nil ?_
             refine then_n ?_
             refine wp_reg ?_
             refine sq_val (v_move hF rfl) hF (by decide) (fun a hF => ?_)
             refine sq_val (v_load (cs := TRule.enc (TRule.setActs x156 u1.Acts) A1_0 c1_0) hF rfl pa65 ps65 (hS.bc (i := 0) rfl)) hF (by decide) (fun a hF => ?_)
             refine sq_buildSlice (κ := k_TRule) (xs := [.tmp 126]) (ys := [(TRule.setActs x156 u1.Acts)]) hF hS rfl rfl rfl (Els.cons ⟨A1_0, c1_0, rfl, (hS.fc (i := 5) rfl)⟩ (Els.nil _ _ _)) rfl psl37 pz65 rfl (by decide) (by decide) (by decide) (fun A183 c184 a W hF hS => ?_)
             obtain ⟨x187, hx188, h⟩ := bindS h
             refine sq_append (ys := ([(TRule.setActs x156 u1.Acts)])) hF hS (i := 1) rfl rfl rfl (hS.rw_ (i := 0) rfl).src psl37 pb65 pz65 rfl (by decide) (by decide) hx188 (by decide) (fun A185 c186 a W hF hS => ?_)
             refine sq_val (v_assign hF rfl) hF (by decide) (fun a hF => ?_)
             refine sq_nil ?_
             refine blk_n ?_
             obtain rfl := Option.some.inj h
             exact then_j ⟨x187, ((x137.take x137.length).drop (1 : Int).toNat), A185, c186, A178, c179, rfl, (hF.keep ⟨rfl, rfl, rfl, rfl, rfl, trivial⟩), (hS.keep (.cons _ (List.Sublist.refl _)) (.cons _ (List.Sublist.refl _)) ⟨⟨0, rfl⟩, ⟨4, rfl⟩, ⟨5, rfl⟩, trivial⟩)⟩
           ·
            by_cases he181 : (u1.Kind == 3) = true
            ·
             refine sq_no hF rfl rfl he181 (by rintro x ⟨⟩; decide) (fun a hF => ?_)
             refine sq_no hF rfl rfl he181 (by rintro x ⟨⟩; decide) (fun a hF => ?_)
             refine sq_no hF rfl rfl he181 (by rintro x ⟨⟩; decide) (fun a hF => ?_)
             refine sq_val (v_pick_t hF rfl he181 rfl) hF (by decide) (fun a hF => ?_)
             exact sq_nil (then_j ⟨(hF.keep ⟨rfl, rfl, rfl, rfl, rfl, rfl, (boolV (or_t he181)), trivial⟩), hS⟩)
            ·
             have he181 : (u1.Kind == 3) = false := nB he181
             refine sq_yes hF rfl rfl he181 ?_
             refine sq_val (v_fieldAddr hF rfl pf40_0) hF (by decide) (fun a hF => ?_)
             refine sq_yes hF rfl rfl he181 ?_
             refine sq_val (v_load1 hF rfl pa3 (cells_sub (vs := [.int .i64 (u1.Kind)]) (hS.bc (i := 1) rfl) rfl rfl)) hF (by decide) (fun a hF => ?_)
             refine sq_yes hF rfl rfl he181 ?_
             refine sq_val (v_eql hF rfl rfl) hF (by decide) (fun a hF => ?_)
             refine sq_val (v_pick_f hF rfl he181 rfl) hF (by decide) (fun a hF => ?_)
             exact sq_nil (then_j ⟨(hF.keep ⟨rfl, rfl, rfl, rfl, rfl, rfl, (boolV (or_f he181)), trivial⟩), hS⟩)
          ·
           replace h := ifF he176 h
           refine wp_skip ?_
           refine then_n ?_
           refine wp_reg ?_
           refine sq_val (v_move hF rfl) hF (by decide) (fun a hF => ?_)
           refine sq_val (v_load (cs := TRule.enc x156 A162 c163) hF rfl pa65 ps65 (hS.bc (i := 0) rfl)) hF (by decide) (fun a hF => ?_)
           refine sq_buildSlice (κ := k_TRule) (xs := [.tmp 126]) (ys := [x156]) hF hS rfl rfl rfl (Els.cons ⟨A162, c163, rfl, (hS.fc (i := 0) rfl)⟩ (Els.nil _ _ _)) rfl psl37 pz65 rfl (by decide) (by decide) (by decide) (fun A189 c190 a W hF hS => ?_)
           obtain ⟨x193, hx194, h⟩ := bindS h
           refine sq_append (ys := ([x156])) hF hS (i := 1) rfl rfl rfl (hS.rw_ (i := 0) rfl).src psl37 pb65 pz65 rfl (by decide) (by decide) hx194 (by decide) (fun A191 c192 a W hF hS => ?_)
           refine sq_val (v_assign hF rfl) hF (by decide) (fun a hF => ?_)
           refine sq_nil ?_
           refine blk_n ?_
           obtain rfl := Option.some.inj h
           exact then_j ⟨x193, x137, A191, c192, A138, c139, rfl, (hF.keep ⟨rfl, rfl, rfl, rfl, rfl, trivial⟩), (hS.keep (.cons _ (List.Sublist.refl _)) (.cons _ (List.Sublist.refl _)) ⟨⟨2, rfl⟩, ⟨3, rfl⟩, ⟨4, rfl⟩, trivial⟩)⟩
         ·
          by_cases he166 : (decide (0 < (x137.length : Int))) = true
          ·
           replace h := ifT he166 h
           refine sq_yes hF rfl rfl he166 ?_
           refine sq_val (v_move hF rfl) hF (by decide) (fun a hF => ?_)
           refine sq_yes hF rfl rfl he166 ?_
           obtain ⟨x170, hx171, h⟩ := bindS h
           obtain ⟨p172, cs173, hA174, hat175⟩ := SlR.at (hS.fc (i := 2) rfl) hx171
           obtain rfl : cs173 = [.int .i64 (x170)] := hat175.2.2.2
           have hS := hS.addFact (f := fAt (kInt .i64) (p172.add ((0 : Int).toNat * 1)) ([.int .i64 (x170)]) x170) hat175
           refine sq_val (v_idx hF rfl hA174 rfl psl76 hx171) hF (by decide) (fun a hF => ?_)
           refine sq_yes hF rfl rfl he166 ?_
           refine sq_val (v_load1 hF rfl pa3 (hS.pc (i := 0) rfl)) hF (by decide) (fun a hF => ?_)
           refine sq_yes hF rfl rfl he166 ?_
           refine sq_val (v_move hF rfl) hF (by decide) (fun a hF => ?_)
           refine sq_yes hF rfl rfl he166 ?_
           refine sq_val (v_eql hF rfl rfl) hF (by decide) (fun a hF => ?_)
           refine sq_val (v_pick_t hF rfl he166 rfl) hF (by decide) (fun a hF => ?_)
           obtain rfl := Option.some.inj h
           exact sq_nil (then_j ⟨(hF.keep ⟨rfl, rfl, rfl, rfl, rfl, rfl, rfl, trivial⟩), (hS.keep (List.Sublist.refl _) (List.Sublist.refl _) ⟨⟨1, rfl⟩, ⟨2, rfl⟩, ⟨3, rfl⟩, ⟨4, rfl⟩, ⟨5, rfl⟩, trivial⟩)⟩)
          ·
           have he166 : (decide (0 < (x137.length : Int))) = false := nB he166
           replace h := ifF he166 h
           refine sq_no hF rfl rfl he166 (by rintro x ⟨⟩; decide) (fun a hF => ?_)
           refine sq_no hF rfl rfl he166 (by rintro x ⟨⟩; decide) (fun a hF => ?_)
           refine sq_no hF rfl rfl he166 (by rintro x ⟨⟩; decide) (fun a hF => ?_)
           refine sq_no hF rfl rfl he166 (by rintro x ⟨⟩; decide) (fun a hF => ?_)
           refine sq_no hF rfl rfl he166 (by rintro x ⟨⟩; decide) (fun a hF => ?_)
           refine sq_val (v_pick_f hF rfl he166 rfl) hF (by decide) (fun a hF => ?_)
           obtain rfl := Option.some.inj h
           exact sq_nil (then_j ⟨(hF.keep ⟨rfl, rfl, rfl, rfl, rfl, rfl, rfl, trivial⟩), hS⟩)
       ·
        replace h := ifF he147 h
        refine wp_exit ?_
        refine then_x ?_
        refine then_x ?_
        refine blk_hit ?_
        obtain rfl := Option.some.inj h
        exact then_j ⟨x134, A135, c136, rfl, (hF.keep ⟨rfl, trivial⟩), (hS.keep (List.nil_sublist _) (List.Sublist.refl _) trivial)⟩
  ·
   by_cases he5 : (!x2) = true
   ·
    replace h := ifT he5 h
    refine sq_no hF rfl rfl he5 (by rintro x ⟨⟩; decide) (fun a hF => ?_)
    refine sq_no hF rfl rfl he5 (by rintro x ⟨⟩; decide) (fun a hF => ?_)
    refine sq_no hF rfl rfl he5 (by rintro x ⟨⟩; decide) (fun a hF => ?_)
    refine sq_val (v_pick_t hF rfl he5 rfl) hF (by decide) (fun a hF => ?_)
    obtain rfl := Option.some.inj h
    exact sq_nil (then_j ⟨(hF.keep ⟨rfl, rfl, rfl, rfl, trivial⟩), hS⟩)
   ·
    have he5 : (!x2) = false := nB he5
    replace h := ifF he5 h
    refine sq_yes hF rfl rfl he5 ?_
    refine sq_val (v_load (cs := TMod.enc u1 A1_0 c1_0) hF rfl pa40 ps40 (hS.bc (i := 0) rfl)) hF (by decide) (fun a hF => ?_)
    refine sq_yes hF rfl rfl he5 ?_
    obtain ⟨x9, hx10, h⟩ := bindS h
    refine sq_call hF pc28 rfl (by decide) (ok_ref04_Mod k (hS.enter ⟨⟨1, rfl⟩, trivial⟩) hx10) (fun v W hR a hF => ?_)
    obtain ⟨rfl, hT11⟩ := hR
    have hS := hS.grow hT11.below
    refine sq_yes hF rfl rfl he5 ?_
    refine sq_val (v_not hF rfl) hF (by decide) (fun a hF => ?_)
    refine sq_val (v_pick_f hF rfl he5 rfl) hF (by decide) (fun a hF => ?_)
    obtain rfl := Option.some.inj h
    exact sq_nil (then_j ⟨(hF.keep ⟨rfl, rfl, rfl, rfl, trivial⟩), hS⟩)
end Go.Proofs.Ytangebngeeamoaa
