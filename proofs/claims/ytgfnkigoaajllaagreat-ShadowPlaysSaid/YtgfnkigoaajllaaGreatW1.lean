/- What calls of the Go functions come to. -/
import Derived.Test.YtgfnkigoaajllaaGreatW0
set_option linter.unusedVariables false
set_option linter.unusedSimpArgs false
set_option maxRecDepth 100000
set_option maxHeartbeats 4000000
namespace Go.Proofs.YtgfnkigoaajllaaGreat
open Go.RowKit Go.Pod
theorem ok_mods_touches (k : Nat) {M : Nat → Prop} {w0 : World} {u0 : TMod} {A0_0 : Option Addr} {c0_0 : Nat} {u1 : TRule} {A1_0 : Option Addr} {c1_0 : Nat} {o : Bool} (hS : St M w0 [] [] [fSl k_TAct A0_0 c0_0 u0.Acts, fSl k_TAct A1_0 c1_0 u1.Acts] w0) (h : mods_touches k u0 u1 = some o) :
    Calls Tryz.prog 208 #[.agg (TMod.enc u0 A0_0 c0_0).toArray, .agg (TRule.enc u1 A1_0 c1_0).toArray] w0 fun e W' => ∃ v, e = .returned v ∧ (v = .bool (o) ∧ St M w0 [] [] [] W') := by
  unfold mods_touches at h
  refine cst Tryz.func208 rfl rfl rfl fun a hF => wq <| wg <| bv hF hS rfl rfl rfl fun b1 a W hF hS => bv hF hS rfl rfl rfl fun b2 a W hF hS => av hF rfl rfl fun a hF => nl <| tn <| wq <| wq <| wg <| fv hF rfl pf57_0 rfl fun a hF => lv hF rfl pa3 (hS.bc (i := 1) rfl) rfl rfl rfl fun a hF => nl <| tn <| wb <| wq <| wq <| wg <| sv (v_eql hF rfl rfl) hF rfl fun a hF => av hF rfl rfl fun a hF => nl <| tn ?_
  obtain ⟨o4, h, hk5⟩ := bindS h
  refine wp_join (fun a W => ∃ (x3 : Bool), x3 = o4 ∧ FH 36 [(2, .pointer (some (⟨b1, 0, none⟩))), (3, .pointer (some (⟨b2, 0, none⟩))), (6, .int .i64 (u0.Kind)), (7, .bool (x3))] a ∧ St M w0 [⟨b2, TRule.enc u1 A1_0 c1_0, 51⟩, ⟨b1, TMod.enc u0 A0_0 c0_0, 57⟩] [] [fSl k_TAct A0_0 c0_0 u0.Acts, fSl k_TAct A1_0 c1_0 u1.Acts] W) (fun a W hJ => ?_) ?_
  ·
   obtain ⟨x3, rfl, hF, hS⟩ := hJ
   have h := hk5
   refine tn <| wi hF rfl h (fun h => ?_) fun h => ?_
   ·
    refine wq <| wg <| fv hF rfl pf51_5 rfl fun a hF => lv hF rfl pa3 (hS.bc (i := 0) rfl) rfl rfl rfl fun a hF => fv hF rfl pf57_6 rfl fun a hF => lv hF rfl pa3 (hS.bc (i := 1) rfl) rfl rfl rfl fun a hF => sv (v_eql hF rfl rfl) hF rfl fun a hF => mv hF rfl rfl fun a hF => gandB 5 5 15 hF hS h rfl rfl rfl rfl rfl (fun r9 h => ?_) (fun x8 a W h hF hS => ?_)
    ·
     refine fv hF rfl pf51_0 rfl fun a hF => sv (v_load (cs := TCube.enc u1.Match) hF rfl pa48 ps48 (cells_sub (vs := TCube.enc u1.Match) (hS.bc (i := 0) rfl) rfl rfl)) hF rfl fun a hF => fv hF rfl pf57_1 rfl fun a hF => sv (v_load (cs := TCube.enc u0.Match) hF rfl pa48 ps48 (cells_sub (vs := TCube.enc u0.Match) (hS.bc (i := 1) rfl) rfl rfl)) hF rfl fun a hF => ?_
     obtain ⟨x10, hx11, h⟩ := bindS h
     refine cl hF pc176 rfl rfl (ok_cube_Within k (hS.enter trivial) hx11) hS fun W a hF hS => ?_
     obtain rfl := si h
     exact gs 5 hF hS rfl rfl rfl
    ·
     refine av hF rfl rfl fun a hF => nl <| tn <| rt <| br <| tr ?_
     obtain rfl := si h
     exact ret1 hF rfl (rv_tmp hF rfl) ⟨_, rfl, rfl, (hS.keep sn sl trivial)⟩
   ·
    refine wq <| wq <| wg <| sv (v_eql hF rfl rfl) hF rfl fun a hF => av hF rfl rfl fun a hF => nl <| tn ?_
    obtain ⟨o14, h, hk15⟩ := bindS h
    refine wp_join (fun a W => ∃ (x13 : Bool), x13 = o14 ∧ FH 36 [(2, .pointer (some (⟨b1, 0, none⟩))), (3, .pointer (some (⟨b2, 0, none⟩))), (22, .bool (x13))] a ∧ St M w0 [⟨b2, TRule.enc u1 A1_0 c1_0, 51⟩, ⟨b1, TMod.enc u0 A0_0 c0_0, 57⟩] [] [fSl k_TAct A0_0 c0_0 u0.Acts, fSl k_TAct A1_0 c1_0 u1.Acts] W) (fun a W hJ => ?_) ?_
    ·
     obtain ⟨x13, rfl, hF, hS⟩ := hJ
     have h := hk15
     refine tn <| wi hF rfl h (fun h => ?_) fun h => ?_
     ·
      refine wq ?_
      obtain ⟨o18, h, hk19⟩ := bindS h
      refine wp_join (fun a W => ∃ (x17 : Bool), x17 = o18 ∧ FH 36 [(4, .bool (x17))] a ∧ St M w0 [] [] [] W) (fun a W hJ => ?_) ?_
      ·
       obtain ⟨x17, rfl, hF, hS⟩ := hJ
       have h := hk19
       refine tn <| rt <| br <| tr ?_
       obtain rfl := si h
       exact ret1 hF rfl (rv_tmp hF rfl) ⟨_, rfl, rfl, hS⟩
      ·
       refine wp_drawn (QC M w0 [⟨b2, TRule.enc u1 A1_0 c1_0, 51⟩, ⟨b1, TMod.enc u0 A0_0 c0_0, 57⟩] [] [fSl k_TAct A0_0 c0_0 u0.Acts, fSl k_TAct A1_0 c1_0 u1.Acts]) (fun _ => false) rfl hS (fun W hB0 hR0 => ?_)
       have hS := hR0
       refine eqc ⟨Bl.refl _ _, hS⟩ fun hQC => e_val' 0 rfl (by kernel_rfl) (fun W => (v_fieldAddr hF rfl pf51_5)) hF rfl fun a hF => e_valS' 1 rfl (by kernel_rfl) (fun W hC => (v_load1 hF rfl pa3 (cells_sub (vs := [.int .i64 (u1.Owner)]) (hC.2.bc (i := 0) rfl) rfl rfl))) hQC (by kernel_rfl) hF rfl fun a hF => e_val' 2 rfl (by kernel_rfl) (fun W => (v_fieldAddr hF rfl pf57_6)) hF rfl fun a hF => e_valS' 3 rfl (by kernel_rfl) (fun W hC => (v_load1 hF rfl pa3 (cells_sub (vs := [.int .i64 (u0.Owner)]) (hC.2.bc (i := 1) rfl) rfl rfl))) hQC (by kernel_rfl) hF rfl fun a hF => e_val' 4 rfl (by kernel_rfl) (fun W => (v_eql hF rfl rfl)) hF rfl fun a hF => e_val' 5 rfl (by kernel_rfl) (fun W => (v_move hF rfl)) hF rfl fun a hF => ?_
       by_cases he20 : (u1.Owner == u0.Owner) = true
       ·
        replace h := ifT he20 h
        refine e_valGS' 6 rfl (by kernel_rfl) rfl rfl he20 (fun W hC => (v_load (cs := TRule.enc u1 A1_0 c1_0) hF rfl pa51 ps51 (hC.2.bc (i := 0) rfl))) hQC (by kernel_rfl) hF rfl fun a hF => e_valGS' 7 rfl (by kernel_rfl) rfl rfl he20 (fun W hC => (v_load (cs := TMod.enc u0 A0_0 c0_0) hF rfl pa57 ps57 (hC.2.bc (i := 1) rfl))) hQC (by kernel_rfl) hF rfl fun a hF => e_one' 8 rfl (by kernel_rfl) <| sq_yes hF rfl rfl he20 ?_
        obtain ⟨x21, hx22, h⟩ := bindS h
        refine sq_call hF pc251 rfl (by decide) (ok_mods_Rule (hS.enter ⟨⟨0, rfl⟩, trivial⟩) hx22) (fun v W hR a hF => ?_)
        obtain ⟨A23, c24, rfl, hT25⟩ := hR
        have hS := hS.join hT25
        refine sq_nil (then_j ⟨?_, ?_⟩)
        · exact fun hQ0 _ => hQ0.next hT25.below
        ·
         have hQC := hQC.next hT25.below
         refine e_one' 9 rfl (by kernel_rfl) <| sq_yes hF rfl rfl he20 ?_
         obtain ⟨x26, hx27, h⟩ := bindS h
         refine sq_call hF pc61 rfl (by decide) (ok_rule_Key (hS.enter ⟨⟨2, rfl⟩, ⟨0, rfl⟩, trivial⟩) hx27) (fun v W hR a hF => ?_)
         obtain ⟨rfl, hT28⟩ := hR
         have hS := hS.grow hT28.below
         refine sq_nil (then_j ⟨?_, ?_⟩)
         · exact fun hQ0 _ => hQ0.next hT28.below
         ·
          have hQC := hQC.next hT28.below
          refine e_val' 10 rfl (by kernel_rfl) (fun W => (v_pick_t hF rfl he20 rfl)) hF rfl fun a hF => e_val' 11 rfl (by kernel_rfl) (fun W => (v_assign hF rfl)) hF rfl fun a hF => e_done (by kernel_rfl) ?_ _
          obtain rfl := si h
          exact then_j ⟨x26, rfl, (hF.keep ⟨rfl, trivial⟩), (hS.keep sn sl trivial)⟩
       ·
        have he20 : (u1.Owner == u0.Owner) = false := nB he20
        replace h := ifF he20 h
        refine e_no' 6 rfl (by kernel_rfl) rfl rfl he20 hF rfl fun a hF => e_no' 7 rfl (by kernel_rfl) rfl rfl he20 hF rfl fun a hF => e_no' 8 rfl (by kernel_rfl) rfl rfl he20 hF rfl fun a hF => e_no' 9 rfl (by kernel_rfl) rfl rfl he20 hF rfl fun a hF => e_val' 10 rfl (by kernel_rfl) (fun W => (v_pick_f hF rfl he20 rfl)) hF rfl fun a hF => e_val' 11 rfl (by kernel_rfl) (fun W => (v_assign hF rfl)) hF rfl fun a hF => e_done (by kernel_rfl) ?_ _
        obtain rfl := si h
        exact then_j ⟨false, rfl, (hF.keep ⟨rfl, trivial⟩), (hS.keep sn sl trivial)⟩
     ·
      refine sk <| bn <| tn <| wq <| wg <| av hF rfl rfl fun a hF => nl <| tn <| rt ?_
      obtain rfl := si h
      exact ret1 hF rfl (rv_tmp hF rfl) ⟨_, rfl, rfl, (hS.keep sn sl trivial)⟩
    ·
     refine wi hF rfl h (fun h => ?_) fun h => ?_
     ·
      refine sk ?_
      obtain rfl := si h
      exact then_j ⟨(u0.Kind == 4), rfl, (hF.keep ⟨rfl, rfl, rfl, trivial⟩), hS⟩
     ·
      refine wg <| sv (v_eql hF rfl rfl) hF rfl fun a hF => av hF rfl rfl fun a hF => nl ?_
      obtain rfl := si h
      exact then_j ⟨(u0.Kind == 5), rfl, (hF.keep ⟨rfl, rfl, rfl, trivial⟩), hS⟩
  ·
   refine wi hF rfl h (fun h => ?_) fun h => ?_
   ·
    refine sk ?_
    obtain rfl := si h
    exact then_j ⟨(u0.Kind == 2), rfl, (hF.keep ⟨rfl, rfl, rfl, rfl, trivial⟩), hS⟩
   ·
    refine wg <| sv (v_eql hF rfl rfl) hF rfl fun a hF => av hF rfl rfl fun a hF => nl ?_
    obtain rfl := si h
    exact then_j ⟨(u0.Kind == 3), rfl, (hF.keep ⟨rfl, rfl, rfl, rfl, trivial⟩), hS⟩

theorem ok_mods_Apply (k : Nat) {M : Nat → Prop} {w0 : World} {u0 : List TRule} {A0_0 : Option Addr} {c0_0 : Nat} {u1 : TMod} {A1_0 : Option Addr} {c1_0 : Nat} {u2 : Int} {o : (List TRule) × Int} (hS : St M w0 [] [] [fSl k_TRule A0_0 c0_0 u0, fSl k_TAct A1_0 c1_0 u1.Acts] w0) (h : mods_Apply k u0 u1 u2 = some o) :
    Calls Tryz.prog 140 #[.slice A0_0 ((u0).length) c0_0, .agg (TMod.enc u1 A1_0 c1_0).toArray, .int .i64 (u2)] w0 fun e W' => ∃ v, e = .returned v ∧ (∃ (A82 : Option Addr) (c83 : Nat), v = .tuple #[.slice A82 ((o.1).length) c83, .int .i64 (o.2)] ∧ St M w0 [] [⟨k_TRule, 51, A82, c83, o.1⟩] [] W') := by
  unfold mods_Apply at h
  refine cst Tryz.func140 rfl rfl rfl fun a hF => wq <| wg <| bv hF hS rfl rfl rfl fun b1 a W hF hS => av hF rfl rfl fun a hF => av hF rfl rfl fun a hF => nl <| tn <| wq <| wq <| wg <| mv hF rfl rfl fun a hF => ?_
  obtain ⟨x2, hx3, h⟩ := bindS h
  refine cl hF pc205 rfl rfl (ok_rule_Table k (hS.enter ⟨⟨0, rfl⟩, trivial⟩) hx3) hS fun W a hF hS => sv (v_not hF rfl) hF rfl fun a hF => mv hF rfl rfl fun a hF => gorB 3 3 14 hF hS h rfl rfl rfl rfl rfl (fun r7 h => ?_) (fun x6 a W h hF hS => ?_)
  ·
   refine sv (v_load (cs := TMod.enc u1 A1_0 c1_0) hF rfl pa57 ps57 (hS.bc (i := 0) rfl)) hF rfl fun a hF => ?_
   obtain ⟨x8, hx9, h⟩ := bindS h
   refine cl hF pc204 rfl rfl (ok_mods_Sound k (hS.enter ⟨⟨1, rfl⟩, trivial⟩) hx9) hS fun W a hF hS => sv (v_not hF rfl) hF rfl fun a hF => ?_
   obtain rfl := si h
   exact gs 3 hF hS rfl rfl rfl
  ·
   refine nl <| tn <| wi hF rfl h (fun h => ?_) fun h => ?_
   ·
    refine wq <| wg <| av hF rfl rfl fun a hF => av hF rfl rfl fun a hF => nl <| tn <| rt <| tr ?_
    have hS := hS.addNil k_TRule 51
    obtain rfl := si h
    exact ret2 hF rfl (rv_tmp hF rfl) (rv_tmp hF rfl) ⟨_, rfl, none, 0, rfl, (hS.keep sn sl trivial)⟩
   ·
    refine sk <| tn <| wq <| wq <| wg <| fv hF rfl pf57_0 rfl fun a hF => lv hF rfl pa3 (hS.bc (i := 0) rfl) rfl rfl rfl fun a hF => sv (v_eql hF rfl rfl) hF rfl fun a hF => nl <| tn <| wi hF rfl h (fun h => ?_) fun h => ?_
    ·
     refine wq <| wg <| mv hF rfl rfl fun a hF => sv (v_load (cs := TMod.enc u1 A1_0 c1_0) hF rfl pa57 ps57 (hS.bc (i := 0) rfl)) hF rfl fun a hF => mv hF rfl rfl fun a hF => ?_
     obtain ⟨x13, hx14, h⟩ := bindS h
     refine sq_call hF pc207 rfl (by decide) (ok_mods_add k (hS.enter ⟨⟨0, rfl⟩, ⟨1, rfl⟩, trivial⟩) hx14) (fun v W hR a hF => ?_)
     obtain ⟨A15, c16, rfl, hT17⟩ := hR
     have hS := hS.join hT17
     refine sv (v_extract hF rfl rfl) hF rfl fun a hF => sv (v_extract hF rfl rfl) hF rfl fun a hF => av hF rfl rfl fun a hF => av hF rfl rfl fun a hF => nl <| tn <| rt <| tr ?_
     obtain rfl := si h
     exact ret2 hF rfl (rv_tmp hF rfl) (rv_tmp hF rfl) ⟨_, rfl, A15, c16, rfl, (hS.keep sn sl trivial)⟩
    ·
     refine sk <| tn <| wq <| wg <| av hF rfl rfl fun a hF => nl <| tn <| wq <| wq <| wg <| mv hF rfl rfl fun a hF => ?_
     obtain ⟨x18, hx19, h⟩ := bindS h
     refine sq_call hF pc56 rfl (by decide) (ok_rule_Copy k (hS.enter ⟨⟨0, rfl⟩, trivial⟩) hx19) (fun v W hR a hF => ?_)
     obtain ⟨A20, c21, rfl, hT22⟩ := hR
     have hS := hS.join hT22
     refine sv (v_len hF rfl pu26) hF rfl fun a hF => mv hF rfl rfl fun a hF => nl <| tn ?_
     obtain ⟨o34, h, hk35⟩ := bindS h
     refine wp_join (fun a W => ∃ (x31 : List TRule) (A32 : Option Addr) (c33 : Nat), x31 = o34 ∧ FH 57 [(8, .slice A32 ((x31).length) c33)] a ∧ St M w0 [] [⟨k_TRule, 51, A32, c33, x31⟩] [] W) (fun a W hJ => ?_) ?_
     ·
      obtain ⟨x31, A32, c33, rfl, hF, hS⟩ := hJ
      have h := hk35
      refine tn <| wq <| wg <| mv hF rfl rfl fun a hF => av hF rfl rfl fun a hF => av hF rfl rfl fun a hF => nl <| tn <| rt ?_
      obtain rfl := si h
      exact ret2 hF rfl (rv_tmp hF rfl) (rv_tmp hF rfl) ⟨_, rfl, A32, c33, rfl, hS⟩
     ·
      have hS := hS.addNil k_TRule 51
      refine wb <| wp_loop_fuel (I := fun m a W => ∃ (x27 : List TRule) (x30 : Int) (A28 : Option Addr) (c29 : Nat), FH 57 [(4, .pointer (some (⟨b1, 0, none⟩))), (8, .slice A28 ((x27).length) c29), (29, .slice A20 ((x18).length) c21), (30, .int .i64 ((x18.length : Int))), (31, .int .i64 (x30))] a ∧ St M w0 [⟨b1, TMod.enc u1 A1_0 c1_0, 57⟩] [⟨k_TRule, 51, A28, c29, x27⟩, ⟨k_TRule, 51, A20, c21, x18⟩] [fSl k_TAct A1_0 c1_0 u1.Acts] W ∧ (mods_Apply.l0 k u1 x18 m x27 x30) = some o34) ?_ (k := k) ⟨([]), 0, none, 0, (hF.keep ⟨rfl, rfl, rfl, rfl, rfl, trivial⟩), (hS.keep sl sl ⟨⟨1, rfl⟩, trivial⟩), h⟩
      rintro m36 a W ⟨x27, x30, A28, c29, hF, hS, h⟩
      cases m36 with
      | zero => cases h
      | succ m36 =>
       rw [mods_Apply.l0] at h
       refine wq <| wg <| sv (v_lss hF rfl rfl) hF rfl fun a hF => nl <| tn <| wq <| wi hF rfl h (fun h => ?_) fun h => ?_
       ·
        refine sk <| tn <| wq ?_
        obtain ⟨o41, h, hk42⟩ := bindS h
        refine wp_join (fun a W => ∃ (x38 : List TRule) (A39 : Option Addr) (c40 : Nat), x38 = o41 ∧ FH 57 [(4, .pointer (some (⟨b1, 0, none⟩))), (8, .slice A39 ((x38).length) c40), (29, .slice A20 ((x18).length) c21), (30, .int .i64 ((x18.length : Int))), (31, .int .i64 (x30))] a ∧ St M w0 [⟨b1, TMod.enc u1 A1_0 c1_0, 57⟩] [⟨k_TRule, 51, A39, c40, x38⟩, ⟨k_TRule, 51, A20, c21, x18⟩] [fSl k_TAct A1_0 c1_0 u1.Acts] W) (fun a W hJ => ?_) ?_
        ·
         obtain ⟨x38, A39, c40, rfl, hF, hS⟩ := hJ
         have h := hk42
         exact tn <| wg <| sv (v_add hF rfl rfl) hF rfl fun a hF => mv hF rfl rfl fun a hF => nl <| then_j ⟨m36, Nat.lt_succ_self _, x38, (IntKind.i64.wrap (x30 + 1)), A39, c40, (hF.keep ⟨rfl, rfl, rfl, rfl, rfl, trivial⟩), hS, h⟩
        ·
         refine wb <| wq <| wg ?_
         obtain ⟨x43, hx44, h⟩ := bindS h
         obtain ⟨p45, cs46, hA47, hc49, hr50⟩ := Row.ok.at (hS.rw_ (i := 1) rfl) hx44
         obtain ⟨A51, c52, rfl, hs53⟩ := hr50
         have hS := hS.addFact (f := fSl k_TAct A51 c52 x43.Acts) hs53
         refine sv (v_idx hF rfl hA47 rfl psl26 hx44) hF rfl fun a hF => sv (v_load (cs := TRule.enc x43 A51 c52) hF rfl pa51 ps51 hc49) hF rfl fun a hF => al hF hS pz51 rfl rfl fun b54 a W hF hS => sq_store (o := 0) (vs := TRule.enc x43 A51 c52) (cs' := TRule.enc x43 A51 c52) hF hS rfl rfl (i := 0) rfl rfl rfl ps51 (TRule.enc_one _ _ _) (bl rfl) rfl fun W hS => nl <| tn <| wq <| wq <| wg <| sv (v_load (cs := TMod.enc u1 A1_0 c1_0) hF rfl pa57 ps57 (hS.bc (i := 1) rfl)) hF rfl fun a hF => sv (v_load (cs := TRule.enc x43 A51 c52) hF rfl pa51 ps51 (hS.bc (i := 0) rfl)) hF rfl fun a hF => ?_
         obtain ⟨x55, hx56, h⟩ := bindS h
         refine cl hF pc208 rfl rfl (ok_mods_touches k (hS.enter ⟨⟨1, rfl⟩, ⟨0, rfl⟩, trivial⟩) hx56) hS fun W a hF hS => nl <| tn <| wi hF rfl h (fun h => ?_) fun h => ?_
         ·
          refine wq <| wq <| wg <| fv hF rfl pf57_0 rfl fun a hF => lv hF rfl pa3 (hS.bc (i := 1) rfl) rfl rfl rfl fun a hF => sv (v_eql hF rfl rfl) hF rfl fun a hF => mv hF rfl rfl fun a hF => gor 3 3 41 ((u1.Kind == 5)) hF rfl rfl rfl rfl rfl (fun _ => ?_) (fun a hF => ?_)
          ·
           exact fv hF rfl pf57_0 rfl fun a hF => lv hF rfl pa3 (hS.bc (i := 1) rfl) rfl rfl rfl fun a hF => sv (v_eql hF rfl rfl) hF rfl fun a hF => gq 3 hF rfl rfl rfl
          ·
           refine nl <| tn <| wi hF rfl h (fun h => ?_) fun h => ?_
           ·
            refine wp_exit <| tx <| tx <| bh ?_
            obtain rfl := si h
            exact then_j ⟨x27, A28, c29, rfl, (hF.keep ⟨rfl, rfl, rfl, rfl, rfl, trivial⟩), (hS.keep (.cons _ sl) sl ⟨⟨1, rfl⟩, trivial⟩)⟩
           ·
            refine sk <| tn <| wg <| fv hF rfl pf57_3 rfl fun a hF => lv hF rfl pa49 (hS.bc (i := 1) rfl) rfl rfl rfl fun a hF => ?_
            obtain ⟨x61, hx62, h⟩ := bindS h
            refine sq_call hF pc124 rfl (by decide) (ok_slices_Clone_Act (hS.enter ⟨⟨1, rfl⟩, trivial⟩) hx62) (fun v W hR a hF => ?_)
            obtain ⟨A63, c64, rfl, hT65⟩ := hR
            have hS := hS.join hT65
            obtain ⟨x66, hx67, h⟩ := bindS h
            refine sq_call hF pc123 rfl (by decide) (ok_slices_Clip_Act hS hx67) (fun v W hR a hF => ?_)
            obtain ⟨A68, c69, rfl, hS⟩ := hR
            refine fv hF rfl pf51_2 rfl fun a hF => ?_
            have hS := hS.freeze (i := 0) rfl (posB rfl)
            refine sq_store (o := 25) (vs := [.slice A68 ((x66).length) c69]) (cs' := TRule.enc (TRule.setActs x43 x66) A68 c69) hF hS rfl rfl (i := 0) rfl rfl rfl ps49 (one1 rfl) (bl rfl) rfl fun W hS => nl <| tn <| wg <| mv hF rfl rfl fun a hF => sv (v_load (cs := TRule.enc (TRule.setActs x43 x66) A68 c69) hF rfl pa51 ps51 (hS.bc (i := 0) rfl)) hF rfl fun a hF => sq_buildSlice (κ := k_TRule) (xs := [.tmp 52]) (ys := [(TRule.setActs x43 x66)]) hF hS rfl rfl rfl (Els.cons ⟨A68, c69, rfl, (hS.fc (i := 0) rfl)⟩ (Els.nil _ _ _)) rfl psl26 pz51 rfl (by decide) (by decide) (by decide) (fun A70 c71 a W hF hS => ?_)
            obtain ⟨x74, hx75, h⟩ := bindS h
            refine sq_append (ys := ([(TRule.setActs x43 x66)])) hF hS (i := 1) rfl rfl rfl (hS.rw_ (i := 0) rfl).src psl26 pb51 pz51 rfl (by decide) (by decide) hx75 (by decide) (fun A72 c73 a W hF hS => ?_)
            refine av hF rfl rfl fun a hF => nl <| bn ?_
            obtain rfl := si h
            exact then_j ⟨x74, A72, c73, rfl, (hF.keep ⟨rfl, rfl, rfl, rfl, rfl, trivial⟩), (hS.keep (.cons _ sl) (.cons _ sl) ⟨⟨2, rfl⟩, trivial⟩)⟩
         ·
          refine sk <| tn <| wg <| mv hF rfl rfl fun a hF => sv (v_load (cs := TRule.enc x43 A51 c52) hF rfl pa51 ps51 (hS.bc (i := 0) rfl)) hF rfl fun a hF => sq_buildSlice (κ := k_TRule) (xs := [.tmp 52]) (ys := [x43]) hF hS rfl rfl rfl (Els.cons ⟨A51, c52, rfl, (hS.fc (i := 0) rfl)⟩ (Els.nil _ _ _)) rfl psl26 pz51 rfl (by decide) (by decide) (by decide) (fun A76 c77 a W hF hS => ?_)
          obtain ⟨x80, hx81, h⟩ := bindS h
          refine sq_append (ys := ([x43])) hF hS (i := 1) rfl rfl rfl (hS.rw_ (i := 0) rfl).src psl26 pb51 pz51 rfl (by decide) (by decide) hx81 (by decide) (fun A78 c79 a W hF hS => ?_)
          refine av hF rfl rfl fun a hF => nl <| bn ?_
          obtain rfl := si h
          exact then_j ⟨x80, A78, c79, rfl, (hF.keep ⟨rfl, rfl, rfl, rfl, rfl, trivial⟩), (hS.keep (.cons _ sl) (.cons _ sl) ⟨⟨1, rfl⟩, trivial⟩)⟩
       ·
        refine wp_exit <| tx <| tx <| bh ?_
        obtain rfl := si h
        exact then_j ⟨x27, A28, c29, rfl, (hF.keep ⟨rfl, trivial⟩), (hS.keep sn (.cons_cons _ sn) trivial)⟩

theorem ok_slices_Equal_Act (k : Nat) {M : Nat → Prop} {w0 : World} {u0 : List TAct} {A0_0 : Option Addr} {c0_0 : Nat} {u1 : List TAct} {A1_0 : Option Addr} {c1_0 : Nat} {o : Bool} (hS : St M w0 [] [] [fSl k_TAct A0_0 c0_0 u0, fSl k_TAct A1_0 c1_0 u1] w0) (h : slices_Equal_Act k u0 u1 = some o) :
    Calls Tryz.prog 299 #[.slice A0_0 ((u0).length) c0_0, .slice A1_0 ((u1).length) c1_0] w0 fun e W' => ∃ v, e = .returned v ∧ (v = .bool (o) ∧ St M w0 [] [] [] W') := by
  unfold slices_Equal_Act at h
  refine cst Tryz.func299 rfl rfl rfl fun a hF => wq <| wg <| av hF rfl rfl fun a hF => nl <| tn <| wq <| wq <| wg <| mv hF rfl rfl fun a hF => sv (v_len hF rfl pu49) hF rfl fun a hF => mv hF rfl rfl fun a hF => sv (v_len hF rfl pu49) hF rfl fun a hF => sv (v_neq hF rfl rfl) hF rfl fun a hF => nl <| tn <| wi hF rfl h (fun h => ?_) fun h => ?_
  ·
   refine wq <| wg <| av hF rfl rfl fun a hF => nl <| tn <| rt <| tr ?_
   obtain rfl := si h
   exact ret1 hF rfl (rv_tmp hF rfl) ⟨_, rfl, rfl, (hS.keep sl sl trivial)⟩
  ·
   refine sk <| tn <| wq <| wq <| wg <| mv hF rfl rfl fun a hF => sv (v_len hF rfl pu49) hF rfl fun a hF => mv hF rfl rfl fun a hF => nl <| tn ?_
   obtain ⟨o4, h, hk5⟩ := bindS h
   refine wp_join (fun a W => Lo.brk () = o4 ∧ FH 26 [] a ∧ St M w0 [] [] [] W) (fun a W hJ => ?_) ?_
   ·
    obtain ⟨rfl, hF, hS⟩ := hJ
    have h := hk5
    dsimp only at h
    refine tn <| wq <| wg <| av hF rfl rfl fun a hF => nl <| tn <| rt ?_
    obtain rfl := si h
    exact ret1 hF rfl (rv_tmp hF rfl) ⟨_, rfl, rfl, hS⟩
   ·
    refine wb <| wp_loop_fuel (I := fun m a W => ∃ (x3 : Int), FH 26 [(0, .slice A0_0 ((u0).length) c0_0), (1, .slice A1_0 ((u1).length) c1_0), (12, .int .i64 ((u0.length : Int))), (13, .int .i64 (x3))] a ∧ St M w0 [] [] [fSl k_TAct A0_0 c0_0 u0, fSl k_TAct A1_0 c1_0 u1] W ∧ (slices_Equal_Act.l0 k u0 u1 m x3) = some o4) ?_ (k := k) ⟨0, (hF.keep ⟨rfl, rfl, rfl, rfl, trivial⟩), hS, h⟩
    rintro m6 a W ⟨x3, hF, hS, h⟩
    cases m6 with
    | zero => cases h
    | succ m6 =>
     rw [slices_Equal_Act.l0] at h
     refine wq <| wg <| sv (v_lss hF rfl rfl) hF rfl fun a hF => nl <| tn <| wq <| wi hF rfl h (fun h => ?_) fun h => ?_
     ·
      refine sk <| tn <| wq <| wb <| wq <| wg <| mv hF rfl rfl fun a hF => av hF rfl rfl fun a hF => nl <| tn <| wq <| wp_quiet rfl (by kernel_rfl) hS <| qv (fun W hC => (v_move hF rfl)) hF rfl fun a hF => qv (fun W hC => (v_move hF rfl)) hF rfl fun a hF => ?_
      obtain ⟨x8, hx9, h⟩ := bindS h
      obtain ⟨p10, cs11, hA12, hat13⟩ := SlR.at (hS.fc (i := 0) rfl) hx9
      obtain rfl : cs11 = TAct.enc x8 := hat13.2.2.2
      refine qv (fun W hC => (v_idx hF rfl hA12 rfl psl49 hx9)) hF rfl fun a hF => qv (fun W hC => (v_load (cs := TAct.enc x8) hF rfl pa152 ps152 (hat13.2.2.1.grow hC.1))) hF rfl fun a hF => qv (fun W hC => (v_move hF rfl)) hF rfl fun a hF => qv (fun W hC => (v_move hF rfl)) hF rfl fun a hF => ?_
      obtain ⟨x14, hx15, h⟩ := bindS h
      obtain ⟨p16, cs17, hA18, hat19⟩ := SlR.at (hS.fc (i := 1) rfl) hx15
      obtain rfl : cs17 = TAct.enc x14 := hat19.2.2.2
      refine qv (fun W hC => (v_idx hF rfl hA18 rfl psl49 hx15)) hF rfl fun a hF => qv (fun W hC => (v_load (cs := TAct.enc x14) hF rfl pa152 ps152 (hat19.2.2.1.grow hC.1))) hF rfl fun a hF => qv (fun W hC => (eq152 hF rfl rfl).2) hF rfl fun a hF => qn ?_
      intro W hC
      have hS := hC.2
      refine tn <| wi hF rfl h (fun h => ?_) fun h => ?_
      ·
       refine wq <| wg <| av hF rfl rfl fun a hF => nl <| tn <| rt <| br <| tr <| tr <| br <| tr <| tr ?_
       obtain rfl := si h
       have h := hk5
       dsimp only at h
       obtain rfl := si h
       exact ret1 hF rfl (rv_tmp hF rfl) ⟨_, rfl, rfl, (hS.keep sl sl trivial)⟩
      ·
       exact sk <| bn <| tn <| wg <| sv (v_add hF rfl rfl) hF rfl fun a hF => mv hF rfl rfl fun a hF => nl <| then_j ⟨m6, Nat.lt_succ_self _, (IntKind.i64.wrap (x3 + 1)), (hF.keep ⟨rfl, rfl, rfl, rfl, trivial⟩), hS, h⟩
     ·
      refine wp_exit <| tx <| tx <| bh ?_
      obtain rfl := si h
      exact then_j ⟨rfl, (hF.keep trivial), (hS.keep sl sl trivial)⟩

theorem ok_act_Same (k : Nat) {M : Nat → Prop} {w0 : World} {u0 : List TAct} {A0_0 : Option Addr} {c0_0 : Nat} {u1 : List TAct} {A1_0 : Option Addr} {c1_0 : Nat} {o : Bool} (hS : St M w0 [] [] [fSl k_TAct A0_0 c0_0 u0, fSl k_TAct A1_0 c1_0 u1] w0) (h : act_Same k u0 u1 = some o) :
    Calls Tryz.prog 287 #[.slice A0_0 ((u0).length) c0_0, .slice A1_0 ((u1).length) c1_0] w0 fun e W' => ∃ v, e = .returned v ∧ (v = .bool (o) ∧ St M w0 [] [] [] W') := by
  unfold act_Same at h
  refine cst Tryz.func287 rfl rfl rfl fun a hF => wq <| wg <| av hF rfl rfl fun a hF => nl <| tn <| wq <| wg <| mv hF rfl rfl fun a hF => mv hF rfl rfl fun a hF => ?_
  obtain ⟨x1, hx2, h⟩ := bindS h
  refine cl hF pc299 rfl rfl (ok_slices_Equal_Act k (hS.enter ⟨⟨0, rfl⟩, ⟨1, rfl⟩, trivial⟩) hx2) hS fun W a hF hS => av hF rfl rfl fun a hF => nl <| tn <| rt ?_
  obtain rfl := si h
  exact ret1 hF rfl (rv_tmp hF rfl) ⟨_, rfl, rfl, (hS.keep sl sl trivial)⟩

theorem ok_rule_Equal (k : Nat) {M : Nat → Prop} {w0 : World} {u0 : TRule} {A0_0 : Option Addr} {c0_0 : Nat} {u1 : TRule} {A1_0 : Option Addr} {c1_0 : Nat} {o : Bool} (hS : St M w0 [] [] [fSl k_TAct A0_0 c0_0 u0.Acts, fSl k_TAct A1_0 c1_0 u1.Acts] w0) (h : rule_Equal k u0 u1 = some o) :
    Calls Tryz.prog 283 #[.agg (TRule.enc u0 A0_0 c0_0).toArray, .agg (TRule.enc u1 A1_0 c1_0).toArray] w0 fun e W' => ∃ v, e = .returned v ∧ (v = .bool (o) ∧ St M w0 [] [] [] W') := by
  unfold rule_Equal at h
  refine cst Tryz.func283 rfl rfl rfl fun a hF => wq <| wg <| bv hF hS rfl rfl rfl fun b1 a W hF hS => bv hF hS rfl rfl rfl fun b2 a W hF hS => av hF rfl rfl fun a hF => nl <| tn <| wq <| wp_drawn (fun _ => St M w0 [⟨b2, TRule.enc u1 A1_0 c1_0, 51⟩, ⟨b1, TRule.enc u0 A0_0 c0_0, 51⟩] [] [fSl k_TAct A0_0 c0_0 u0.Acts, fSl k_TAct A1_0 c1_0 u1.Acts]) (fun _ => false) rfl hS (fun W hB0 hR0 => ?_)
  have hS := hR0
  refine eqc hS fun hQC => ?_
  obtain ⟨x3, hx4, h⟩ := bindS h
  obtain ⟨x5, hx6, h⟩ := bindS h
  refine e_valS' 0 rfl (by kernel_rfl) (fun W hC => (v_load (cs := TRule.enc u0 A0_0 c0_0) hF rfl pa51 ps51 (hC.bc (i := 1) rfl))) hQC (by kernel_rfl) hF rfl fun a hF => e_valS' 1 rfl (by kernel_rfl) (fun W hC => (v_load (cs := TRule.enc u1 A1_0 c1_0) hF rfl pa51 ps51 (hC.bc (i := 0) rfl))) hQC (by kernel_rfl) hF rfl fun a hF => e_many [2, 3] (by kernel_rfl) (by decide) ⟨⟨_, rfl, ?_⟩, ⟨_, rfl, ?_⟩, trivial⟩
  ·
   refine al hF hS pz51 rfl rfl fun b7 a W hF hS => sq_nil (then_j ⟨?_, ?_⟩)
   · exact fun _ _ => (hS.keep (.cons _ sl) sl ⟨⟨0, rfl⟩, ⟨1, rfl⟩, trivial⟩)
   ·
    refine e_one' 3 rfl (by kernel_rfl) <| al hF hS pz51 rfl rfl fun b8 a W hF hS => sq_nil (then_j ⟨?_, ?_⟩)
    · exact fun _ _ => (hS.keep (.cons _ (.cons _ sl)) sl ⟨⟨0, rfl⟩, ⟨1, rfl⟩, trivial⟩)
    ·
     refine e_one' 4 rfl (by kernel_rfl) <| sq_store (o := 0) (vs := TRule.enc u0 A0_0 c0_0) (cs' := TRule.enc u0 A0_0 c0_0) hF hS rfl rfl (i := 1) rfl rfl rfl ps51 (TRule.enc_one _ _ _) (bl rfl) rfl fun W hS => sq_nil (then_j ⟨?_, ?_⟩)
     · exact fun _ _ => (hS.keep (.cons _ (.cons _ sl)) sl ⟨⟨0, rfl⟩, ⟨1, rfl⟩, trivial⟩)
     ·
      refine e_one' 5 rfl (by kernel_rfl) <| sq_store (o := 0) (vs := TRule.enc u1 A1_0 c1_0) (cs' := TRule.enc u1 A1_0 c1_0) hF hS rfl rfl (i := 0) rfl rfl rfl ps51 (TRule.enc_one _ _ _) (bl rfl) rfl fun W hS => sq_nil (then_j ⟨?_, ?_⟩)
      · exact fun _ _ => (hS.keep (.cons _ (.cons _ sl)) sl ⟨⟨0, rfl⟩, ⟨1, rfl⟩, trivial⟩)
      ·
       refine e_done (by kernel_rfl) ?_ _
       refine tn <| wq <| wg <| fv hF rfl pf51_2 rfl fun a hF => sq_store (o := 25) (vs := [.slice none 0 0]) (cs' := TRule.enc (TRule.setActs u0 ([])) none 0) hF hS rfl rfl (i := 1) rfl rfl rfl ps49 (one1 rfl) (bl rfl) rfl fun W hS => fv hF rfl pf51_2 rfl fun a hF => sq_store (o := 25) (vs := [.slice none 0 0]) (cs' := TRule.enc (TRule.setActs u1 ([])) none 0) hF hS rfl rfl (i := 0) rfl rfl rfl ps49 (one1 rfl) (bl rfl) rfl fun W hS => nl <| tn <| wq <| wg <| fv hF rfl pf51_2 rfl fun a hF => lv hF rfl pa49 (hS.bc (i := 3) rfl) rfl rfl rfl fun a hF => fv hF rfl pf51_2 rfl fun a hF => lv hF rfl pa49 (hS.bc (i := 2) rfl) rfl rfl rfl fun a hF => cl hF pc287 rfl rfl (ok_act_Same k (hS.enter ⟨⟨0, rfl⟩, ⟨1, rfl⟩, trivial⟩) hx4) hS fun W a hF hS => mv hF rfl rfl fun a hF => sq_cut 4 (fun a W => FH 63 [(5, .pointer (some (⟨b7, 0, none⟩))), (6, .pointer (some (⟨b8, 0, none⟩))), (20, .bool (x3 && x5))] a ∧ St M w0 [⟨b8, TRule.enc (TRule.setActs u1 ([])) none 0, 51⟩, ⟨b7, TRule.enc (TRule.setActs u0 ([])) none 0, 51⟩, ⟨b2, TRule.enc u1 A1_0 c1_0, 51⟩, ⟨b1, TRule.enc u0 A0_0 c0_0, 51⟩] [] [fSl k_TAct A0_0 c0_0 u0.Acts, fSl k_TAct A1_0 c1_0 u1.Acts] W) (fun a W hJ => ?_) ?_
       ·
        obtain ⟨hF, hS⟩ := hJ
        refine mv hF rfl rfl fun a hF => gand 5 10 21 ((u0.Idle == u1.Idle)) hF rfl rfl rfl rfl rfl (fun _ => ?_) (fun a hF => ?_)
        ·
         exact fv hF rfl pf51_3 rfl fun a hF => lv hF rfl pa3 (hS.bc (i := 1) rfl) rfl rfl rfl fun a hF => fv hF rfl pf51_3 rfl fun a hF => lv hF rfl pa3 (hS.bc (i := 0) rfl) rfl rfl rfl fun a hF => sv (v_eql hF rfl rfl) hF rfl fun a hF => gq 5 hF rfl rfl rfl
        ·
         refine mv hF rfl rfl fun a hF => gand 5 17 28 ((u0.Hard == u1.Hard)) hF rfl rfl rfl rfl rfl (fun _ => ?_) (fun a hF => ?_)
         ·
          exact fv hF rfl pf51_4 rfl fun a hF => lv hF rfl pa3 (hS.bc (i := 1) rfl) rfl rfl rfl fun a hF => fv hF rfl pf51_4 rfl fun a hF => lv hF rfl pa3 (hS.bc (i := 0) rfl) rfl rfl rfl fun a hF => sv (v_eql hF rfl rfl) hF rfl fun a hF => gq 5 hF rfl rfl rfl
         ·
          refine mv hF rfl rfl fun a hF => gand 5 24 35 ((u0.Owner == u1.Owner)) hF rfl rfl rfl rfl rfl (fun _ => ?_) (fun a hF => ?_)
          ·
           exact fv hF rfl pf51_5 rfl fun a hF => lv hF rfl pa3 (hS.bc (i := 1) rfl) rfl rfl rfl fun a hF => fv hF rfl pf51_5 rfl fun a hF => lv hF rfl pa3 (hS.bc (i := 0) rfl) rfl rfl rfl fun a hF => sv (v_eql hF rfl rfl) hF rfl fun a hF => gq 5 hF rfl rfl rfl
          ·
           refine mv hF rfl rfl fun a hF => gand 5 31 42 ((u0.Hits == u1.Hits)) hF rfl rfl rfl rfl rfl (fun _ => ?_) (fun a hF => ?_)
           ·
            exact fv hF rfl pf51_6 rfl fun a hF => lv hF rfl pa3 (hS.bc (i := 1) rfl) rfl rfl rfl fun a hF => fv hF rfl pf51_6 rfl fun a hF => lv hF rfl pa3 (hS.bc (i := 0) rfl) rfl rfl rfl fun a hF => sv (v_eql hF rfl rfl) hF rfl fun a hF => gq 5 hF rfl rfl rfl
           ·
            refine mv hF rfl rfl fun a hF => gand 5 38 49 ((u0.Quiet == u1.Quiet)) hF rfl rfl rfl rfl rfl (fun _ => ?_) (fun a hF => ?_)
            ·
             exact fv hF rfl pf51_7 rfl fun a hF => lv hF rfl pa3 (hS.bc (i := 1) rfl) rfl rfl rfl fun a hF => fv hF rfl pf51_7 rfl fun a hF => lv hF rfl pa3 (hS.bc (i := 0) rfl) rfl rfl rfl fun a hF => sv (v_eql hF rfl rfl) hF rfl fun a hF => gq 5 hF rfl rfl rfl
            ·
             refine mv hF rfl rfl fun a hF => gand 5 45 56 ((u0.Age == u1.Age)) hF rfl rfl rfl rfl rfl (fun _ => ?_) (fun a hF => ?_)
             ·
              exact fv hF rfl pf51_8 rfl fun a hF => lv hF rfl pa3 (hS.bc (i := 1) rfl) rfl rfl rfl fun a hF => fv hF rfl pf51_8 rfl fun a hF => lv hF rfl pa3 (hS.bc (i := 0) rfl) rfl rfl rfl fun a hF => sv (v_eql hF rfl rfl) hF rfl fun a hF => gq 5 hF rfl rfl rfl
             ·
              refine av hF rfl rfl fun a hF => nl <| tn <| rt ?_
              obtain rfl := si h
              exact ret1 hF rfl (rv_tmp hF rfl) ⟨_, rfl, rfl, (hS.keep sn sl trivial)⟩
       ·
        by_cases he10 : x3 = true
        ·
         refine sq_yes hF rfl rfl he10 <| sv (v_load (cs := TRule.enc (TRule.setActs u0 ([])) none 0) hF rfl pa51 ps51 (hS.bc (i := 1) rfl)) hF rfl fun a hF => sq_yes hF rfl rfl he10 <| sv (v_load (cs := TRule.enc (TRule.setActs u1 ([])) none 0) hF rfl pa51 ps51 (hS.bc (i := 0) rfl)) hF rfl fun a hF => sq_yes hF rfl rfl he10 ?_
         have hS := hS.addFact (f := fSl k_TAct none 0 []) (SlR.nil _ _ _)
         have hS := hS.addFact (f := fSl k_TAct none 0 []) (SlR.nil _ _ _)
         exact cl hF pc61 rfl rfl (ok_rule_Key (hS.enter ⟨⟨1, rfl⟩, ⟨0, rfl⟩, trivial⟩) hx6) hS fun W a hF hS => sv (v_pick_t hF rfl he10 rfl) hF rfl fun a hF => sq_nil (then_j ⟨(hF.keep ⟨rfl, rfl, (boolV (and_t he10)), trivial⟩), (hS.keep sl sl ⟨⟨2, rfl⟩, ⟨3, rfl⟩, trivial⟩)⟩)
        ·
         have he10 : x3 = false := nB he10
         refine sq_no hF rfl rfl he10 (by rintro x ⟨⟩; decide) (fun a hF => ?_)
         refine sq_no hF rfl rfl he10 (by rintro x ⟨⟩; decide) (fun a hF => ?_)
         refine sq_no hF rfl rfl he10 (by rintro x ⟨⟩; decide) (fun a hF => ?_)
         exact sv (v_pick_f hF rfl he10 rfl) hF rfl fun a hF => sq_nil (then_j ⟨(hF.keep ⟨rfl, rfl, (boolV (and_f he10)), trivial⟩), hS⟩)
  ·
   refine al hF hS pz51 rfl rfl fun b18 a W hF hS => sq_nil (then_j ⟨?_, ?_⟩)
   · exact fun _ _ => (hS.keep (.cons _ sl) sl ⟨⟨0, rfl⟩, ⟨1, rfl⟩, trivial⟩)
   ·
    refine e_one' 2 rfl (by kernel_rfl) <| al hF hS pz51 rfl rfl fun b19 a W hF hS => sq_nil (then_j ⟨?_, ?_⟩)
    · exact fun _ _ => (hS.keep (.cons _ (.cons _ sl)) sl ⟨⟨0, rfl⟩, ⟨1, rfl⟩, trivial⟩)
    ·
     refine e_one' 4 rfl (by kernel_rfl) <| sq_store (o := 0) (vs := TRule.enc u0 A0_0 c0_0) (cs' := TRule.enc u0 A0_0 c0_0) hF hS rfl rfl (i := 0) rfl rfl rfl ps51 (TRule.enc_one _ _ _) (bl rfl) rfl fun W hS => sq_nil (then_j ⟨?_, ?_⟩)
     · exact fun _ _ => (hS.keep (.cons _ (.cons _ sl)) sl ⟨⟨0, rfl⟩, ⟨1, rfl⟩, trivial⟩)
     ·
      refine e_one' 5 rfl (by kernel_rfl) <| sq_store (o := 0) (vs := TRule.enc u1 A1_0 c1_0) (cs' := TRule.enc u1 A1_0 c1_0) hF hS rfl rfl (i := 1) rfl rfl rfl ps51 (TRule.enc_one _ _ _) (bl rfl) rfl fun W hS => sq_nil (then_j ⟨?_, ?_⟩)
      · exact fun _ _ => (hS.keep (.cons _ (.cons _ sl)) sl ⟨⟨0, rfl⟩, ⟨1, rfl⟩, trivial⟩)
      ·
       refine e_done (by kernel_rfl) ?_ _
       refine tn <| wq <| wg <| fv hF rfl pf51_2 rfl fun a hF => sq_store (o := 25) (vs := [.slice none 0 0]) (cs' := TRule.enc (TRule.setActs u0 ([])) none 0) hF hS rfl rfl (i := 0) rfl rfl rfl ps49 (one1 rfl) (bl rfl) rfl fun W hS => fv hF rfl pf51_2 rfl fun a hF => sq_store (o := 25) (vs := [.slice none 0 0]) (cs' := TRule.enc (TRule.setActs u1 ([])) none 0) hF hS rfl rfl (i := 1) rfl rfl rfl ps49 (one1 rfl) (bl rfl) rfl fun W hS => nl <| tn <| wq <| wg <| fv hF rfl pf51_2 rfl fun a hF => lv hF rfl pa49 (hS.bc (i := 3) rfl) rfl rfl rfl fun a hF => fv hF rfl pf51_2 rfl fun a hF => lv hF rfl pa49 (hS.bc (i := 2) rfl) rfl rfl rfl fun a hF => cl hF pc287 rfl rfl (ok_act_Same k (hS.enter ⟨⟨0, rfl⟩, ⟨1, rfl⟩, trivial⟩) hx4) hS fun W a hF hS => mv hF rfl rfl fun a hF => sq_cut 4 (fun a W => FH 63 [(5, .pointer (some (⟨b19, 0, none⟩))), (6, .pointer (some (⟨b18, 0, none⟩))), (20, .bool (x3 && x5))] a ∧ St M w0 [⟨b19, TRule.enc (TRule.setActs u0 ([])) none 0, 51⟩, ⟨b18, TRule.enc (TRule.setActs u1 ([])) none 0, 51⟩, ⟨b2, TRule.enc u1 A1_0 c1_0, 51⟩, ⟨b1, TRule.enc u0 A0_0 c0_0, 51⟩] [] [fSl k_TAct A0_0 c0_0 u0.Acts, fSl k_TAct A1_0 c1_0 u1.Acts] W) (fun a W hJ => ?_) ?_
       ·
        obtain ⟨hF, hS⟩ := hJ
        refine mv hF rfl rfl fun a hF => gand 5 10 21 ((u0.Idle == u1.Idle)) hF rfl rfl rfl rfl rfl (fun _ => ?_) (fun a hF => ?_)
        ·
         exact fv hF rfl pf51_3 rfl fun a hF => lv hF rfl pa3 (hS.bc (i := 0) rfl) rfl rfl rfl fun a hF => fv hF rfl pf51_3 rfl fun a hF => lv hF rfl pa3 (hS.bc (i := 1) rfl) rfl rfl rfl fun a hF => sv (v_eql hF rfl rfl) hF rfl fun a hF => gq 5 hF rfl rfl rfl
        ·
         refine mv hF rfl rfl fun a hF => gand 5 17 28 ((u0.Hard == u1.Hard)) hF rfl rfl rfl rfl rfl (fun _ => ?_) (fun a hF => ?_)
         ·
          exact fv hF rfl pf51_4 rfl fun a hF => lv hF rfl pa3 (hS.bc (i := 0) rfl) rfl rfl rfl fun a hF => fv hF rfl pf51_4 rfl fun a hF => lv hF rfl pa3 (hS.bc (i := 1) rfl) rfl rfl rfl fun a hF => sv (v_eql hF rfl rfl) hF rfl fun a hF => gq 5 hF rfl rfl rfl
         ·
          refine mv hF rfl rfl fun a hF => gand 5 24 35 ((u0.Owner == u1.Owner)) hF rfl rfl rfl rfl rfl (fun _ => ?_) (fun a hF => ?_)
          ·
           exact fv hF rfl pf51_5 rfl fun a hF => lv hF rfl pa3 (hS.bc (i := 0) rfl) rfl rfl rfl fun a hF => fv hF rfl pf51_5 rfl fun a hF => lv hF rfl pa3 (hS.bc (i := 1) rfl) rfl rfl rfl fun a hF => sv (v_eql hF rfl rfl) hF rfl fun a hF => gq 5 hF rfl rfl rfl
          ·
           refine mv hF rfl rfl fun a hF => gand 5 31 42 ((u0.Hits == u1.Hits)) hF rfl rfl rfl rfl rfl (fun _ => ?_) (fun a hF => ?_)
           ·
            exact fv hF rfl pf51_6 rfl fun a hF => lv hF rfl pa3 (hS.bc (i := 0) rfl) rfl rfl rfl fun a hF => fv hF rfl pf51_6 rfl fun a hF => lv hF rfl pa3 (hS.bc (i := 1) rfl) rfl rfl rfl fun a hF => sv (v_eql hF rfl rfl) hF rfl fun a hF => gq 5 hF rfl rfl rfl
           ·
            refine mv hF rfl rfl fun a hF => gand 5 38 49 ((u0.Quiet == u1.Quiet)) hF rfl rfl rfl rfl rfl (fun _ => ?_) (fun a hF => ?_)
            ·
             exact fv hF rfl pf51_7 rfl fun a hF => lv hF rfl pa3 (hS.bc (i := 0) rfl) rfl rfl rfl fun a hF => fv hF rfl pf51_7 rfl fun a hF => lv hF rfl pa3 (hS.bc (i := 1) rfl) rfl rfl rfl fun a hF => sv (v_eql hF rfl rfl) hF rfl fun a hF => gq 5 hF rfl rfl rfl
            ·
             refine mv hF rfl rfl fun a hF => gand 5 45 56 ((u0.Age == u1.Age)) hF rfl rfl rfl rfl rfl (fun _ => ?_) (fun a hF => ?_)
             ·
              exact fv hF rfl pf51_8 rfl fun a hF => lv hF rfl pa3 (hS.bc (i := 0) rfl) rfl rfl rfl fun a hF => fv hF rfl pf51_8 rfl fun a hF => lv hF rfl pa3 (hS.bc (i := 1) rfl) rfl rfl rfl fun a hF => sv (v_eql hF rfl rfl) hF rfl fun a hF => gq 5 hF rfl rfl rfl
             ·
              refine av hF rfl rfl fun a hF => nl <| tn <| rt ?_
              obtain rfl := si h
              exact ret1 hF rfl (rv_tmp hF rfl) ⟨_, rfl, rfl, (hS.keep sn sl trivial)⟩
       ·
        by_cases he21 : x3 = true
        ·
         refine sq_yes hF rfl rfl he21 <| sv (v_load (cs := TRule.enc (TRule.setActs u0 ([])) none 0) hF rfl pa51 ps51 (hS.bc (i := 0) rfl)) hF rfl fun a hF => sq_yes hF rfl rfl he21 <| sv (v_load (cs := TRule.enc (TRule.setActs u1 ([])) none 0) hF rfl pa51 ps51 (hS.bc (i := 1) rfl)) hF rfl fun a hF => sq_yes hF rfl rfl he21 ?_
         have hS := hS.addFact (f := fSl k_TAct none 0 []) (SlR.nil _ _ _)
         have hS := hS.addFact (f := fSl k_TAct none 0 []) (SlR.nil _ _ _)
         exact cl hF pc61 rfl rfl (ok_rule_Key (hS.enter ⟨⟨1, rfl⟩, ⟨0, rfl⟩, trivial⟩) hx6) hS fun W a hF hS => sv (v_pick_t hF rfl he21 rfl) hF rfl fun a hF => sq_nil (then_j ⟨(hF.keep ⟨rfl, rfl, (boolV (and_t he21)), trivial⟩), (hS.keep sl sl ⟨⟨2, rfl⟩, ⟨3, rfl⟩, trivial⟩)⟩)
        ·
         have he21 : x3 = false := nB he21
         refine sq_no hF rfl rfl he21 (by rintro x ⟨⟩; decide) (fun a hF => ?_)
         refine sq_no hF rfl rfl he21 (by rintro x ⟨⟩; decide) (fun a hF => ?_)
         refine sq_no hF rfl rfl he21 (by rintro x ⟨⟩; decide) (fun a hF => ?_)
         exact sv (v_pick_f hF rfl he21 rfl) hF rfl fun a hF => sq_nil (then_j ⟨(hF.keep ⟨rfl, rfl, (boolV (and_f he21)), trivial⟩), hS⟩)

theorem ok_undo_alone_1 (k : Nat) {M : Nat → Prop} {w0 : World} {u0 : TRule} {A0_0 : Option Addr} {c0_0 : Nat} {y0 : TRule} {b0_ : Nat} {B0_0 : Option Addr} {d0_0 : Nat} {o : Bool} (hS : St M w0 [] [] [fSl k_TAct A0_0 c0_0 u0.Acts, fSl k_TAct B0_0 d0_0 y0.Acts, fBox b0_ (TRule.enc y0 B0_0 d0_0) 51] w0) (h : undo_alone_1 k u0 y0 = some o) :
    Calls Tryz.prog 282 #[.agg (TRule.enc u0 A0_0 c0_0).toArray, .pointer (some (⟨b0_, 0, none⟩))] w0 fun e W' => ∃ v, e = .returned v ∧ (v = .bool (o) ∧ St M w0 [] [] [] W') := by
  unfold undo_alone_1 at h
  refine cst Tryz.func282 rfl rfl rfl fun a hF => wq <| wg <| bv hF hS rfl rfl rfl fun b1 a W hF hS => av hF rfl rfl fun a hF => nl <| tn <| wq <| wg <| sv (v_load (cs := TRule.enc y0 B0_0 d0_0) hF rfl pa51 ps51 (hS.fbc (i := 2) rfl)) hF rfl fun a hF => sv (v_load (cs := TRule.enc u0 A0_0 c0_0) hF rfl pa51 ps51 (hS.bc (i := 0) rfl)) hF rfl fun a hF => ?_
  obtain ⟨x2, hx3, h⟩ := bindS h
  refine cl hF pc283 rfl rfl (ok_rule_Equal k (hS.enter ⟨⟨1, rfl⟩, ⟨0, rfl⟩, trivial⟩) hx3) hS fun W a hF hS => av hF rfl rfl fun a hF => nl <| tn <| rt ?_
  obtain rfl := si h
  exact ret1 hF rfl (rv_tmp hF rfl) ⟨_, rfl, rfl, (hS.keep sn sl trivial)⟩

theorem ok_undo_alone (k : Nat) {M : Nat → Prop} {w0 : World} {u0 : List TRule} {A0_0 : Option Addr} {c0_0 : Nat} {u1 : List TRule} {A1_0 : Option Addr} {c1_0 : Nat} {o : (List TRule)} (hS : St M w0 [] [] [fSl k_TRule A0_0 c0_0 u0, fSl k_TRule A1_0 c1_0 u1] w0) (h : undo_alone k u0 u1 = some o) :
    Calls Tryz.prog 235 #[.slice A0_0 ((u0).length) c0_0, .slice A1_0 ((u1).length) c1_0] w0 fun e W' => ∃ v, e = .returned v ∧ (∃ (A51 : Option Addr) (c52 : Nat), v = .slice A51 ((o).length) c52 ∧ St M w0 [] [⟨k_TRule, 51, A51, c52, o⟩] [] W') := by
  unfold undo_alone at h
  refine cst Tryz.func235 rfl rfl rfl fun a hF => wq <| wg <| av hF rfl rfl fun a hF => nl <| tn <| wq <| wg <| av hF rfl rfl fun a hF => nl <| tn <| wq <| wq <| wg <| mv hF rfl rfl fun a hF => sv (v_len hF rfl pu26) hF rfl fun a hF => mv hF rfl rfl fun a hF => nl <| tn ?_
  obtain ⟨o12, h, hk13⟩ := bindS h
  refine wp_join (fun a W => ∃ (x9 : List TRule) (A10 : Option Addr) (c11 : Nat), x9 = o12 ∧ FH 25 [(5, .slice A10 ((x9).length) c11)] a ∧ St M w0 [] [⟨k_TRule, 51, A10, c11, x9⟩] [] W) (fun a W hJ => ?_) ?_
  ·
   obtain ⟨x9, A10, c11, rfl, hF, hS⟩ := hJ
   have h := hk13
   refine tn <| wq <| wg <| mv hF rfl rfl fun a hF => ?_
   have hS := hS.freeze (i := 0) rfl (posB rfl)
   obtain ⟨x14, hx15, h⟩ := bindS h
   refine sq_call hF pc56 rfl (by decide) (ok_rule_Copy k (hS.enter ⟨⟨0, rfl⟩, trivial⟩) hx15) (fun v W hR a hF => ?_)
   obtain ⟨A16, c17, rfl, hT18⟩ := hR
   have hS := hS.join hT18
   refine av hF rfl rfl fun a hF => nl <| tn <| rt ?_
   obtain rfl := si h
   exact ret1 hF rfl (rv_tmp hF rfl) ⟨_, rfl, A16, c17, rfl, (hS.keep sl sl trivial)⟩
  ·
   have hS := hS.addNil k_TRule 51
   refine wb <| wp_loop_fuel (I := fun m a W => ∃ (x5 : List TRule) (x8 : Int) (A6 : Option Addr) (c7 : Nat), FH 25 [(1, .slice A1_0 ((u1).length) c1_0), (5, .slice A6 ((x5).length) c7), (8, .slice A0_0 ((u0).length) c0_0), (9, .int .i64 ((u0.length : Int))), (10, .int .i64 (x8))] a ∧ St M w0 [] [⟨k_TRule, 51, A6, c7, x5⟩] [fSl k_TRule A0_0 c0_0 u0, fSl k_TRule A1_0 c1_0 u1] W ∧ (undo_alone.l0 k u0 u1 m x5 x8) = some o12) ?_ (k := k) ⟨([]), 0, none, 0, (hF.keep ⟨rfl, rfl, rfl, rfl, rfl, trivial⟩), hS, h⟩
   rintro m19 a W ⟨x5, x8, A6, c7, hF, hS, h⟩
   cases m19 with
   | zero => cases h
   | succ m19 =>
    rw [undo_alone.l0] at h
    refine wq <| wg <| sv (v_lss hF rfl rfl) hF rfl fun a hF => nl <| tn <| wq <| wi hF rfl h (fun h => ?_) fun h => ?_
    ·
     refine sk <| tn <| wq ?_
     obtain ⟨o24, h, hk25⟩ := bindS h
     refine wp_join (fun a W => ∃ (x21 : List TRule) (A22 : Option Addr) (c23 : Nat), x21 = o24 ∧ FH 25 [(1, .slice A1_0 ((u1).length) c1_0), (5, .slice A22 ((x21).length) c23), (8, .slice A0_0 ((u0).length) c0_0), (9, .int .i64 ((u0.length : Int))), (10, .int .i64 (x8))] a ∧ St M w0 [] [⟨k_TRule, 51, A22, c23, x21⟩] [fSl k_TRule A0_0 c0_0 u0, fSl k_TRule A1_0 c1_0 u1] W) (fun a W hJ => ?_) ?_
     ·
      obtain ⟨x21, A22, c23, rfl, hF, hS⟩ := hJ
      have h := hk25
      exact tn <| wg <| sv (v_add hF rfl rfl) hF rfl fun a hF => mv hF rfl rfl fun a hF => nl <| then_j ⟨m19, Nat.lt_succ_self _, x21, (IntKind.i64.wrap (x8 + 1)), A22, c23, (hF.keep ⟨rfl, rfl, rfl, rfl, rfl, trivial⟩), hS, h⟩
     ·
      refine wb <| wq <| wg ?_
      obtain ⟨x26, hx27, h⟩ := bindS h
      obtain ⟨p28, cs29, hA30, hat31⟩ := SlR.at (hS.fc (i := 0) rfl) hx27
      obtain ⟨A32, c33, rfl, hs34⟩ := hat31.2.2.2
      have hS := hS.addFact (f := fAt k_TRule (p28.add (x8.toNat * 32)) (TRule.enc x26 A32 c33) x26) hat31
      have hS := hS.addFact (f := fSl k_TAct A32 c33 x26.Acts) hs34
      refine sv (v_idx hF rfl hA30 rfl psl26 hx27) hF rfl fun a hF => sv (v_load (cs := TRule.enc x26 A32 c33) hF rfl pa51 ps51 (hS.pc (i := 1) rfl)) hF rfl fun a hF => al hF hS pz51 rfl rfl fun b35 a W hF hS => sq_store (o := 0) (vs := TRule.enc x26 A32 c33) (cs' := TRule.enc x26 A32 c33) hF hS rfl rfl (i := 0) rfl rfl rfl ps51 (TRule.enc_one _ _ _) (bl rfl) rfl fun W hS => nl <| tn <| wq <| wg <| mv hF rfl rfl fun a hF => ?_
      have hS := hS.freezeBox (i := 0) rfl
      have hS := hS.addFact (f := fFn1 Tryz.prog 282 ([.pointer (some (⟨b35, 0, none⟩))]) k_TRule true (fun (a0 : TRule) => undo_alone_1 k a0 x26) (fun y => .bool y)) ⟨pc282, fun M' W' hs hv cs a0 y hR hp => by obtain ⟨P0_0, q0_0, rfl, z0_0⟩ := hR; exact fromSt (ok_undo_alone_1 k (St.ofAll hv ⟨z0_0, ((fSl k_TAct A32 c33 x26.Acts).st (hS.fc (i := 1) rfl) hs), ((fBox b35 (TRule.enc x26 A32 c33) 51).st (hS.fc (i := 0) rfl) hs), trivial⟩) hp)⟩
      refine sv (v_makeFunc (xs := [.tmp 7]) (vs := [.pointer (some (⟨b35, 0, none⟩))]) hF rfl) hF rfl fun a hF => ?_
      obtain ⟨x36, hx37, h⟩ := bindS h
      refine cl hF pc252 rfl rfl (ok_slices_ContainsFunc_Rule k (hS.enter ⟨⟨5, rfl⟩, ⟨0, rfl⟩, trivial⟩) hx37) hS fun W a hF hS => sv (v_not hF rfl) hF rfl fun a hF => nl <| tn ?_
      obtain ⟨o42, h, hk43⟩ := bindS h
      refine wp_join (fun a W => ∃ (x39 : List TRule) (A40 : Option Addr) (c41 : Nat), x39 = o42 ∧ FH 25 [(1, .slice A1_0 ((u1).length) c1_0), (5, .slice A40 ((x39).length) c41), (8, .slice A0_0 ((u0).length) c0_0), (9, .int .i64 ((u0.length : Int))), (10, .int .i64 (x8))] a ∧ St M w0 [] [⟨k_TRule, 51, A40, c41, x39⟩] [fSl k_TRule A0_0 c0_0 u0, fSl k_TRule A1_0 c1_0 u1] W) (fun a W hJ => ?_) ?_
      ·
       obtain ⟨x39, A40, c41, rfl, hF, hS⟩ := hJ
       have h := hk43
       refine bn ?_
       obtain rfl := si h
       exact then_j ⟨x39, A40, c41, rfl, (hF.keep ⟨rfl, rfl, rfl, rfl, rfl, trivial⟩), hS⟩
      ·
       refine wi hF rfl h (fun h => ?_) fun h => ?_
       ·
        refine wg <| mv hF rfl rfl fun a hF => sv (v_load (cs := TRule.enc x26 A32 c33) hF rfl pa51 ps51 (hS.fbc (i := 1) rfl)) hF rfl fun a hF => sq_buildSlice (κ := k_TRule) (xs := [.tmp 19]) (ys := [x26]) hF hS rfl rfl rfl (Els.cons ⟨A32, c33, rfl, (hS.fc (i := 2) rfl)⟩ (Els.nil _ _ _)) rfl psl26 pz51 rfl (by decide) (by decide) (by decide) (fun A45 c46 a W hF hS => ?_)
        obtain ⟨x49, hx50, h⟩ := bindS h
        refine sq_append (ys := ([x26])) hF hS (i := 1) rfl rfl rfl (hS.rw_ (i := 0) rfl).src psl26 pb51 pz51 rfl (by decide) (by decide) hx50 (by decide) (fun A47 c48 a W hF hS => ?_)
        refine av hF rfl rfl fun a hF => nl ?_
        obtain rfl := si h
        exact then_j ⟨x49, A47, c48, rfl, (hF.keep ⟨rfl, rfl, rfl, rfl, rfl, trivial⟩), (hS.keep sl (.cons _ sl) ⟨⟨4, rfl⟩, ⟨5, rfl⟩, trivial⟩)⟩
       ·
        refine sk ?_
        obtain rfl := si h
        exact then_j ⟨x5, A6, c7, rfl, (hF.keep ⟨rfl, rfl, rfl, rfl, rfl, trivial⟩), (hS.keep sl sl ⟨⟨4, rfl⟩, ⟨5, rfl⟩, trivial⟩)⟩
    ·
     refine wp_exit <| tx <| tx <| bh ?_
     obtain rfl := si h
     exact then_j ⟨x5, A6, c7, rfl, (hF.keep ⟨rfl, trivial⟩), (hS.keep sl sl trivial)⟩

theorem ok_undo_Diff (k : Nat) {M : Nat → Prop} {w0 : World} {u0 : List TRule} {A0_0 : Option Addr} {c0_0 : Nat} {u1 : List TRule} {A1_0 : Option Addr} {c1_0 : Nat} {o : Tundo_Patch} (hS : St M w0 [] [] [fSl k_TRule A0_0 c0_0 u0, fSl k_TRule A1_0 c1_0 u1] w0) (h : undo_Diff k u0 u1 = some o) :
    Calls Tryz.prog 186 #[.slice A0_0 ((u0).length) c0_0, .slice A1_0 ((u1).length) c1_0] w0 fun e W' => ∃ v, e = .returned v ∧ (∃ (A22 : Option Addr) (c23 : Nat) (A24 : Option Addr) (c25 : Nat), v = .agg (Tundo_Patch.enc o A22 c23 A24 c25).toArray ∧ St M w0 [] [] [fSl k_TRule A22 c23 o.Gone, fSl k_TRule A24 c25 o.New] W') := by
  unfold undo_Diff at h
  refine cst Tryz.func186 rfl rfl rfl fun a hF => wq <| wg <| al hF hS pz227 rfl rfl fun b1 a W hF hS => nl <| tn <| wq <| wq <| wg <| mv hF rfl rfl fun a hF => ?_
  obtain ⟨x2, hx3, h⟩ := bindS h
  refine cl hF pc205 rfl rfl (ok_rule_Table k (hS.enter ⟨⟨0, rfl⟩, trivial⟩) hx3) hS fun W a hF hS => sv (v_not hF rfl) hF rfl fun a hF => mv hF rfl rfl fun a hF => gorB 3 3 8 hF hS h rfl rfl rfl rfl rfl (fun r7 h => ?_) (fun x6 a W h hF hS => ?_)
  ·
   refine mv hF rfl rfl fun a hF => ?_
   obtain ⟨x8, hx9, h⟩ := bindS h
   refine cl hF pc205 rfl rfl (ok_rule_Table k (hS.enter ⟨⟨1, rfl⟩, trivial⟩) hx9) hS fun W a hF hS => sv (v_not hF rfl) hF rfl fun a hF => ?_
   obtain rfl := si h
   exact gs 3 hF hS rfl rfl rfl
  ·
   refine nl <| tn <| wi hF rfl h (fun h => ?_) fun h => ?_
   ·
    refine wq <| wg <| sv (v_build (parts := []) (out := Tundo_Patch.enc Tundo_Patch.zero none 0 none 0) hF rfl rfl pz227 rfl pp227 rfl) hF rfl fun a hF => sq_store (o := 0) (vs := Tundo_Patch.enc Tundo_Patch.zero none 0 none 0) (cs' := Tundo_Patch.enc Tundo_Patch.zero none 0 none 0) hF hS rfl rfl (i := 0) rfl rfl rfl ps227 (Tundo_Patch.enc_one _ _ _ _ _) (bl rfl) rfl fun W hS => nl <| tn <| rt <| tr ?_
    have hS := hS.addFact (f := fSl k_TRule none 0 []) (SlR.nil _ _ _)
    have hS := hS.addFact (f := fSl k_TRule none 0 []) (SlR.nil _ _ _)
    obtain rfl := si h
    exact ret1 hF rfl (rv_cell (cs := Tundo_Patch.enc Tundo_Patch.zero none 0 none 0) hF rfl pa227 ps227 (hS.bc (i := 0) rfl)) ⟨_, rfl, none, 0, none, 0, rfl, (hS.keep sn sl ⟨⟨1, rfl⟩, ⟨0, rfl⟩, trivial⟩)⟩
   ·
    refine sk <| tn <| wq <| wg <| mv hF rfl rfl fun a hF => mv hF rfl rfl fun a hF => ?_
    obtain ⟨x12, hx13, h⟩ := bindS h
    refine sq_call hF pc235 rfl (by decide) (ok_undo_alone k (hS.enter ⟨⟨0, rfl⟩, ⟨1, rfl⟩, trivial⟩) hx13) (fun v W hR a hF => ?_)
    obtain ⟨A14, c15, rfl, hT16⟩ := hR
    have hS := hS.join hT16
    refine mv hF rfl rfl fun a hF => mv hF rfl rfl fun a hF => ?_
    obtain ⟨x17, hx18, h⟩ := bindS h
    refine sq_call hF pc235 rfl (by decide) (ok_undo_alone k (hS.enter ⟨⟨1, rfl⟩, ⟨0, rfl⟩, trivial⟩) hx18) (fun v W hR a hF => ?_)
    obtain ⟨A19, c20, rfl, hT21⟩ := hR
    have hS := hS.join hT21
    have hS := hS.freeze (i := 1) rfl (posB rfl)
    have hS := hS.freeze (i := 0) rfl (posB rfl)
    refine sv (v_build (parts := [(0, .tmp 16), (1, .tmp 19)]) (out := Tundo_Patch.enc ({ Gone := x12, New := x17 } : Tundo_Patch) A14 c15 A19 c20) hF rfl rfl pz227 rfl pp227 rfl) hF rfl fun a hF => sq_store (o := 0) (vs := Tundo_Patch.enc ({ Gone := x12, New := x17 } : Tundo_Patch) A14 c15 A19 c20) (cs' := Tundo_Patch.enc ({ Gone := x12, New := x17 } : Tundo_Patch) A14 c15 A19 c20) hF hS rfl rfl (i := 0) rfl rfl rfl ps227 (Tundo_Patch.enc_one _ _ _ _ _) (bl rfl) rfl fun W hS => nl <| tn <| rt ?_
    obtain rfl := si h
    exact ret1 hF rfl (rv_cell (cs := Tundo_Patch.enc ({ Gone := x12, New := x17 } : Tundo_Patch) A14 c15 A19 c20) hF rfl pa227 ps227 (hS.bc (i := 0) rfl)) ⟨_, rfl, A14, c15, A19, c20, rfl, (hS.keep sn sl ⟨⟨1, rfl⟩, ⟨0, rfl⟩, trivial⟩)⟩

theorem ok_undo_Inverse (k : Nat) {M : Nat → Prop} {w0 : World} {u0 : List TRule} {A0_0 : Option Addr} {c0_0 : Nat} {u1 : TMod} {A1_0 : Option Addr} {c1_0 : Nat} {u2 : Int} {o : (List TRule) × Tundo_Patch × Int} (hS : St M w0 [] [] [fSl k_TRule A0_0 c0_0 u0, fSl k_TAct A1_0 c1_0 u1.Acts] w0) (h : undo_Inverse k u0 u1 u2 = some o) :
    Calls Tryz.prog 122 #[.slice A0_0 ((u0).length) c0_0, .agg (TMod.enc u1 A1_0 c1_0).toArray, .int .i64 (u2)] w0 fun e W' => ∃ v, e = .returned v ∧ (∃ (A16 : Option Addr) (c17 : Nat) (A18 : Option Addr) (c19 : Nat) (A20 : Option Addr) (c21 : Nat), v = .tuple #[.slice A16 ((o.1).length) c17, .agg (Tundo_Patch.enc o.2.1 A18 c19 A20 c21).toArray, .int .i64 (o.2.2)] ∧ St M w0 [] [] [fSl k_TRule A16 c17 o.1, fSl k_TRule A18 c19 o.2.1.Gone, fSl k_TRule A20 c21 o.2.1.New] W') := by
  unfold undo_Inverse at h
  refine cst Tryz.func122 rfl rfl rfl fun a hF => wq <| wg <| bv hF hS rfl rfl rfl fun b1 a W hF hS => av hF rfl rfl fun a hF => al hF hS pz227 rfl rfl fun b2 a W hF hS => av hF rfl rfl fun a hF => nl <| tn <| wq <| wg <| mv hF rfl rfl fun a hF => sv (v_load (cs := TMod.enc u1 A1_0 c1_0) hF rfl pa57 ps57 (hS.bc (i := 1) rfl)) hF rfl fun a hF => mv hF rfl rfl fun a hF => ?_
  obtain ⟨x3, hx4, h⟩ := bindS h
  refine sq_call hF pc140 rfl (by decide) (ok_mods_Apply k (hS.enter ⟨⟨0, rfl⟩, ⟨1, rfl⟩, trivial⟩) hx4) (fun v W hR a hF => ?_)
  obtain ⟨A5, c6, rfl, hT7⟩ := hR
  have hS := hS.join hT7
  refine mv hF rfl rfl fun a hF => sv (v_extract hF rfl rfl) hF rfl fun a hF => sv (v_extract hF rfl rfl) hF rfl fun a hF => av hF rfl rfl fun a hF => av hF rfl rfl fun a hF => nl <| tn <| wq <| wq <| wg <| mv hF rfl rfl fun a hF => sv (v_neq hF rfl rfl) hF rfl fun a hF => nl <| tn <| wi hF rfl h (fun h => ?_) fun h => ?_
  ·
   refine wq <| wg <| sv (v_build (parts := []) (out := Tundo_Patch.enc Tundo_Patch.zero none 0 none 0) hF rfl rfl pz227 rfl pp227 rfl) hF rfl fun a hF => mv hF rfl rfl fun a hF => av hF rfl rfl fun a hF => sq_store (o := 0) (vs := Tundo_Patch.enc Tundo_Patch.zero none 0 none 0) (cs' := Tundo_Patch.enc Tundo_Patch.zero none 0 none 0) hF hS rfl rfl (i := 0) rfl rfl rfl ps227 (Tundo_Patch.enc_one _ _ _ _ _) (bl rfl) rfl fun W hS => av hF rfl rfl fun a hF => nl <| tn <| rt <| tr ?_
   have hS := hS.addFact (f := fSl k_TRule none 0 []) (SlR.nil _ _ _)
   have hS := hS.addFact (f := fSl k_TRule none 0 []) (SlR.nil _ _ _)
   have hS := hS.addFact (f := fSl k_TRule none 0 []) (SlR.nil _ _ _)
   obtain rfl := si h
   exact ret3 hF rfl (rv_tmp hF rfl) (rv_cell (cs := Tundo_Patch.enc Tundo_Patch.zero none 0 none 0) hF rfl pa227 ps227 (hS.bc (i := 0) rfl)) (rv_tmp hF rfl) ⟨_, rfl, none, 0, none, 0, none, 0, rfl, (hS.keep sn sn ⟨⟨2, rfl⟩, ⟨1, rfl⟩, ⟨0, rfl⟩, trivial⟩)⟩
  ·
   refine sk <| tn <| wq <| wg <| mv hF rfl rfl fun a hF => mv hF rfl rfl fun a hF => mv hF rfl rfl fun a hF => ?_
   have hS := hS.freeze (i := 0) rfl (posB rfl)
   obtain ⟨x9, hx10, h⟩ := bindS h
   refine sq_call hF pc186 rfl (by decide) (ok_undo_Diff k (hS.enter ⟨⟨1, rfl⟩, ⟨0, rfl⟩, trivial⟩) hx10) (fun v W hR a hF => ?_)
   obtain ⟨A11, c12, A13, c14, rfl, hT15⟩ := hR
   have hS := hS.join hT15
   refine av hF rfl rfl fun a hF => sq_store (o := 0) (vs := Tundo_Patch.enc x9 A11 c12 A13 c14) (cs' := Tundo_Patch.enc x9 A11 c12 A13 c14) hF hS rfl rfl (i := 0) rfl rfl rfl ps227 (Tundo_Patch.enc_one _ _ _ _ _) (bl rfl) rfl fun W hS => av hF rfl rfl fun a hF => nl <| tn <| rt ?_
   obtain rfl := si h
   exact ret3 hF rfl (rv_tmp hF rfl) (rv_cell (cs := Tundo_Patch.enc x9 A11 c12 A13 c14) hF rfl pa227 ps227 (hS.bc (i := 0) rfl)) (rv_tmp hF rfl) ⟨_, rfl, A5, c6, A11, c12, A13, c14, rfl, (hS.keep sn sl ⟨⟨2, rfl⟩, ⟨0, rfl⟩, ⟨1, rfl⟩, trivial⟩)⟩

theorem ok_shadow_laid (k : Nat) {M : Nat → Prop} {w0 : World} {u0 : List TRule} {A0_0 : Option Addr} {c0_0 : Nat} {u1 : List TMod} {A1_0 : Option Addr} {c1_0 : Nat} {o : (List TRule) × (List Tundo_Patch)} (hS : St M w0 [] [] [fSl k_TRule A0_0 c0_0 u0, fSl k_TMod A1_0 c1_0 u1] w0) (h : shadow_laid k u0 u1 = some o) :
    Calls Tryz.prog 54 #[.slice A0_0 ((u0).length) c0_0, .slice A1_0 ((u1).length) c1_0] w0 fun e W' => ∃ v, e = .returned v ∧ (∃ (A60 : Option Addr) (c61 : Nat) (A62 : Option Addr) (c63 : Nat), v = .tuple #[.slice A60 ((o.1).length) c61, .slice A62 ((o.2).length) c63] ∧ St M w0 [] [⟨k_Tundo_Patch, 227, A62, c63, o.2⟩] [fSl k_TRule A60 c61 o.1] W') := by
  unfold shadow_laid at h
  refine cst Tryz.func54 rfl rfl rfl fun a hF => wq <| wg <| av hF rfl rfl fun a hF => av hF rfl rfl fun a hF => nl <| tn <| wq <| wg <| av hF rfl rfl fun a hF => nl <| tn <| wq <| wq <| wg <| mv hF rfl rfl fun a hF => sv (v_len hF rfl pu32) hF rfl fun a hF => mv hF rfl rfl fun a hF => nl <| tn ?_
  obtain ⟨o21, h, hk22⟩ := bindS h
  refine wp_join (fun a W => ∃ (x15 : List TRule) (x18 : List Tundo_Patch) (A16 : Option Addr) (c17 : Nat) (A19 : Option Addr) (c20 : Nat), (x15, x18) = o21 ∧ FH 35 [(0, .slice A16 ((x15).length) c17), (6, .slice A19 ((x18).length) c20)] a ∧ St M w0 [] [⟨k_Tundo_Patch, 227, A19, c20, x18⟩] [fSl k_TRule A16 c17 x15] W) (fun a W hJ => ?_) ?_
  ·
   obtain ⟨x15, x18, A16, c17, A19, c20, rfl, hF, hS⟩ := hJ
   have h := hk22
   dsimp only at h
   refine tn <| wq <| wg <| mv hF rfl rfl fun a hF => mv hF rfl rfl fun a hF => av hF rfl rfl fun a hF => av hF rfl rfl fun a hF => nl <| tn <| rt ?_
   obtain rfl := si h
   exact ret2 hF rfl (rv_tmp hF rfl) (rv_tmp hF rfl) ⟨_, rfl, A16, c17, A19, c20, rfl, hS⟩
  ·
   have hS := hS.addNil k_Tundo_Patch 227
   refine wb <| wp_loop_fuel (I := fun m a W => ∃ (x8 : List TRule) (x11 : List Tundo_Patch) (x14 : Int) (A9 : Option Addr) (c10 : Nat) (A12 : Option Addr) (c13 : Nat), FH 35 [(0, .slice A9 ((x8).length) c10), (6, .slice A12 ((x11).length) c13), (12, .slice A1_0 ((u1).length) c1_0), (13, .int .i64 ((u1.length : Int))), (14, .int .i64 (x14))] a ∧ St M w0 [] [⟨k_Tundo_Patch, 227, A12, c13, x11⟩] [fSl k_TRule A9 c10 x8, fSl k_TMod A1_0 c1_0 u1] W ∧ (shadow_laid.l0 k u1 m x8 x11 x14) = some o21) ?_ (k := k) ⟨u0, ([]), 0, A0_0, c0_0, none, 0, (hF.keep ⟨rfl, rfl, rfl, rfl, rfl, trivial⟩), hS, h⟩
   rintro m23 a W ⟨x8, x11, x14, A9, c10, A12, c13, hF, hS, h⟩
   cases m23 with
   | zero => cases h
   | succ m23 =>
    rw [shadow_laid.l0] at h
    refine wq <| wg <| sv (v_lss hF rfl rfl) hF rfl fun a hF => nl <| tn <| wq <| wi hF rfl h (fun h => ?_) fun h => ?_
    ·
     refine sk <| tn <| wq ?_
     obtain ⟨o31, h, hk32⟩ := bindS h
     refine wp_join (fun a W => ∃ (x25 : List TRule) (x28 : List Tundo_Patch) (A26 : Option Addr) (c27 : Nat) (A29 : Option Addr) (c30 : Nat), (x25, x28) = o31 ∧ FH 35 [(0, .slice A26 ((x25).length) c27), (6, .slice A29 ((x28).length) c30), (12, .slice A1_0 ((u1).length) c1_0), (13, .int .i64 ((u1.length : Int))), (14, .int .i64 (x14))] a ∧ St M w0 [] [⟨k_Tundo_Patch, 227, A29, c30, x28⟩] [fSl k_TRule A26 c27 x25, fSl k_TMod A1_0 c1_0 u1] W) (fun a W hJ => ?_) ?_
     ·
      obtain ⟨x25, x28, A26, c27, A29, c30, rfl, hF, hS⟩ := hJ
      have h := hk32
      dsimp only at h
      exact tn <| wg <| sv (v_add hF rfl rfl) hF rfl fun a hF => mv hF rfl rfl fun a hF => nl <| then_j ⟨m23, Nat.lt_succ_self _, x25, x28, (IntKind.i64.wrap (x14 + 1)), A26, c27, A29, c30, (hF.keep ⟨rfl, rfl, rfl, rfl, rfl, trivial⟩), hS, h⟩
     ·
      refine wb <| wq <| wg ?_
      obtain ⟨x33, hx34, h⟩ := bindS h
      obtain ⟨p35, cs36, hA37, hat38⟩ := SlR.at (hS.fc (i := 1) rfl) hx34
      obtain ⟨A39, c40, rfl, hs41⟩ := hat38.2.2.2
      have hS := hS.addFact (f := fAt k_TMod (p35.add (x14.toNat * 31)) (TMod.enc x33 A39 c40) x33) hat38
      have hS := hS.addFact (f := fSl k_TAct A39 c40 x33.Acts) hs41
      refine sv (v_idx hF rfl hA37 rfl psl32 hx34) hF rfl fun a hF => sv (v_load (cs := TMod.enc x33 A39 c40) hF rfl pa57 ps57 (hS.pc (i := 1) rfl)) hF rfl fun a hF => al hF hS pz57 rfl rfl fun b42 a W hF hS => sq_store (o := 0) (vs := TMod.enc x33 A39 c40) (cs' := TMod.enc x33 A39 c40) hF hS rfl rfl (i := 0) rfl rfl rfl ps57 (TMod.enc_one _ _ _) (bl rfl) rfl fun W hS => nl <| tn <| wq <| wg <| mv hF rfl rfl fun a hF => sv (v_load (cs := TMod.enc x33 A39 c40) hF rfl pa57 ps57 (hS.bc (i := 0) rfl)) hF rfl fun a hF => ?_
      obtain ⟨x43, hx44, h⟩ := bindS h
      refine sq_call hF pc122 rfl (by decide) (ok_undo_Inverse k (hS.enter ⟨⟨2, rfl⟩, ⟨0, rfl⟩, trivial⟩) hx44) (fun v W hR a hF => ?_)
      obtain ⟨A45, c46, A47, c48, A49, c50, rfl, hT51⟩ := hR
      have hS := hS.join hT51
      refine mv hF rfl rfl fun a hF => sv (v_extract hF rfl rfl) hF rfl fun a hF => sv (v_extract hF rfl rfl) hF rfl fun a hF => sv (v_extract hF rfl rfl) hF rfl fun a hF => al hF hS pz227 rfl rfl fun b52 a W hF hS => av hF rfl rfl fun a hF => sq_store (o := 0) (vs := Tundo_Patch.enc x43.2.1 A47 c48 A49 c50) (cs' := Tundo_Patch.enc x43.2.1 A47 c48 A49 c50) hF hS rfl rfl (i := 0) rfl rfl rfl ps227 (Tundo_Patch.enc_one _ _ _ _ _) (bl rfl) rfl fun W hS => av hF rfl rfl fun a hF => nl <| tn <| wq <| wq <| wg <| mv hF rfl rfl fun a hF => sv (v_neq hF rfl rfl) hF rfl fun a hF => nl <| tn <| wi hF rfl h (fun h => ?_) fun h => ?_
      ·
       refine wp_exit <| tx <| bh ?_
       obtain rfl := si h
       exact then_j ⟨x8, x11, A9, c10, A12, c13, rfl, (hF.keep ⟨rfl, rfl, rfl, rfl, rfl, trivial⟩), (hS.keep sn sl ⟨⟨5, rfl⟩, ⟨6, rfl⟩, trivial⟩)⟩
      ·
       refine sk <| tn <| wg <| mv hF rfl rfl fun a hF => mv hF rfl rfl fun a hF => sv (v_load (cs := Tundo_Patch.enc x43.2.1 A47 c48 A49 c50) hF rfl pa227 ps227 (hS.bc (i := 0) rfl)) hF rfl fun a hF => sq_buildSlice (κ := k_Tundo_Patch) (xs := [.tmp 29]) (ys := [x43.2.1]) hF hS rfl rfl rfl (Els.cons ⟨A47, c48, A49, c50, rfl, (hS.fc (i := 1) rfl), (hS.fc (i := 2) rfl)⟩ (Els.nil _ _ _)) rfl psl141 pz227 rfl (by decide) (by decide) (by decide) (fun A54 c55 a W hF hS => ?_)
       obtain ⟨x58, hx59, h⟩ := bindS h
       refine sq_append (ys := ([x43.2.1])) hF hS (i := 1) rfl rfl rfl (hS.rw_ (i := 0) rfl).src psl141 pb227 pz227 rfl (by decide) (by decide) hx59 (by decide) (fun A56 c57 a W hF hS => ?_)
       refine av hF rfl rfl fun a hF => av hF rfl rfl fun a hF => nl <| bn ?_
       obtain rfl := si h
       exact then_j ⟨x43.1, x58, A45, c46, A56, c57, rfl, (hF.keep ⟨rfl, rfl, rfl, rfl, rfl, trivial⟩), (hS.keep sn (.cons _ sl) ⟨⟨0, rfl⟩, ⟨6, rfl⟩, trivial⟩)⟩
    ·
     refine wp_exit <| tx <| tx <| bh ?_
     obtain rfl := si h
     exact then_j ⟨x8, x11, A9, c10, A12, c13, rfl, (hF.keep ⟨rfl, rfl, trivial⟩), (hS.keep sl sl ⟨⟨0, rfl⟩, trivial⟩)⟩

theorem ok_shadow_Shadow_Table (k : Nat) {M : Nat → Prop} {w0 : World} {bs : List Box} {rs : List Row} {fs : List Fact} {W0 : World} {bo : Nat} {u0 : Tshadow_Shadow} {A0_0 : Option Addr} {c0_0 : Nat} {A0_1 : Option Addr} {c0_1 : Nat} {u1 : Int} {o : (List TRule)} (hS : St M w0 (⟨bo, Tshadow_Shadow.enc u0 A0_0 c0_0 A0_1 c0_1, 134⟩ :: bs) (⟨(kSl k_TRule), 26, A0_0, c0_0, u0.base⟩ :: ⟨k_Tshadow_open, 140, A0_1, c0_1, u0.open_⟩ :: rs) (fs) W0) (h : shadow_Shadow_Table k u0 u1 = some o) :
    Calls Tryz.prog 17 #[.pointer (some (⟨bo, 0, none⟩)), .int .i64 (u1)] W0 fun e W' => ∃ v, e = .returned v ∧ (∃ (A59 : Option Addr) (c60 : Nat), v = .slice A59 ((o).length) c60 ∧ St M w0 (⟨bo, Tshadow_Shadow.enc u0 A0_0 c0_0 A0_1 c0_1, 134⟩ :: bs) (⟨k_TRule, 51, A59, c60, o⟩ :: ⟨(kSl k_TRule), 26, A0_0, c0_0, u0.base⟩ :: ⟨k_Tshadow_open, 140, A0_1, c0_1, u0.open_⟩ :: rs) (fs) W') := by
  unfold shadow_Shadow_Table at h
  refine cst Tryz.func17 rfl rfl rfl fun a hF => wq <| wg <| av hF rfl rfl fun a hF => nl <| tn <| wq <| wq <| wg <| mv hF rfl rfl fun a hF => sv (v_eqP hF rfl rfl pu24) hF rfl fun a hF => mv hF rfl rfl fun a hF => gor 2 2 10 ((decide (u1 < 0))) hF rfl rfl rfl rfl rfl (fun _ => ?_) (fun a hF => ?_)
  ·
   exact mv hF rfl rfl fun a hF => sv (v_lss hF rfl rfl) hF rfl fun a hF => gq 2 hF rfl rfl rfl
  ·
   refine mv hF rfl rfl fun a hF => gor 7 6 14 ((decide ((u0.base.length : Int) ≤ u1))) hF rfl rfl rfl rfl rfl (fun _ => ?_) (fun a hF => ?_)
   ·
    exact mv hF rfl rfl fun a hF => mv hF rfl rfl fun a hF => sv (v_nilCheck hF rfl) hF rfl fun a hF => fv hF rfl pf134_0 rfl fun a hF => lv hF rfl pa42 (hS.bc (i := 0) rfl) rfl rfl rfl fun a hF => sv (v_len hF rfl pu42) hF rfl fun a hF => sv (v_geq hF rfl rfl) hF rfl fun a hF => gq 7 hF rfl rfl rfl
   ·
    refine nl <| tn <| wi hF rfl h (fun h => ?_) fun h => ?_
    ·
     refine wq <| wg <| av hF rfl rfl fun a hF => nl <| tn <| rt <| tr ?_
     have hS := hS.addNil k_TRule 51
     obtain rfl := si h
     exact ret1 hF rfl (rv_tmp hF rfl) ⟨_, rfl, none, 0, rfl, hS⟩
    ·
     refine sk <| tn <| wq <| wg <| mv hF rfl rfl fun a hF => sv (v_nilCheck hF rfl) hF rfl fun a hF => fv hF rfl pf134_0 rfl fun a hF => lv hF rfl pa42 (hS.bc (i := 0) rfl) rfl rfl rfl fun a hF => mv hF rfl rfl fun a hF => ?_
     obtain ⟨x4, hx5, h⟩ := bindS h
     obtain ⟨p6, cs7, hA8, hc10, hr11⟩ := Row.ok.at (hS.rw_ (i := 0) rfl) hx5
     obtain ⟨A12, c13, rfl, hs14⟩ := hr11
     have hS := hS.addFact (f := fSl k_TRule A12 c13 x4) hs14
     refine sv (v_idx hF rfl hA8 rfl psl42 hx5) hF rfl fun a hF => sv (v_load1 hF rfl pa26 hc10) hF rfl fun a hF => av hF rfl rfl fun a hF => nl <| tn <| wq <| wq <| wg <| mv hF rfl rfl fun a hF => sv (v_nilCheck hF rfl) hF rfl fun a hF => fv hF rfl pf134_1 rfl fun a hF => lv hF rfl pa132 (hS.bc (i := 0) rfl) rfl rfl rfl fun a hF => sv (v_len hF rfl pu132) hF rfl fun a hF => mv hF rfl rfl fun a hF => nl <| tn ?_
     obtain ⟨o26, h, hk27⟩ := bindS h
     refine wp_join (fun a W => ∃ (x23 : List TRule) (A24 : Option Addr) (c25 : Nat), x23 = o26 ∧ FH 51 [(5, .slice A24 ((x23).length) c25)] a ∧ St M w0 (⟨bo, Tshadow_Shadow.enc u0 A0_0 c0_0 A0_1 c0_1, 134⟩ :: bs) (⟨(kSl k_TRule), 26, A0_0, c0_0, u0.base⟩ :: ⟨k_Tshadow_open, 140, A0_1, c0_1, u0.open_⟩ :: rs) ((fSl k_TRule A24 c25 x23) :: fs) W) (fun a W hJ => ?_) ?_
     ·
      obtain ⟨x23, A24, c25, rfl, hF, hS⟩ := hJ
      have h := hk27
      refine tn <| wq <| wg <| mv hF rfl rfl fun a hF => ?_
      obtain ⟨x28, hx29, h⟩ := bindS h
      refine sq_call hF pc56 rfl (by decide) (ok_rule_Copy k (hS.enter ⟨⟨0, rfl⟩, trivial⟩) hx29) (fun v W hR a hF => ?_)
      obtain ⟨A30, c31, rfl, hT32⟩ := hR
      have hS := hS.join hT32
      refine av hF rfl rfl fun a hF => nl <| tn <| rt ?_
      obtain rfl := si h
      exact ret1 hF rfl (rv_tmp hF rfl) ⟨_, rfl, A30, c31, rfl, (hS.keepT [] (tl := fs) sl sl trivial (.cons _ sl))⟩
     ·
      refine wb <| wp_loop_fuel (I := fun m a W => ∃ (x19 : List TRule) (x22 : Int) (A20 : Option Addr) (c21 : Nat), FH 51 [(1, .int .i64 (u1)), (5, .slice A20 ((x19).length) c21), (33, .slice A0_1 ((u0.open_).length) c0_1), (34, .int .i64 ((u0.open_.length : Int))), (35, .int .i64 (x22))] a ∧ St M w0 (⟨bo, Tshadow_Shadow.enc u0 A0_0 c0_0 A0_1 c0_1, 134⟩ :: bs) (⟨(kSl k_TRule), 26, A0_0, c0_0, u0.base⟩ :: ⟨k_Tshadow_open, 140, A0_1, c0_1, u0.open_⟩ :: rs) ((fSl k_TRule A20 c21 x19) :: fs) W ∧ (shadow_Shadow_Table.l0 k u0 u1 m x19 x22) = some o26) ?_ (k := k) ⟨x4, 0, A12, c13, (hF.keep ⟨rfl, rfl, rfl, rfl, rfl, trivial⟩), hS, h⟩
      rintro m33 a W ⟨x19, x22, A20, c21, hF, hS, h⟩
      cases m33 with
      | zero => cases h
      | succ m33 =>
       rw [shadow_Shadow_Table.l0] at h
       refine wq <| wg <| sv (v_lss hF rfl rfl) hF rfl fun a hF => nl <| tn <| wq <| wi hF rfl h (fun h => ?_) fun h => ?_
       ·
        refine sk <| tn <| wq <| wb <| wq <| wg ?_
        obtain ⟨x35, hx36, h⟩ := bindS h
        obtain ⟨p37, cs38, hA39, hc41, hr42⟩ := Row.ok.at (hS.rw_ (i := 1) rfl) hx36
        obtain ⟨A43, c44, rfl, hs45⟩ := hr42
        have hS := hS.addFact (f := fSl k_TChange A43 c44 x35.list) hs45
        refine sv (v_idx hF rfl hA39 rfl psl132 hx36) hF rfl fun a hF => sv (v_load (cs := Tshadow_open.enc x35 A43 c44) hF rfl pa140 ps140 hc41) hF rfl fun a hF => al hF hS pz140 rfl rfl fun b46 a W hF hS => sq_store (o := 0) (vs := Tshadow_open.enc x35 A43 c44) (cs' := Tshadow_open.enc x35 A43 c44) hF hS rfl rfl (i := 0) rfl rfl rfl ps140 (Tshadow_open.enc_one _ _ _) (bl rfl) rfl fun W hS => nl <| tn <| wg <| mv hF rfl rfl fun a hF => fv hF rfl pf140_1 rfl fun a hF => lv hF rfl pa28 (hS.bc (i := 0) rfl) rfl rfl rfl fun a hF => mv hF rfl rfl fun a hF => ?_
        obtain ⟨x47, hx48, h⟩ := bindS h
        refine sq_call hF pc55 rfl (by decide) (ok_region_For k (u0 := x35.list) (A0_0 := A43) (c0_0 := c44) (hS.enter ⟨⟨0, rfl⟩, trivial⟩) hx48) (fun v W hR a hF => ?_)
        obtain ⟨A49, c50, rfl, hT51⟩ := hR
        have hS := hS.join hT51
        have hS := hS.freeze (i := 0) rfl (posB rfl)
        obtain ⟨x52, hx53, h⟩ := bindS h
        refine sq_call hF pc54 rfl (by decide) (ok_shadow_laid k (hS.enter ⟨⟨2, rfl⟩, ⟨0, rfl⟩, trivial⟩) hx53) (fun v W hR a hF => ?_)
        obtain ⟨A54, c55, A56, c57, rfl, hT58⟩ := hR
        have hS := hS.join hT58
        exact mv hF rfl rfl fun a hF => sv (v_extract hF rfl rfl) hF rfl fun a hF => sv (v_extract hF rfl rfl) hF rfl fun a hF => av hF rfl rfl fun a hF => nl <| bn <| tn <| wg <| sv (v_add hF rfl rfl) hF rfl fun a hF => mv hF rfl rfl fun a hF => nl <| then_j ⟨m33, Nat.lt_succ_self _, x52.1, (IntKind.i64.wrap (x22 + 1)), A54, c55, (hF.keep ⟨rfl, rfl, rfl, rfl, rfl, trivial⟩), (hS.keepT [fSl k_TRule A54 c55 x52.1] (tl := fs) (.cons _ sl) (.cons _ sl) ⟨⟨0, rfl⟩, trivial⟩ (.cons _ (.cons _ (.cons _ (.cons _ sl))))), h⟩
       ·
        refine wp_exit <| tx <| tx <| bh ?_
        obtain rfl := si h
        exact then_j ⟨x19, A20, c21, rfl, (hF.keep ⟨rfl, trivial⟩), hS⟩

theorem ok_slices_Delete_open {M : Nat → Prop} {w0 : World} {bs : List Box} {rs : List Row} {fs : List Fact} {W0 : World} {u0 : List Tshadow_open} {A0_0 : Option Addr} {c0_0 : Nat} {u1 u2 : Int} {o : List Tshadow_open} (hS : St M w0 bs (⟨k_Tshadow_open, 140, A0_0, c0_0, u0⟩ :: rs) fs W0) (h : slices_Delete_open u0 u1 u2 = some o) :
    Calls Tryz.prog 127 #[.slice A0_0 (u0).length c0_0, .int .i64 u1, .int .i64 u2] W0 fun e W' => ∃ v, e = .returned v ∧ ∃ (A : Option Addr) (c : Nat), v = .slice A (o).length c ∧ St M w0 bs (⟨k_Tshadow_open, 140, A, c, o⟩ :: rs) fs W' := by
  obtain ⟨k, m, rfl, rfl, hkm, hm, rfl⟩ := delO_of h
  have hcap := (hS.rw_ (i := 0) rfl).cap
  dsimp only at hcap
  have hl : (u0.take k ++ u0.drop m).length = k + (u0.length - m) := by rw [List.length_append, List.length_take, List.length_drop]; omega
  refine calls_start (args := [.slice A0_0 (u0).length c0_0, .int .i64 (k : Int), .int .i64 (m : Int)]) Tryz.func127 rfl rfl (Nat.le_of_ble_eq_true rfl) (fun a hF => ?_)
  refine wp_seq ?_
  refine wp_reg ?_
  refine sq_val (v_assign hF rfl) hF (by decide) (fun a hF => ?_)
  refine sq_nil ?_
  refine then_n ?_
  refine wp_seq ?_
  refine wp_reg ?_
  refine sq_val (v_move hF rfl) hF (by decide) (fun a hF => ?_)
  refine sq_val (v_move hF rfl) hF (by decide) (fun a hF => ?_)
  refine sq_val (v_move hF rfl) hF (by decide) (fun a hF => ?_)
  refine sq_val (v_move hF rfl) hF (by decide) (fun a hF => ?_)
  refine sq_val (v_len hF rfl pu132) hF (by decide) (fun a hF => ?_)
  obtain ⟨v13, hv13⟩ := v_cut3 (P := Tryz.prog) (W := W0) (T := 132) (x := .tmp 8) (y := .tmp 9) (z := .tmp 10) (w := .tmp 12) (m := u0.length) hF rfl rfl rfl rfl psl132 (by omega) (by omega) (by omega) hcap
  refine sq_val hv13 hF (by decide) (fun a hF => ?_)
  refine sq_nil ?_
  refine then_n ?_
  refine wp_seq ?_
  refine wp_seq ?_
  refine wp_reg ?_
  refine sq_val (v_move hF rfl) hF (by decide) (fun a hF => ?_)
  refine sq_val (v_move hF rfl) hF (by decide) (fun a hF => ?_)
  refine sq_val (v_eql hF rfl rfl) hF (by decide) (fun a hF => ?_)
  refine sq_nil ?_
  refine then_n ?_
  refine wp_if hF rfl (fun he => ?_) (fun he => ?_)
  · refine wp_seq ?_
    refine wp_reg ?_
    refine sq_val (v_move hF rfl) hF (by decide) (fun a hF => ?_)
    refine sq_val (v_assign hF rfl) hF (by decide) (fun a hF => ?_)
    refine sq_nil ?_
    refine then_n ?_
    refine wp_ret ?_
    refine then_r ?_
    have e : k = m := by have := eq_of_beq he; omega
    subst e
    rw [List.take_append_drop]
    exact ret1 hF rfl (rv_tmp hF rfl) ⟨_, rfl, _, _, rfl, hS⟩
  refine wp_skip ?_
  refine then_n ?_
  refine wp_seq ?_
  refine wp_reg ?_
  refine sq_val (v_move hF rfl) hF (by decide) (fun a hF => ?_)
  refine sq_val (v_len hF rfl pu132) hF (by decide) (fun a hF => ?_)
  refine sq_val (v_assign hF rfl) hF (by decide) (fun a hF => ?_)
  refine sq_nil ?_
  refine then_n ?_
  refine wp_seq ?_
  refine wp_drawn (fun _ _ => True) (fun _ => false) rfl hS (fun W hB0 hS => ?_)
  refine e_val (listed' := #[true, false, false, false, false, false, false, false]) 0 rfl (by kernel_rfl) (by kernel_rfl) (fun _ _ _ h => h) (fun W => v_move hF rfl) hF (by decide) (fun a hF => ?_)
  refine e_val (listed' := #[true, true, false, false, false, false, false, false]) 1 rfl (by kernel_rfl) (by kernel_rfl) (fun _ _ _ h => h) (fun W => v_move hF rfl) hF (by decide) (fun a hF => ?_)
  refine e_val (listed' := #[true, true, true, false, false, false, false, false]) 2 rfl (by kernel_rfl) (by kernel_rfl) (fun _ _ _ h => h) (fun W => v_cut0 hF rfl rfl psl132 (Nat.le_trans hkm (Nat.le_trans hm hcap))) hF (by decide) (fun a hF => ?_)
  refine e_val (listed' := #[true, true, true, true, false, false, false, false]) 3 rfl (by kernel_rfl) (by kernel_rfl) (fun _ _ _ h => h) (fun W => v_move hF rfl) hF (by decide) (fun a hF => ?_)
  refine e_val (listed' := #[true, true, true, true, true, false, false, false]) 4 rfl (by kernel_rfl) (by kernel_rfl) (fun _ _ _ h => h) (fun W => v_move hF rfl) hF (by decide) (fun a hF => ?_)
  refine e_val (listed' := #[true, true, true, true, true, true, false, false]) 5 rfl (by kernel_rfl) (by kernel_rfl) (fun _ _ _ h => h) (fun W => v_view0 hF rfl rfl psl132 hm hcap) hF (by decide) (fun a hF => ?_)
  refine e_one (listed' := #[true, true, true, true, true, true, true, false]) 6 rfl (by kernel_rfl) (by kernel_rfl) ?_
  refine sq_delApp hF hS (i := 0) rfl rfl rfl psl132 hkm hm (by decide) (fun a W hF hS => ?_)
  refine sq_nil (then_j ⟨fun _ _ => trivial, ?_⟩)
  refine e_one (listed' := #[true, true, true, true, true, true, true, true]) 7 rfl (by kernel_rfl) (by kernel_rfl) ?_
  refine sq_val (v_assign hF rfl) hF (by decide) (fun a hF => ?_)
  refine sq_nil (then_j ⟨fun _ _ => trivial, ?_⟩)
  refine e_done (by kernel_rfl) ?_ _
  have hF : FH 33 [(0, .slice A0_0 (u0.take k ++ u0.drop m).length c0_0), (7, .int .i64 ((u0.length : Nat) : Int))] a := by
    rw [hl]; exact hF.keep ⟨rfl, rfl, trivial⟩
  have hle : (u0.take k ++ u0.drop m).length ≤ u0.length := by rw [hl]; omega
  refine then_n ?_
  refine wp_seq ?_
  refine wp_reg ?_
  refine sq_val (v_move hF rfl) hF (by decide) (fun a hF => ?_)
  refine sq_val (v_move hF rfl) hF (by decide) (fun a hF => ?_)
  refine sq_val (v_len hF rfl pu132) hF (by decide) (fun a hF => ?_)
  refine sq_val (v_move hF rfl) hF (by decide) (fun a hF => ?_)
  refine sq_val (v_cutM hF rfl rfl rfl psl132 hle hcap) hF (by decide) (fun a hF => ?_)
  refine sq_clearTail hF hS (i := 0) rfl rfl (by show _ + (u0.length - _) ≤ _; omega) psl132 pz140 rfl (Tshadow_open.enc_one _ _ _) (posB rfl) (fun W hS => ?_)
  refine sq_nil ?_
  refine then_n ?_
  refine wp_seq ?_
  refine wp_reg ?_
  refine sq_val (v_move hF rfl) hF (by decide) (fun a hF => ?_)
  refine sq_val (v_assign hF rfl) hF (by decide) (fun a hF => ?_)
  refine sq_nil ?_
  refine then_n ?_
  refine wp_ret ?_
  exact ret1 hF rfl (rv_tmp hF rfl) ⟨_, rfl, _, _, rfl, hS⟩


theorem ok_shadow_Shadow_end (k : Nat) {M : Nat → Prop} {w0 : World} {bs : List Box} {rs : List Row} {fs : List Fact} {W0 : World} {bo : Nat} {u0 : Tshadow_Shadow} {A0_0 : Option Addr} {c0_0 : Nat} {A0_1 : Option Addr} {c0_1 : Nat} {u1 : Int} {o : Tshadow_Shadow × Tshadow_open × Int} (hS : St M w0 (⟨bo, Tshadow_Shadow.enc u0 A0_0 c0_0 A0_1 c0_1, 134⟩ :: bs) (⟨(kSl k_TRule), 26, A0_0, c0_0, u0.base⟩ :: ⟨k_Tshadow_open, 140, A0_1, c0_1, u0.open_⟩ :: rs) (fs) W0) (h : shadow_Shadow_end k u0 u1 = some o) :
    Calls Tryz.prog 57 #[.pointer (some (⟨bo, 0, none⟩)), .int .i64 (u1)] W0 fun e W' => ∃ v, e = .returned v ∧ (∃ (A22 : Option Addr) (c23 : Nat) (A24 : Option Addr) (c25 : Nat) (A26 : Option Addr) (c27 : Nat), v = .tuple #[.agg (Tshadow_open.enc o.2.1 A22 c23).toArray, .int .i64 (o.2.2)] ∧ St M w0 (⟨bo, Tshadow_Shadow.enc o.1 A24 c25 A26 c27, 134⟩ :: bs) (⟨(kSl k_TRule), 26, A24, c25, o.1.base⟩ :: ⟨k_Tshadow_open, 140, A26, c27, o.1.open_⟩ :: rs) ((fSl k_TChange A22 c23 o.2.1.list) :: fs) W') := by
  unfold shadow_Shadow_end at h
  refine cst Tryz.func57 rfl rfl rfl fun a hF => wq <| wg <| al hF hS pz140 rfl rfl fun b1 a W hF hS => av hF rfl rfl fun a hF => nl <| tn <| wq <| wq <| wg <| mv hF rfl rfl fun a hF => sv (v_eqP hF rfl rfl pu24) hF rfl fun a hF => nl <| tn <| wi hF rfl h (fun h => ?_) fun h => ?_
  ·
   refine wq <| wg <| sv (v_build (parts := []) (out := Tshadow_open.enc Tshadow_open.zero none 0) hF rfl rfl pz140 rfl pp140 rfl) hF rfl fun a hF => sq_store (o := 0) (vs := Tshadow_open.enc Tshadow_open.zero none 0) (cs' := Tshadow_open.enc Tshadow_open.zero none 0) hF hS rfl rfl (i := 0) rfl rfl rfl ps140 (Tshadow_open.enc_one _ _ _) (bl rfl) rfl fun W hS => av hF rfl rfl fun a hF => nl <| tn <| rt <| tr ?_
   have hS := hS.addFact (f := fSl k_TChange none 0 []) (SlR.nil _ _ _)
   obtain rfl := si h
   exact ret2 hF rfl (rv_cell (cs := Tshadow_open.enc Tshadow_open.zero none 0) hF rfl pa140 ps140 (hS.bc (i := 0) rfl)) (rv_tmp hF rfl) ⟨_, rfl, none, 0, A0_0, c0_0, A0_1, c0_1, rfl, (hS.keepT [fSl k_TChange none 0 []] (tl := fs) (.cons _ sl) sl ⟨⟨0, rfl⟩, trivial⟩ (.cons _ sl))⟩
  ·
   refine sk <| tn <| wq <| wg <| mv hF rfl rfl fun a hF => mv hF rfl rfl fun a hF => ?_
   have hS := hS.perm (.trans (.swap _ _ _) (List.Perm.refl _)) (List.Perm.refl _)
   obtain ⟨x3, hx4, h⟩ := bindS h
   refine sq_call hF pc49 rfl (by decide) (ok_shadow_Shadow_find k hS hx4) (fun v W hR a hF => ?_)
   obtain ⟨rfl, hS⟩ := hR
   refine av hF rfl rfl fun a hF => nl <| tn <| wq <| wq <| wg <| mv hF rfl rfl fun a hF => sv (v_lss hF rfl rfl) hF rfl fun a hF => nl <| tn <| wi hF rfl h (fun h => ?_) fun h => ?_
   ·
    refine wq <| wg <| sv (v_build (parts := []) (out := Tshadow_open.enc Tshadow_open.zero none 0) hF rfl rfl pz140 rfl pp140 rfl) hF rfl fun a hF => sq_store (o := 0) (vs := Tshadow_open.enc Tshadow_open.zero none 0) (cs' := Tshadow_open.enc Tshadow_open.zero none 0) hF hS rfl rfl (i := 1) rfl rfl rfl ps140 (Tshadow_open.enc_one _ _ _) (bl rfl) rfl fun W hS => av hF rfl rfl fun a hF => nl <| tn <| rt <| tr ?_
    have hS := hS.addFact (f := fSl k_TChange none 0 []) (SlR.nil _ _ _)
    obtain rfl := si h
    exact ret2 hF rfl (rv_cell (cs := Tshadow_open.enc Tshadow_open.zero none 0) hF rfl pa140 ps140 (hS.bc (i := 1) rfl)) (rv_tmp hF rfl) ⟨_, rfl, none, 0, A0_0, c0_0, A0_1, c0_1, rfl, (hS.keepT [fSl k_TChange none 0 []] (tl := fs) (.cons_cons _ (.cons _ sl)) sl ⟨⟨0, rfl⟩, trivial⟩ (.cons _ sl))⟩
   ·
    refine sk <| tn <| wq <| wg <| mv hF rfl rfl fun a hF => sv (v_nilCheck hF rfl) hF rfl fun a hF => fv hF rfl pf134_1 rfl fun a hF => lv hF rfl pa132 (hS.bc (i := 0) rfl) rfl rfl rfl fun a hF => mv hF rfl rfl fun a hF => ?_
    obtain ⟨x6, hx7, h⟩ := bindS h
    obtain ⟨p8, cs9, hA10, hc12, hr13⟩ := Row.ok.at (hS.rw_ (i := 1) rfl) hx7
    obtain ⟨A14, c15, rfl, hs16⟩ := hr13
    have hS := hS.addFact (f := fSl k_TChange A14 c15 x6.list) hs16
    refine sv (v_idx hF rfl hA10 rfl psl132 hx7) hF rfl fun a hF => sv (v_load (cs := Tshadow_open.enc x6 A14 c15) hF rfl pa140 ps140 hc12) hF rfl fun a hF => al hF hS pz140 rfl rfl fun b17 a W hF hS => sq_store (o := 0) (vs := Tshadow_open.enc x6 A14 c15) (cs' := Tshadow_open.enc x6 A14 c15) hF hS rfl rfl (i := 0) rfl rfl rfl ps140 (Tshadow_open.enc_one _ _ _) (bl rfl) rfl fun W hS => nl <| tn <| wq <| wg <| mv hF rfl rfl fun a hF => mv hF rfl rfl fun a hF => sv (v_nilCheck hF rfl) hF rfl fun a hF => fv hF rfl pf134_1 rfl fun a hF => lv hF rfl pa132 (hS.bc (i := 1) rfl) rfl rfl rfl fun a hF => mv hF rfl rfl fun a hF => mv hF rfl rfl fun a hF => sv (v_add hF rfl rfl) hF rfl fun a hF => ?_
    have hS := hS.perm (List.Perm.refl _) (.trans (.swap _ _ _) (List.Perm.refl _))
    obtain ⟨x18, hx19, h⟩ := bindS h
    refine sq_call hF pc127 rfl (by decide) (ok_slices_Delete_open hS hx19) (fun v W hR a hF => ?_)
    obtain ⟨A20, c21, rfl, hS⟩ := hR
    refine sv (v_nilCheck hF rfl) hF rfl fun a hF => fv hF rfl pf134_1 rfl fun a hF => sq_store (o := 1) (vs := [.slice A20 ((x18).length) c21]) (cs' := Tshadow_Shadow.enc (Tshadow_Shadow.setopen u0 x18) A0_0 c0_0 A20 c21) hF hS rfl rfl (i := 1) rfl rfl rfl ps132 (one1 rfl) (bl rfl) rfl fun W hS => nl <| tn <| wq <| wg <| sv (v_load (cs := Tshadow_open.enc x6 A14 c15) hF rfl pa140 ps140 (hS.bc (i := 0) rfl)) hF rfl fun a hF => sq_store (o := 0) (vs := Tshadow_open.enc x6 A14 c15) (cs' := Tshadow_open.enc x6 A14 c15) hF hS rfl rfl (i := 2) rfl rfl rfl ps140 (Tshadow_open.enc_one _ _ _) (bl rfl) rfl fun W hS => av hF rfl rfl fun a hF => nl <| tn <| rt ?_
    obtain rfl := si h
    have hS := hS.perm (List.Perm.refl _) (.trans (.swap _ _ _) (List.Perm.refl _))
    exact ret2 hF rfl (rv_cell (cs := Tshadow_open.enc x6 A14 c15) hF rfl pa140 ps140 (hS.bc (i := 2) rfl)) (rv_tmp hF rfl) ⟨_, rfl, A14, c15, A0_0, c0_0, A20, c21, rfl, (hS.keepT [fSl k_TChange A14 c15 x6.list] (tl := fs) (.cons _ (.cons_cons _ (.cons _ sl))) sl ⟨⟨0, rfl⟩, trivial⟩ (.cons _ sl))⟩

theorem ok_shadow_Shadow_Abort (k : Nat) {M : Nat → Prop} {w0 : World} {bs : List Box} {rs : List Row} {fs : List Fact} {W0 : World} {bo : Nat} {u0 : Tshadow_Shadow} {A0_0 : Option Addr} {c0_0 : Nat} {A0_1 : Option Addr} {c0_1 : Nat} {u1 : Int} {o : Tshadow_Shadow × Int} (hS : St M w0 (⟨bo, Tshadow_Shadow.enc u0 A0_0 c0_0 A0_1 c0_1, 134⟩ :: bs) (⟨(kSl k_TRule), 26, A0_0, c0_0, u0.base⟩ :: ⟨k_Tshadow_open, 140, A0_1, c0_1, u0.open_⟩ :: rs) (fs) W0) (h : shadow_Shadow_Abort k u0 u1 = some o) :
    Calls Tryz.prog 21 #[.pointer (some (⟨bo, 0, none⟩)), .int .i64 (u1)] W0 fun e W' => ∃ v, e = .returned v ∧ (∃ (A10 : Option Addr) (c11 : Nat) (A12 : Option Addr) (c13 : Nat), v = .int .i64 (o.2) ∧ St M w0 (⟨bo, Tshadow_Shadow.enc o.1 A10 c11 A12 c13, 134⟩ :: bs) (⟨(kSl k_TRule), 26, A10, c11, o.1.base⟩ :: ⟨k_Tshadow_open, 140, A12, c13, o.1.open_⟩ :: rs) (fs) W') := by
  unfold shadow_Shadow_Abort at h
  refine cst Tryz.func21 rfl rfl rfl fun a hF => wq <| wg <| av hF rfl rfl fun a hF => nl <| tn <| wq <| wg <| mv hF rfl rfl fun a hF => mv hF rfl rfl fun a hF => ?_
  obtain ⟨x1, hx2, h⟩ := bindS h
  refine sq_call hF pc57 rfl (by decide) (ok_shadow_Shadow_end k hS hx2) (fun v W hR a hF => ?_)
  obtain ⟨A3, c4, A5, c6, A7, c8, rfl, hS⟩ := hR
  refine mv hF rfl rfl fun a hF => sv (v_extract hF rfl rfl) hF rfl fun a hF => sv (v_extract hF rfl rfl) hF rfl fun a hF => al hF hS pz140 rfl rfl fun b9 a W hF hS => sq_store (o := 0) (vs := Tshadow_open.enc x1.2.1 A3 c4) (cs' := Tshadow_open.enc x1.2.1 A3 c4) hF hS rfl rfl (i := 0) rfl rfl rfl ps140 (Tshadow_open.enc_one _ _ _) (bl rfl) rfl fun W hS => av hF rfl rfl fun a hF => nl <| tn <| wq <| wg <| mv hF rfl rfl fun a hF => av hF rfl rfl fun a hF => nl <| tn <| rt ?_
  obtain rfl := si h
  exact ret1 hF rfl (rv_tmp hF rfl) ⟨_, rfl, A5, c6, A7, c8, rfl, (hS.keepT [] (tl := fs) (.cons _ sl) sl trivial (.cons _ sl))⟩

theorem ok_law22_answers (k : Nat) {M : Nat → Prop} {w0 : World}  {o : Bool} (hS : St M w0 [] [] [] w0) (h : law22_answers k = some o) :
    Calls Tryz.prog 11 #[] w0 fun e W' => ∃ v, e = .returned v ∧ (v = .bool (o) ∧ St M w0 [] [] [] W') := by
  unfold law22_answers at h
  refine cst Tryz.func11 rfl rfl rfl fun a hF => wq <| wg <| av hF rfl rfl fun a hF => nl <| tn <| wq <| wg ?_
  obtain ⟨x1, hx2, h⟩ := bindS h
  refine sq_call hF pc12 rfl (by decide) (ok_shadow_New (hS.enter trivial) hx2) (fun v W hR a hF => ?_)
  obtain ⟨b3, A4, c5, A6, c7, rfl, hT8⟩ := hR
  have hS := hS.joinB hT8
  refine av hF rfl rfl fun a hF => nl <| tn <| wq <| wg <| sv (v_build (parts := [(0, .const (.int .i64 1)), (2, .const (.int .i64 3))]) (out := TMod.enc ({ Kind := 1, Match := TCube.zero, Prio := 3, Acts := [], Idle := 0, Hard := 0, Owner := 0, Check := false } : TMod) none 0) hF rfl rfl pz57 rfl pp57 rfl) hF rfl fun a hF => sv (v_build (parts := [(1, .tmp 6)]) (out := TChange.enc ({ Unit := 0, Mod := ({ Kind := 1, Match := TCube.zero, Prio := 3, Acts := [], Idle := 0, Hard := 0, Owner := 0, Check := false } : TMod) } : TChange) none 0) hF rfl rfl pz59 rfl pp59 rfl) hF rfl fun a hF => ?_
  have hS := hS.addFact (f := fSl k_TAct none 0 []) (SlR.nil _ _ _)
  refine sq_buildSlice (κ := k_TChange) (xs := [.tmp 7]) (ys := [({ Unit := 0, Mod := ({ Kind := 1, Match := TCube.zero, Prio := 3, Acts := [], Idle := 0, Hard := 0, Owner := 0, Check := false } : TMod) } : TChange)]) hF hS rfl rfl rfl (Els.cons ⟨none, 0, rfl, (hS.fc (i := 0) rfl)⟩ (Els.nil _ _ _)) rfl psl28 pz59 rfl (by decide) (by decide) (by decide) (fun A9 c10 a W hF hS => ?_)
  refine av hF rfl rfl fun a hF => nl <| tn <| wq <| wg <| mv hF rfl rfl fun a hF => mv hF rfl rfl fun a hF => ?_
  have hS := hS.freeze (i := 0) rfl (posB rfl)
  have hS := hS.addFact (f := fSl k_TChange A9 c10 ([({ Unit := 0, Mod := ({ Kind := 1, Match := TCube.zero, Prio := 3, Acts := [], Idle := 0, Hard := 0, Owner := 0, Check := false } : TMod) } : TChange)])) (hS.fc (i := 0) rfl)
  obtain ⟨x11, hx12, h⟩ := bindS h
  refine sq_call hF pc13 rfl (by decide) (ok_shadow_Shadow_Begin k hS hx12) (fun v W hR a hF => ?_)
  obtain ⟨A13, c14, A15, c16, rfl, hS⟩ := hR
  refine mv hF rfl rfl fun a hF => mv hF rfl rfl fun a hF => ?_
  have hS := hS.addFact (f := fSl k_TChange A9 c10 ([({ Unit := 0, Mod := ({ Kind := 1, Match := TCube.zero, Prio := 3, Acts := [], Idle := 0, Hard := 0, Owner := 0, Check := false } : TMod) } : TChange)])) (hS.fc (i := 0) rfl)
  obtain ⟨x17, hx18, h⟩ := bindS h
  refine sq_call hF pc13 rfl (by decide) (ok_shadow_Shadow_Begin k hS hx18) (fun v W hR a hF => ?_)
  obtain ⟨A19, c20, A21, c22, rfl, hS⟩ := hR
  refine av hF rfl rfl fun a hF => av hF rfl rfl fun a hF => nl <| tn <| wq <| wg <| mv hF rfl rfl fun a hF => sv (v_eql hF rfl rfl) hF rfl fun a hF => mv hF rfl rfl fun a hF => gand 2 2 17 ((x17.2 == 5)) hF rfl rfl rfl rfl rfl (fun _ => ?_) (fun a hF => ?_)
  ·
   exact mv hF rfl rfl fun a hF => sv (v_eql hF rfl rfl) hF rfl fun a hF => gq 2 hF rfl rfl rfl
  ·
   refine mv hF rfl rfl fun a hF => gandB 4 6 21 hF hS h rfl rfl rfl rfl rfl (fun r26 h => ?_) (fun x25 a W h hF hS => ?_)
   ·
    refine mv hF rfl rfl fun a hF => ?_
    obtain ⟨x27, hx28, h⟩ := bindS h
    refine sq_call hF pc17 rfl (by decide) (ok_shadow_Shadow_Table k hS hx28) (fun v W hR a hF => ?_)
    obtain ⟨A29, c30, rfl, hS⟩ := hR
    refine sv (v_len hF rfl pu26) hF rfl fun a hF => sv (v_eql hF rfl rfl) hF rfl fun a hF => ?_
    obtain rfl := si h
    exact gs 4 hF (hS.keep sl (.cons _ sl) ⟨⟨0, rfl⟩, ⟨1, rfl⟩, trivial⟩) rfl rfl rfl
   ·
    refine mv hF rfl rfl fun a hF => ?_
    obtain ⟨o38, h, hk39⟩ := bindS h
    refine sq_cut 4 (fun a W => ∃ (x32 : Tshadow_Shadow) (x37 : Bool) (A33 : Option Addr) (c34 : Nat) (A35 : Option Addr) (c36 : Nat), (x32, x37) = o38 ∧ FH 38 [(1, .pointer (some (⟨b3, 0, none⟩))), (31, .bool (x37))] a ∧ St M w0 [⟨b3, Tshadow_Shadow.enc x32 A33 c34 A35 c36, 134⟩] [⟨(kSl k_TRule), 26, A33, c34, x32.base⟩, ⟨k_Tshadow_open, 140, A35, c36, x32.open_⟩] [] W) (fun a W hJ => ?_) ?_
    ·
     obtain ⟨x32, x37, A33, c34, A35, c36, rfl, hF, hS⟩ := hJ
     have h := hk39
     dsimp only at h
     refine mv hF rfl rfl fun a hF => gandB 4 17 32 hF hS h rfl rfl rfl rfl rfl (fun r48 h => ?_) (fun x47 a W h hF hS => ?_)
     ·
      refine mv hF rfl rfl fun a hF => ?_
      obtain ⟨x49, hx50, h⟩ := bindS h
      refine sq_call hF pc17 rfl (by decide) (ok_shadow_Shadow_Table k hS hx50) (fun v W hR a hF => ?_)
      obtain ⟨A51, c52, rfl, hS⟩ := hR
      refine sv (v_len hF rfl pu26) hF rfl fun a hF => sv (v_eql hF rfl rfl) hF rfl fun a hF => ?_
      obtain rfl := si h
      exact gs 4 hF (hS.keep sl (.cons _ sl) trivial) rfl rfl rfl
     ·
      refine av hF rfl rfl fun a hF => nl <| tn <| rt ?_
      obtain rfl := si h
      exact ret1 hF rfl (rv_tmp hF rfl) ⟨_, rfl, rfl, (hS.keep sn sn trivial)⟩
    ·
     by_cases he31 : x25 = true
     ·
      replace h := ifT he31 h
      refine sq_yes hF rfl rfl he31 <| mv hF rfl rfl fun a hF => sq_yes hF rfl rfl he31 ?_
      obtain ⟨x40, hx41, h⟩ := bindS h
      refine sq_call hF pc21 rfl (by decide) (ok_shadow_Shadow_Abort k hS hx41) (fun v W hR a hF => ?_)
      obtain ⟨A42, c43, A44, c45, rfl, hS⟩ := hR
      refine sq_yes hF rfl rfl he31 <| sv (v_eql hF rfl rfl) hF rfl fun a hF => sv (v_pick_t hF rfl he31 rfl) hF rfl fun a hF => ?_
      obtain rfl := si h
      exact sq_nil <| then_j ⟨x40.1, (x40.2 == 0), A42, c43, A44, c45, rfl, (hF.keep ⟨rfl, rfl, trivial⟩), (hS.keep sl sl trivial)⟩
     ·
      have he31 : x25 = false := nB he31
      replace h := ifF he31 h
      refine sq_no hF rfl rfl he31 (by rintro x ⟨⟩; decide) (fun a hF => ?_)
      refine sq_no hF rfl rfl he31 (by rintro x ⟨⟩; decide) (fun a hF => ?_)
      refine sq_no hF rfl rfl he31 (by rintro x ⟨⟩; decide) (fun a hF => ?_)
      refine sv (v_pick_f hF rfl he31 rfl) hF rfl fun a hF => ?_
      obtain rfl := si h
      exact sq_nil <| then_j ⟨x17.1, false, A19, c20, A21, c22, rfl, (hF.keep ⟨rfl, rfl, trivial⟩), (hS.keep sl sl trivial)⟩

theorem ok_ref19_For (k : Nat) {M : Nat → Prop} {w0 : World} {u0 : List TChange} {A0_0 : Option Addr} {c0_0 : Nat} {u1 : Int} {o : (List TMod)} (hS : St M w0 [] [] [fSl k_TChange A0_0 c0_0 u0] w0) (h : ref19_For k u0 u1 = some o) :
    Calls Tryz.prog 15 #[.slice A0_0 ((u0).length) c0_0, .int .i64 (u1)] w0 fun e W' => ∃ v, e = .returned v ∧ (∃ (A49 : Option Addr) (c50 : Nat), v = .slice A49 ((o).length) c50 ∧ St M w0 [] [⟨k_TMod, 57, A49, c50, o⟩] [] W') := by
  unfold ref19_For at h
  refine cst Tryz.func15 rfl rfl rfl fun a hF => wq <| wg <| av hF rfl rfl fun a hF => nl <| tn <| wq <| wg <| av hF rfl rfl fun a hF => nl <| tn <| wq <| wq <| wg <| av hF rfl rfl fun a hF => nl <| tn ?_
  obtain ⟨o12, h, hk13⟩ := bindS h
  refine wp_join (fun a W => ∃ (x9 : List TMod) (A10 : Option Addr) (c11 : Nat), x9 = o12 ∧ FH 29 [(5, .slice A10 ((x9).length) c11)] a ∧ St M w0 [] [⟨k_TMod, 57, A10, c11, x9⟩] [] W) (fun a W hJ => ?_) ?_
  ·
   obtain ⟨x9, A10, c11, rfl, hF, hS⟩ := hJ
   have h := hk13
   refine tn <| wq <| wg <| mv hF rfl rfl fun a hF => av hF rfl rfl fun a hF => nl <| tn <| rt ?_
   obtain rfl := si h
   exact ret1 hF rfl (rv_tmp hF rfl) ⟨_, rfl, A10, c11, rfl, hS⟩
  ·
   have hS := hS.addNil k_TMod 57
   refine wb <| wp_loop_fuel (I := fun m a W => ∃ (x5 : List TMod) (x8 : Int) (A6 : Option Addr) (c7 : Nat), FH 29 [(0, .slice A0_0 ((u0).length) c0_0), (1, .int .i64 (u1)), (5, .slice A6 ((x5).length) c7), (6, .int .i64 (x8))] a ∧ St M w0 [] [⟨k_TMod, 57, A6, c7, x5⟩] [fSl k_TChange A0_0 c0_0 u0] W ∧ (ref19_For.l0 k u0 u1 m x5 x8) = some o12) ?_ (k := k) ⟨([]), 0, none, 0, (hF.keep ⟨rfl, rfl, rfl, rfl, trivial⟩), hS, h⟩
   rintro m14 a W ⟨x5, x8, A6, c7, hF, hS, h⟩
   cases m14 with
   | zero => cases h
   | succ m14 =>
    rw [ref19_For.l0] at h
    refine wq <| wq <| wg <| mv hF rfl rfl fun a hF => mv hF rfl rfl fun a hF => sv (v_len hF rfl pu28) hF rfl fun a hF => sv (v_lss hF rfl rfl) hF rfl fun a hF => nl <| tn <| wi hF rfl h (fun h => ?_) fun h => ?_
    ·
     refine sk <| tn <| wq ?_
     obtain ⟨o19, h, hk20⟩ := bindS h
     refine wp_join (fun a W => ∃ (x16 : List TMod) (A17 : Option Addr) (c18 : Nat), x16 = o19 ∧ FH 29 [(0, .slice A0_0 ((u0).length) c0_0), (1, .int .i64 (u1)), (5, .slice A17 ((x16).length) c18), (6, .int .i64 (x8))] a ∧ St M w0 [] [⟨k_TMod, 57, A17, c18, x16⟩] [fSl k_TChange A0_0 c0_0 u0] W) (fun a W hJ => ?_) ?_
     ·
      obtain ⟨x16, A17, c18, rfl, hF, hS⟩ := hJ
      have h := hk20
      exact tn <| wg <| mv hF rfl rfl fun a hF => sv (v_add hF rfl rfl) hF rfl fun a hF => av hF rfl rfl fun a hF => nl <| then_j ⟨m14, Nat.lt_succ_self _, x16, (IntKind.i64.wrap (x8 + 1)), A17, c18, (hF.keep ⟨rfl, rfl, rfl, rfl, trivial⟩), hS, h⟩
     ·
      refine wb <| wq <| wg <| mv hF rfl rfl fun a hF => mv hF rfl rfl fun a hF => ?_
      obtain ⟨x21, hx22, h⟩ := bindS h
      obtain ⟨p23, cs24, hA25, hat26⟩ := SlR.at (hS.fc (i := 0) rfl) hx22
      obtain ⟨A27, c28, rfl, hs29⟩ := hat26.2.2.2
      have hS := hS.addFact (f := fAt k_TChange (p23.add (x8.toNat * 32)) (TChange.enc x21 A27 c28) x21) hat26
      have hS := hS.addFact (f := fSl k_TAct A27 c28 x21.Mod.Acts) hs29
      refine sv (v_idx hF rfl hA25 rfl psl28 hx22) hF rfl fun a hF => fv hF rfl pf59_0 rfl fun a hF => lv hF rfl pa3 (hS.pc (i := 1) rfl) rfl rfl rfl fun a hF => mv hF rfl rfl fun a hF => sv (v_eql hF rfl rfl) hF rfl fun a hF => nl <| tn ?_
      obtain ⟨o33, h, hk34⟩ := bindS h
      refine wp_join (fun a W => ∃ (x30 : List TMod) (A31 : Option Addr) (c32 : Nat), x30 = o33 ∧ FH 29 [(0, .slice A0_0 ((u0).length) c0_0), (1, .int .i64 (u1)), (5, .slice A31 ((x30).length) c32), (6, .int .i64 (x8))] a ∧ St M w0 [] [⟨k_TMod, 57, A31, c32, x30⟩] [fSl k_TChange A0_0 c0_0 u0] W) (fun a W hJ => ?_) ?_
      ·
       obtain ⟨x30, A31, c32, rfl, hF, hS⟩ := hJ
       have h := hk34
       refine bn ?_
       obtain rfl := si h
       exact then_j ⟨x30, A31, c32, rfl, (hF.keep ⟨rfl, rfl, rfl, rfl, trivial⟩), hS⟩
      ·
       refine wi hF rfl h (fun h => ?_) fun h => ?_
       ·
        refine wg <| mv hF rfl rfl fun a hF => mv hF rfl rfl fun a hF => mv hF rfl rfl fun a hF => ?_
        obtain ⟨p36, cs37, hA38, hat39⟩ := SlR.at (hS.fc (i := 2) rfl) hx22
        obtain ⟨A40, c41, rfl, hs42⟩ := hat39.2.2.2
        have hS := hS.addFact (f := fAt k_TChange (p36.add (x8.toNat * 32)) (TChange.enc x21 A40 c41) x21) hat39
        have hS := hS.addFact (f := fSl k_TAct A40 c41 x21.Mod.Acts) hs42
        refine sv (v_idx hF rfl hA38 rfl psl28 hx22) hF rfl fun a hF => fv hF rfl pf59_1 rfl fun a hF => sv (v_load (cs := TMod.enc x21.Mod A40 c41) hF rfl pa57 ps57 (cells_sub (vs := TMod.enc x21.Mod A40 c41) (hS.pc (i := 1) rfl) rfl rfl)) hF rfl fun a hF => sq_buildSlice (κ := k_TMod) (xs := [.tmp 25]) (ys := [x21.Mod]) hF hS rfl rfl rfl (Els.cons ⟨A40, c41, rfl, (hS.fc (i := 0) rfl)⟩ (Els.nil _ _ _)) rfl psl32 pz57 rfl (by decide) (by decide) (by decide) (fun A43 c44 a W hF hS => ?_)
        obtain ⟨x47, hx48, h⟩ := bindS h
        refine sq_append (ys := ([x21.Mod])) hF hS (i := 1) rfl rfl rfl (hS.rw_ (i := 0) rfl).src psl32 pb57 pz57 rfl (by decide) (by decide) hx48 (by decide) (fun A45 c46 a W hF hS => ?_)
        refine av hF rfl rfl fun a hF => nl ?_
        obtain rfl := si h
        exact then_j ⟨x47, A45, c46, rfl, (hF.keep ⟨rfl, rfl, rfl, rfl, trivial⟩), (hS.keep sl (.cons _ sl) ⟨⟨4, rfl⟩, trivial⟩)⟩
       ·
        refine sk ?_
        obtain rfl := si h
        exact then_j ⟨x5, A6, c7, rfl, (hF.keep ⟨rfl, rfl, rfl, rfl, trivial⟩), (hS.keep sl sl ⟨⟨2, rfl⟩, trivial⟩)⟩
    ·
     refine wp_exit <| tx <| tx <| bh ?_
     obtain rfl := si h
     exact then_j ⟨x5, A6, c7, rfl, (hF.keep ⟨rfl, trivial⟩), (hS.keep sl sl trivial)⟩

theorem ok_ref01_Size {M : Nat → Prop} {w0 : World} {u0 : Int} {o : Int} (hS : St M w0 [] [] [] w0) (h : ref01_Size u0 = some o) :
    Calls Tryz.prog 135 #[.int .i64 (u0)] w0 fun e W' => ∃ v, e = .returned v ∧ (v = .int .i64 (o) ∧ St M w0 [] [] [] W') := by
  unfold ref01_Size at h
  refine cst Tryz.func135 rfl rfl rfl fun a hF => wq <| wg <| av hF rfl rfl fun a hF => nl <| tn <| wq <| wq <| wg <| mv hF rfl rfl fun a hF => sv (v_lss hF rfl rfl) hF rfl fun a hF => mv hF rfl rfl fun a hF => gor 2 2 5 ((decide (11 < u0))) hF rfl rfl rfl rfl rfl (fun _ => ?_) (fun a hF => ?_)
  ·
   exact mv hF rfl rfl fun a hF => sv (v_gtr hF rfl rfl) hF rfl fun a hF => gq 2 hF rfl rfl rfl
  ·
   refine nl <| tn <| wi hF rfl h (fun h => ?_) fun h => ?_
   ·
    refine wq <| wg <| av hF rfl rfl fun a hF => nl <| tn <| rt <| tr ?_
    obtain rfl := si h
    exact ret1 hF rfl (rv_tmp hF rfl) ⟨_, rfl, rfl, hS⟩
   ·
    refine sk <| tn <| wq <| wg <| sq_buildSlice (κ := (kInt .i64)) (xs := [.const (.int .i64 16), .const (.int .i64 48), .const (.int .i64 48), .const (.int .i64 16), .const (.int .i64 12), .const (.int .i64 4), .const (.int .i64 32), .const (.int .i64 32), .const (.int .i64 8), .const (.int .i64 8), .const (.int .i64 12), .const (.int .i64 12)]) (ys := [16, 48, 48, 16, 12, 4, 32, 32, 8, 8, 12, 12]) hF hS rfl rfl rfl (Els.cons rfl (Els.cons rfl (Els.cons rfl (Els.cons rfl (Els.cons rfl (Els.cons rfl (Els.cons rfl (Els.cons rfl (Els.cons rfl (Els.cons rfl (Els.cons rfl (Els.cons rfl (Els.nil _ _ _))))))))))))) rfl psl38 pz3 rfl (by decide) (by decide) (by decide) (fun A3 c4 a W hF hS => ?_)
    refine mv hF rfl rfl fun a hF => ?_
    obtain ⟨x5, hx6, h⟩ := bindS h
    obtain ⟨p7, cs8, hA9, hc11, hr12⟩ := Row.ok.at (hS.rw_ (i := 0) rfl) hx6
    obtain rfl : cs8 = [.int .i64 (x5)] := hr12
    refine sv (v_idx hF rfl hA9 rfl psl38 hx6) hF rfl fun a hF => sv (v_load1 hF rfl pa3 hc11) hF rfl fun a hF => av hF rfl rfl fun a hF => nl <| tn <| rt ?_
    obtain rfl := si h
    exact ret1 hF rfl (rv_tmp hF rfl) ⟨_, rfl, rfl, (hS.keep sl sn trivial)⟩

theorem ok_ref01_Fits {M : Nat → Prop} {w0 : World} {u0 : Int} {u1 : Int} {o : Bool} (hS : St M w0 [] [] [] w0) (h : ref01_Fits u0 u1 = some o) :
    Calls Tryz.prog 134 #[.int .u64 (u0), .int .i64 (u1)] w0 fun e W' => ∃ v, e = .returned v ∧ (v = .bool (o) ∧ St M w0 [] [] [] W') := by
  unfold ref01_Fits at h
  refine cst Tryz.func134 rfl rfl rfl fun a hF => wq <| wg <| av hF rfl rfl fun a hF => nl <| tn <| wq <| wg <| mv hF rfl rfl fun a hF => mv hF rfl rfl fun a hF => sv (v_convI hF rfl pu3 pu235) hF rfl fun a hF => ?_
  obtain ⟨hb1, h⟩ := ifS h
  refine sv (v_shl hF rfl rfl hb1) hF rfl fun a hF => sv (v_lss hF rfl rfl) hF rfl fun a hF => av hF rfl rfl fun a hF => nl <| tn <| rt ?_
  obtain rfl := si h
  exact ret1 hF rfl (rv_tmp hF rfl) ⟨_, rfl, rfl, hS⟩

theorem ok_ref01_Head (k : Nat) {M : Nat → Prop} {w0 : World} {u0 : Arr 12} {o : Bool} (hS : St M w0 [] [] [] w0) (h : ref01_Head k u0 = some o) :
    Calls Tryz.prog 161 #[.agg (A12u64.enc u0).toArray] w0 fun e W' => ∃ v, e = .returned v ∧ (v = .bool (o) ∧ St M w0 [] [] [] W') := by
  unfold ref01_Head at h
  refine cst Tryz.func161 rfl rfl rfl fun a hF => wq <| wg <| bv hF hS rfl rfl rfl fun b1 a W hF hS => av hF rfl rfl fun a hF => nl <| tn <| wq <| wq <| wg <| av hF rfl rfl fun a hF => nl <| tn ?_
  obtain ⟨o4, h, hk5⟩ := bindS h
  refine wp_join (fun a W => Lo.brk () = o4 ∧ FH 15 [] a ∧ St M w0 [] [] [] W) (fun a W hJ => ?_) ?_
  ·
   obtain ⟨rfl, hF, hS⟩ := hJ
   have h := hk5
   dsimp only at h
   refine tn <| wq <| wg <| av hF rfl rfl fun a hF => nl <| tn <| rt ?_
   obtain rfl := si h
   exact ret1 hF rfl (rv_tmp hF rfl) ⟨_, rfl, rfl, hS⟩
  ·
   refine wb <| wp_loop_fuel (I := fun m a W => ∃ (x3 : Int), FH 15 [(1, .pointer (some (⟨b1, 0, none⟩))), (3, .int .i64 (x3))] a ∧ St M w0 [⟨b1, A12u64.enc u0, 46⟩] [] [] W ∧ (ref01_Head.l0 k u0 m x3) = some o4) ?_ (k := k) ⟨0, (hF.keep ⟨rfl, rfl, trivial⟩), hS, h⟩
   rintro m6 a W ⟨x3, hF, hS, h⟩
   cases m6 with
   | zero => cases h
   | succ m6 =>
    rw [ref01_Head.l0] at h
    refine wq <| wq <| wg <| mv hF rfl rfl fun a hF => sv (v_lss hF rfl rfl) hF rfl fun a hF => nl <| tn <| wi hF rfl h (fun h => ?_) fun h => ?_
    ·
     refine sk <| tn <| wq <| wb <| wq <| wp_quiet rfl (by kernel_rfl) hS <| qv (fun W hC => (v_move hF rfl)) hF rfl fun a hF => ?_
     obtain ⟨hb8, h⟩ := ifS h
     refine qv (fun W hC => (v_indexAddr hF rfl rfl par46 hb8.1 hb8.2)) hF rfl fun a hF => qv (fun W hC => (v_load1 hF rfl pa44 (cells_sub (vs := [.int .u64 ((u0.at x3))]) (hC.2.bc (i := 0) rfl) rfl (A12u64.get u0 x3 hb8.1 hb8.2)))) hF rfl fun a hF => qv (fun W hC => (v_move hF rfl)) hF rfl fun a hF => ?_
     obtain ⟨x9, hx10, h⟩ := bindS h
     refine qt_call hF pc135 rfl (by decide) (fun W hC => q_of hC (ok_ref01_Size (hC.2.enter trivial) hx10)) (fun a hF => ?_)
     obtain ⟨x11, hx12, h⟩ := bindS h
     refine qt_call hF pc134 rfl (by decide) (fun W hC => q_of hC (ok_ref01_Fits (hC.2.enter trivial) hx12)) (fun a hF => ?_)
     refine qv (fun W hC => (v_not hF rfl)) hF rfl fun a hF => qn ?_
     intro W hC
     have hS := hC.2
     refine tn <| wi hF rfl h (fun h => ?_) fun h => ?_
     ·
      refine wq <| wg <| av hF rfl rfl fun a hF => nl <| tn <| rt <| br <| tr <| tr <| br <| tr <| tr ?_
      obtain rfl := si h
      have h := hk5
      dsimp only at h
      obtain rfl := si h
      exact ret1 hF rfl (rv_tmp hF rfl) ⟨_, rfl, rfl, (hS.keep sn sl trivial)⟩
     ·
      exact sk <| bn <| tn <| wg <| mv hF rfl rfl fun a hF => sv (v_add hF rfl rfl) hF rfl fun a hF => av hF rfl rfl fun a hF => nl <| then_j ⟨m6, Nat.lt_succ_self _, (IntKind.i64.wrap (x3 + 1)), (hF.keep ⟨rfl, rfl, trivial⟩), hS, h⟩
    ·
     refine wp_exit <| tx <| tx <| bh ?_
     obtain rfl := si h
     exact then_j ⟨rfl, (hF.keep trivial), (hS.keep sn sl trivial)⟩

theorem ok_ref01_Bits (k : Nat) {M : Nat → Prop} {w0 : World} {u0 : Int} {u1 : Int} {o : (List Bool)} (hS : St M w0 [] [] [] w0) (h : ref01_Bits k u0 u1 = some o) :
    Calls Tryz.prog 202 #[.int .u64 (u0), .int .i64 (u1)] w0 fun e W' => ∃ v, e = .returned v ∧ (∃ (A23 : Option Addr) (c24 : Nat), v = .slice A23 ((o).length) c24 ∧ St M w0 [] [⟨kBool, 4, A23, c24, o⟩] [] W') := by
  unfold ref01_Bits at h
  refine cst Tryz.func202 rfl rfl rfl fun a hF => wq <| wg <| av hF rfl rfl fun a hF => nl <| tn <| wq <| wg <| av hF rfl rfl fun a hF => nl <| tn <| wq <| wq <| wg <| mv hF rfl rfl fun a hF => sv (v_sub hF rfl rfl) hF rfl fun a hF => av hF rfl rfl fun a hF => nl <| tn ?_
  obtain ⟨o12, h, hk13⟩ := bindS h
  refine wp_join (fun a W => ∃ (x9 : List Bool) (A10 : Option Addr) (c11 : Nat), x9 = o12 ∧ FH 23 [(5, .slice A10 ((x9).length) c11)] a ∧ St M w0 [] [⟨kBool, 4, A10, c11, x9⟩] [] W) (fun a W hJ => ?_) ?_
  ·
   obtain ⟨x9, A10, c11, rfl, hF, hS⟩ := hJ
   have h := hk13
   refine tn <| wq <| wg <| mv hF rfl rfl fun a hF => av hF rfl rfl fun a hF => nl <| tn <| rt ?_
   obtain rfl := si h
   exact ret1 hF rfl (rv_tmp hF rfl) ⟨_, rfl, A10, c11, rfl, hS⟩
  ·
   have hS := hS.addNil kBool 4
   refine wb <| wp_loop_fuel (I := fun m a W => ∃ (x5 : List Bool) (x8 : Int) (A6 : Option Addr) (c7 : Nat), FH 23 [(0, .int .u64 (u0)), (5, .slice A6 ((x5).length) c7), (6, .int .i64 (x8))] a ∧ St M w0 [] [⟨kBool, 4, A6, c7, x5⟩] [] W ∧ (ref01_Bits.l0 k u0 m x5 x8) = some o12) ?_ (k := k) ⟨([]), (IntKind.i64.wrap (u1 - 1)), none, 0, (hF.keep ⟨rfl, rfl, rfl, trivial⟩), hS, h⟩
   rintro m14 a W ⟨x5, x8, A6, c7, hF, hS, h⟩
   cases m14 with
   | zero => cases h
   | succ m14 =>
    rw [ref01_Bits.l0] at h
    refine wq <| wq <| wg <| mv hF rfl rfl fun a hF => sv (v_geq hF rfl rfl) hF rfl fun a hF => nl <| tn <| wi hF rfl h (fun h => ?_) fun h => ?_
    ·
     refine sk <| tn <| wq <| wb <| wg <| mv hF rfl rfl fun a hF => mv hF rfl rfl fun a hF => mv hF rfl rfl fun a hF => sv (v_convI hF rfl pu3 pu235) hF rfl fun a hF => ?_
     obtain ⟨hb16, h⟩ := ifS h
     refine sv (v_shr hF rfl rfl hb16) hF rfl fun a hF => sv (v_and hF rfl rfl) hF rfl fun a hF => sv (v_eql hF rfl rfl) hF rfl fun a hF => sq_buildSlice (κ := kBool) (xs := [.tmp 19]) (ys := [((bAnd .u64 (bShr .u64 u0 (IntKind.u64.wrap x8)) 1) == 1)]) hF hS rfl rfl rfl (Els.cons rfl (Els.nil _ _ _)) rfl psl298 pz4 rfl (by decide) (by decide) (by decide) (fun A17 c18 a W hF hS => ?_)
     obtain ⟨x21, hx22, h⟩ := bindS h
     refine sq_append (ys := ([((bAnd .u64 (bShr .u64 u0 (IntKind.u64.wrap x8)) 1) == 1)])) hF hS (i := 1) rfl rfl rfl (hS.rw_ (i := 0) rfl).src psl298 pb4 pz4 rfl (by decide) (by decide) hx22 (by decide) (fun A19 c20 a W hF hS => ?_)
     exact av hF rfl rfl fun a hF => nl <| bn <| tn <| wg <| mv hF rfl rfl fun a hF => sv (v_sub hF rfl rfl) hF rfl fun a hF => av hF rfl rfl fun a hF => nl <| then_j ⟨m14, Nat.lt_succ_self _, x21, (IntKind.i64.wrap (x8 - 1)), A19, c20, (hF.keep ⟨rfl, rfl, rfl, trivial⟩), (hS.keep sl (.cons _ sl) trivial), h⟩
    ·
     refine wp_exit <| tx <| tx <| bh ?_
     obtain rfl := si h
     exact then_j ⟨x5, A6, c7, rfl, (hF.keep ⟨rfl, trivial⟩), hS⟩

theorem ok_ref01_Text (k : Nat) {M : Nat → Prop} {w0 : World} {u0 : TCube} {o : ByteArray × Bool} (hS : St M w0 [] [] [] w0) (h : ref01_Text k u0 = some o) :
    Calls Tryz.prog 133 #[.agg (TCube.enc u0).toArray] w0 fun e W' => ∃ v, e = .returned v ∧ (v = .tuple #[.string (o.1), .bool (o.2)] ∧ St M w0 [] [] [] W') := by
  unfold ref01_Text at h
  refine cst Tryz.func133 rfl rfl rfl fun a hF => wq <| wg <| bv hF hS rfl rfl rfl fun b1 a W hF hS => av hF rfl rfl fun a hF => av hF rfl rfl fun a hF => nl <| tn <| wq <| wg <| av hF rfl rfl fun a hF => nl <| tn <| wq <| wg <| fv hF rfl pf48_1 rfl fun a hF => sv (v_load (cs := A12u64.enc u0.Care) hF rfl pa46 ps46 (cells_sub (vs := A12u64.enc u0.Care) (hS.bc (i := 0) rfl) rfl rfl)) hF rfl fun a hF => ?_
  obtain ⟨x2, hx3, h⟩ := bindS h
  refine cl hF pc161 rfl rfl (ok_ref01_Head k (hS.enter trivial) hx3) hS fun W a hF hS => av hF rfl rfl fun a hF => nl <| tn <| wq <| wq <| wg <| av hF rfl rfl fun a hF => nl <| tn ?_
  obtain ⟨o19, h, hk20⟩ := bindS h
  refine wp_join (fun a W => ∃ (x15 : List Int) (x18 : Bool) (A16 : Option Addr) (c17 : Nat), (x15, x18) = o19 ∧ FH 70 [(4, .slice A16 ((x15).length) c17), (5, .bool (x18))] a ∧ St M w0 [] [⟨(kInt .u8), 5, A16, c17, x15⟩] [] W) (fun a W hJ => ?_) ?_
  ·
   obtain ⟨x15, x18, A16, c17, rfl, hF, hS⟩ := hJ
   have h := hk20
   dsimp only at h
   refine tn <| wq <| wg <| mv hF rfl rfl fun a hF => sv (v_toStr hF rfl (hS.rw_ (i := 0) rfl).src pu99 pu5 pu9) hF rfl fun a hF => mv hF rfl rfl fun a hF => av hF rfl rfl fun a hF => av hF rfl rfl fun a hF => nl <| tn <| rt ?_
   obtain rfl := si h
   exact ret2 hF rfl (rv_tmp hF rfl) (rv_tmp hF rfl) ⟨_, rfl, rfl, (hS.keep sl sn trivial)⟩
  ·
   have hS := hS.addNil (kInt .u8) 5
   refine wb <| wp_loop_fuel (I := fun m a W => ∃ (x10 : List Int) (x13 : Bool) (x14 : Int) (A11 : Option Addr) (c12 : Nat), FH 70 [(1, .pointer (some (⟨b1, 0, none⟩))), (4, .slice A11 ((x10).length) c12), (5, .bool (x13)), (6, .int .i64 (x14))] a ∧ St M w0 [⟨b1, TCube.enc u0, 48⟩] [⟨(kInt .u8), 5, A11, c12, x10⟩] [] W ∧ (ref01_Text.l0 k u0 m x10 x13 x14) = some o19) ?_ (k := k) ⟨([]), x2, 0, none, 0, (hF.keep ⟨rfl, rfl, rfl, rfl, trivial⟩), hS, h⟩
   rintro m21 a W ⟨x10, x13, x14, A11, c12, hF, hS, h⟩
   cases m21 with
   | zero => cases h
   | succ m21 =>
    rw [ref01_Text.l0] at h
    refine wq <| wq <| wg <| mv hF rfl rfl fun a hF => sv (v_lss hF rfl rfl) hF rfl fun a hF => nl <| tn <| wi hF rfl h (fun h => ?_) fun h => ?_
    ·
     refine sk <| tn <| wq <| wb <| wq <| wq <| wp_quiet rfl (by kernel_rfl) hS <| qv (fun W hC => (v_move hF rfl)) hF rfl fun a hF => qv (fun W hC => (v_fieldAddr hF rfl pf48_0)) hF rfl fun a hF => ?_
     obtain ⟨hb23, h⟩ := ifS h
     refine qv (fun W hC => (v_indexAddr hF rfl rfl par46 hb23.1 hb23.2)) hF rfl fun a hF => qv (fun W hC => (v_load1 hF rfl pa44 (cells_sub (vs := [.int .u64 ((u0.Value.at x14))]) (hC.2.bc (i := 0) rfl) (add_add _ _ _) (TCube.get_Value u0 x14 hb23.1 hb23.2)))) hF rfl fun a hF => qv (fun W hC => (v_move hF rfl)) hF rfl fun a hF => qv (fun W hC => (v_fieldAddr hF rfl pf48_1)) hF rfl fun a hF => qv (fun W hC => (v_indexAddr hF rfl rfl par46 hb23.1 hb23.2)) hF rfl fun a hF => qv (fun W hC => (v_load1 hF rfl pa44 (cells_sub (vs := [.int .u64 ((u0.Care.at x14))]) (hC.2.bc (i := 0) rfl) (add_add _ _ _) (TCube.get_Care u0 x14 hb23.1 hb23.2)))) hF rfl fun a hF => qv (fun W hC => (v_andNot hF rfl rfl)) hF rfl fun a hF => qv (fun W hC => (v_neq hF rfl rfl)) hF rfl fun a hF => qn ?_
     intro W hC
     have hS := hC.2
     refine tn ?_
     obtain ⟨o25, h, hk26⟩ := bindS h
     refine wp_join (fun a W => ∃ (x24 : Bool), x24 = o25 ∧ FH 70 [(1, .pointer (some (⟨b1, 0, none⟩))), (4, .slice A11 ((x10).length) c12), (5, .bool (x24)), (6, .int .i64 (x14))] a ∧ St M w0 [⟨b1, TCube.enc u0, 48⟩] [⟨(kInt .u8), 5, A11, c12, x10⟩] [] W) (fun a W hJ => ?_) ?_
     ·
      obtain ⟨x24, rfl, hF, hS⟩ := hJ
      have h := hk26
      refine tn <| wq <| wp_drawn (QC M w0 [⟨b1, TCube.enc u0, 48⟩] [⟨(kInt .u8), 5, A11, c12, x10⟩] []) (fun _ => false) rfl hS (fun W hB0 hR0 => ?_)
      have hS := hR0
      refine eqc ⟨Bl.refl _ _, hS⟩ fun hQC => e_val' 0 rfl (by kernel_rfl) (fun W => (v_move hF rfl)) hF rfl fun a hF => e_val' 1 rfl (by kernel_rfl) (fun W => (v_fieldAddr hF rfl pf48_0)) hF rfl fun a hF => e_val' 2 rfl (by kernel_rfl) (fun W => (v_indexAddr hF rfl rfl par46 hb23.1 hb23.2)) hF rfl fun a hF => e_valS' 3 rfl (by kernel_rfl) (fun W hC => (v_load1 hF rfl pa44 (cells_sub (vs := [.int .u64 ((u0.Value.at x14))]) (hC.2.bc (i := 0) rfl) (add_add _ _ _) (TCube.get_Value u0 x14 hb23.1 hb23.2)))) hQC (by kernel_rfl) hF rfl fun a hF => e_val' 4 rfl (by kernel_rfl) (fun W => (v_move hF rfl)) hF rfl fun a hF => e_val' 7 rfl (by kernel_rfl) (fun W => (v_move hF rfl)) hF rfl fun a hF => e_val' 8 rfl (by kernel_rfl) (fun W => (v_fieldAddr hF rfl pf48_1)) hF rfl fun a hF => e_val' 9 rfl (by kernel_rfl) (fun W => (v_indexAddr hF rfl rfl par46 hb23.1 hb23.2)) hF rfl fun a hF => e_valS' 10 rfl (by kernel_rfl) (fun W hC => (v_load1 hF rfl pa44 (cells_sub (vs := [.int .u64 ((u0.Care.at x14))]) (hC.2.bc (i := 0) rfl) (add_add _ _ _) (TCube.get_Care u0 x14 hb23.1 hb23.2)))) hQC (by kernel_rfl) hF rfl fun a hF => e_val' 11 rfl (by kernel_rfl) (fun W => (v_move hF rfl)) hF rfl fun a hF => e_one' 5 rfl (by kernel_rfl) ?_
      obtain ⟨x27, hx28, h⟩ := bindS h
      refine sq_call hF pc135 rfl (by decide) (ok_ref01_Size (hS.enter trivial) hx28) (fun v W hR a hF => ?_)
      obtain ⟨rfl, hT29⟩ := hR
      have hS := hS.grow hT29.below
      refine sq_nil (then_j ⟨?_, ?_⟩)
      · exact fun hQ0 _ => hQ0.next hT29.below
      ·
       have hQC := hQC.next hT29.below
       refine e_one' 6 rfl (by kernel_rfl) ?_
       obtain ⟨x30, hx31, h⟩ := bindS h
       refine sq_call hF pc202 rfl (by decide) (ok_ref01_Bits k (hS.enter trivial) hx31) (fun v W hR a hF => ?_)
       obtain ⟨A32, c33, rfl, hT34⟩ := hR
       have hS := hS.join hT34
       refine sq_nil (then_j ⟨?_, ?_⟩)
       · exact fun hQ0 _ => hQ0.next hT34.below
       ·
        have hQC := hQC.next hT34.below
        refine e_one' 12 rfl (by kernel_rfl) <| sq_call hF pc135 rfl (by decide) (ok_ref01_Size (hS.enter trivial) hx28) (fun v W hR a hF => ?_)
        obtain ⟨rfl, hT35⟩ := hR
        have hS := hS.grow hT35.below
        refine sq_nil (then_j ⟨?_, ?_⟩)
        · exact fun hQ0 _ => hQ0.next hT35.below
        ·
         have hQC := hQC.next hT35.below
         refine e_one' 13 rfl (by kernel_rfl) ?_
         obtain ⟨x36, hx37, h⟩ := bindS h
         refine sq_call hF pc202 rfl (by decide) (ok_ref01_Bits k (hS.enter trivial) hx37) (fun v W hR a hF => ?_)
         obtain ⟨A38, c39, rfl, hT40⟩ := hR
         have hS := hS.join hT40
         refine sq_nil (then_j ⟨?_, ?_⟩)
         · exact fun hQ0 _ => hQ0.next hT40.below
         ·
          have hQC := hQC.next hT40.below
          refine e_val' 14 rfl (by kernel_rfl) (fun W => (v_assign hF rfl)) hF rfl fun a hF => e_val' 15 rfl (by kernel_rfl) (fun W => (v_assign hF rfl)) hF rfl fun a hF => e_done (by kernel_rfl) ?_ _
          refine tn <| wq <| wg <| av hF rfl rfl fun a hF => nl <| tn ?_
          obtain ⟨o52, h, hk53⟩ := bindS h
          refine wp_join (fun a W => ∃ (x49 : List Int) (A50 : Option Addr) (c51 : Nat), x49 = o52 ∧ FH 70 [(1, .pointer (some (⟨b1, 0, none⟩))), (4, .slice A50 ((x49).length) c51), (5, .bool (x24)), (6, .int .i64 (x14))] a ∧ St M w0 [⟨b1, TCube.enc u0, 48⟩] [⟨(kInt .u8), 5, A50, c51, x49⟩] [] W) (fun a W hJ => ?_) ?_
          ·
           obtain ⟨x49, A50, c51, rfl, hF, hS⟩ := hJ
           have h := hk53
           exact bn <| tn <| wg <| mv hF rfl rfl fun a hF => sv (v_add hF rfl rfl) hF rfl fun a hF => av hF rfl rfl fun a hF => nl <| then_j ⟨m21, Nat.lt_succ_self _, x49, x24, (IntKind.i64.wrap (x14 + 1)), A50, c51, (hF.keep ⟨rfl, rfl, rfl, rfl, trivial⟩), hS, h⟩
          ·
           have hS := hS.perm (List.Perm.refl _) (.trans (.cons _ (.swap _ _ _)) (.trans (.swap _ _ _) (List.Perm.refl _)))
           refine wb <| wp_loop_fuel (I := fun m a W => ∃ (x45 : List Int) (x48 : Int) (A46 : Option Addr) (c47 : Nat), FH 70 [(1, .pointer (some (⟨b1, 0, none⟩))), (4, .slice A46 ((x45).length) c47), (5, .bool (x24)), (6, .int .i64 (x14)), (7, .slice A32 ((x30).length) c33), (8, .slice A38 ((x36).length) c39), (9, .int .i64 (x48))] a ∧ St M w0 [⟨b1, TCube.enc u0, 48⟩] [⟨(kInt .u8), 5, A46, c47, x45⟩, ⟨kBool, 4, A38, c39, x36⟩, ⟨kBool, 4, A32, c33, x30⟩] [] W ∧ (ref01_Text.l1 k x30 x36 m x45 x48) = some o52) ?_ (k := k) ⟨x10, 0, A11, c12, (hF.keep ⟨rfl, rfl, rfl, rfl, rfl, rfl, rfl, trivial⟩), hS, h⟩
           rintro m54 a W ⟨x45, x48, A46, c47, hF, hS, h⟩
           cases m54 with
           | zero => cases h
           | succ m54 =>
            rw [ref01_Text.l1] at h
            refine wq <| wq <| wg <| mv hF rfl rfl fun a hF => mv hF rfl rfl fun a hF => sv (v_len hF rfl pu298) hF rfl fun a hF => sv (v_lss hF rfl rfl) hF rfl fun a hF => nl <| tn <| wi hF rfl h (fun h => ?_) fun h => ?_
            ·
             refine sk <| tn <| wq ?_
             obtain ⟨o59, h, hk60⟩ := bindS h
             refine wp_join (fun a W => ∃ (x56 : List Int) (A57 : Option Addr) (c58 : Nat), x56 = o59 ∧ FH 70 [(1, .pointer (some (⟨b1, 0, none⟩))), (4, .slice A57 ((x56).length) c58), (5, .bool (x24)), (6, .int .i64 (x14)), (7, .slice A32 ((x30).length) c33), (8, .slice A38 ((x36).length) c39), (9, .int .i64 (x48))] a ∧ St M w0 [⟨b1, TCube.enc u0, 48⟩] [⟨(kInt .u8), 5, A57, c58, x56⟩, ⟨kBool, 4, A38, c39, x36⟩, ⟨kBool, 4, A32, c33, x30⟩] [] W) (fun a W hJ => ?_) ?_
             ·
              obtain ⟨x56, A57, c58, rfl, hF, hS⟩ := hJ
              have h := hk60
              exact tn <| wg <| mv hF rfl rfl fun a hF => sv (v_add hF rfl rfl) hF rfl fun a hF => av hF rfl rfl fun a hF => nl <| then_j ⟨m54, Nat.lt_succ_self _, x56, (IntKind.i64.wrap (x48 + 1)), A57, c58, (hF.keep ⟨rfl, rfl, rfl, rfl, rfl, rfl, rfl, trivial⟩), hS, h⟩
             ·
              refine wb ?_
              obtain ⟨o64, h, hk65⟩ := bindS h
              refine wp_join (fun a W => ∃ (x61 : List Int) (A62 : Option Addr) (c63 : Nat), x61 = o64 ∧ FH 70 [(1, .pointer (some (⟨b1, 0, none⟩))), (4, .slice A62 ((x61).length) c63), (5, .bool (x24)), (6, .int .i64 (x14)), (7, .slice A32 ((x30).length) c33), (8, .slice A38 ((x36).length) c39), (9, .int .i64 (x48))] a ∧ St M w0 [⟨b1, TCube.enc u0, 48⟩] [⟨(kInt .u8), 5, A62, c63, x61⟩, ⟨kBool, 4, A38, c39, x36⟩, ⟨kBool, 4, A32, c33, x30⟩] [] W) (fun a W hJ => ?_) ?_
              ·
               obtain ⟨x61, A62, c63, rfl, hF, hS⟩ := hJ
               have h := hk65
               refine bn ?_
               obtain rfl := si h
               exact then_j ⟨x61, A62, c63, rfl, (hF.keep ⟨rfl, rfl, rfl, rfl, rfl, rfl, rfl, trivial⟩), hS⟩
              ·
               refine wb <| wq <| wg <| mv hF rfl rfl fun a hF => mv hF rfl rfl fun a hF => ?_
               obtain ⟨x66, hx67, h⟩ := bindS h
               obtain ⟨p68, cs69, hA70, hc72, hr73⟩ := Row.ok.at (hS.rw_ (i := 1) rfl) hx67
               obtain rfl : cs69 = [.bool (x66)] := hr73
               refine sv (v_idx hF rfl hA70 rfl psl298 hx67) hF rfl fun a hF => sv (v_load1 hF rfl pa4 hc72) hF rfl fun a hF => sv (v_not hF rfl) hF rfl fun a hF => av hF rfl rfl fun a hF => nl <| tn ?_
               obtain ⟨o77, h, hk78⟩ := bindS h
               refine wp_join (fun a W => ∃ (x74 : List Int) (A75 : Option Addr) (c76 : Nat), x74 = o77 ∧ FH 70 [(1, .pointer (some (⟨b1, 0, none⟩))), (4, .slice A75 ((x74).length) c76), (5, .bool (x24)), (6, .int .i64 (x14)), (7, .slice A32 ((x30).length) c33), (8, .slice A38 ((x36).length) c39), (9, .int .i64 (x48))] a ∧ St M w0 [⟨b1, TCube.enc u0, 48⟩] [⟨(kInt .u8), 5, A75, c76, x74⟩, ⟨kBool, 4, A38, c39, x36⟩, ⟨kBool, 4, A32, c33, x30⟩] [] W) (fun a W hJ => ?_) ?_
               ·
                obtain ⟨x74, A75, c76, rfl, hF, hS⟩ := hJ
                have h := hk78
                refine bn ?_
                obtain rfl := si h
                exact then_j ⟨x74, A75, c76, rfl, (hF.keep ⟨rfl, rfl, rfl, rfl, rfl, rfl, rfl, trivial⟩), hS⟩
               ·
                refine wi hF rfl h (fun h => ?_) fun h => ?_
                ·
                 refine wg <| mv hF rfl rfl fun a hF => sq_buildSlice (κ := (kInt .u8)) (xs := [.const (.int .u8 120)]) (ys := [120]) hF hS rfl rfl rfl (Els.cons rfl (Els.nil _ _ _)) rfl psl99 pz5 rfl (by decide) (by decide) (by decide) (fun A80 c81 a W hF hS => ?_)
                 obtain ⟨x84, hx85, h⟩ := bindS h
                 refine sq_append (ys := ([120])) hF hS (i := 1) rfl rfl rfl (hS.rw_ (i := 0) rfl).src psl99 pb5 pz5 rfl (by decide) (by decide) hx85 (by decide) (fun A82 c83 a W hF hS => ?_)
                 refine av hF rfl rfl fun a hF => nl ?_
                 obtain rfl := si h
                 exact then_j ⟨x84, A82, c83, rfl, (hF.keep ⟨rfl, rfl, rfl, rfl, rfl, rfl, rfl, trivial⟩), (hS.keep sl (.cons _ sl) trivial)⟩
                ·
                 refine wq <| wg <| mv hF rfl rfl fun a hF => mv hF rfl rfl fun a hF => ?_
                 obtain ⟨x86, hx87, h⟩ := bindS h
                 obtain ⟨p88, cs89, hA90, hc92, hr93⟩ := Row.ok.at (hS.rw_ (i := 2) rfl) hx87
                 obtain rfl : cs89 = [.bool (x86)] := hr93
                 refine sv (v_idx hF rfl hA90 rfl psl298 hx87) hF rfl fun a hF => sv (v_load1 hF rfl pa4 hc92) hF rfl fun a hF => av hF rfl rfl fun a hF => nl <| tn ?_
                 obtain ⟨o97, h, hk98⟩ := bindS h
                 refine wp_join (fun a W => ∃ (x94 : List Int) (A95 : Option Addr) (c96 : Nat), x94 = o97 ∧ FH 70 [(1, .pointer (some (⟨b1, 0, none⟩))), (4, .slice A95 ((x94).length) c96), (5, .bool (x24)), (6, .int .i64 (x14)), (7, .slice A32 ((x30).length) c33), (8, .slice A38 ((x36).length) c39), (9, .int .i64 (x48))] a ∧ St M w0 [⟨b1, TCube.enc u0, 48⟩] [⟨(kInt .u8), 5, A95, c96, x94⟩, ⟨kBool, 4, A38, c39, x36⟩, ⟨kBool, 4, A32, c33, x30⟩] [] W) (fun a W hJ => ?_) ?_
                 ·
                  obtain ⟨x94, A95, c96, rfl, hF, hS⟩ := hJ
                  have h := hk98
                  obtain rfl := si h
                  exact then_j ⟨x94, A95, c96, rfl, (hF.keep ⟨rfl, rfl, rfl, rfl, rfl, rfl, rfl, trivial⟩), hS⟩
                 ·
                  refine wi hF rfl h (fun h => ?_) fun h => ?_
                  ·
                   refine wg <| mv hF rfl rfl fun a hF => sq_buildSlice (κ := (kInt .u8)) (xs := [.const (.int .u8 49)]) (ys := [49]) hF hS rfl rfl rfl (Els.cons rfl (Els.nil _ _ _)) rfl psl99 pz5 rfl (by decide) (by decide) (by decide) (fun A100 c101 a W hF hS => ?_)
                   obtain ⟨x104, hx105, h⟩ := bindS h
                   refine sq_append (ys := ([49])) hF hS (i := 1) rfl rfl rfl (hS.rw_ (i := 0) rfl).src psl99 pb5 pz5 rfl (by decide) (by decide) hx105 (by decide) (fun A102 c103 a W hF hS => ?_)
                   refine av hF rfl rfl fun a hF => nl ?_
                   obtain rfl := si h
                   exact then_j ⟨x104, A102, c103, rfl, (hF.keep ⟨rfl, rfl, rfl, rfl, rfl, rfl, rfl, trivial⟩), (hS.keep sl (.cons _ sl) trivial)⟩
                  ·
                   refine wg <| mv hF rfl rfl fun a hF => sq_buildSlice (κ := (kInt .u8)) (xs := [.const (.int .u8 48)]) (ys := [48]) hF hS rfl rfl rfl (Els.cons rfl (Els.nil _ _ _)) rfl psl99 pz5 rfl (by decide) (by decide) (by decide) (fun A106 c107 a W hF hS => ?_)
                   obtain ⟨x110, hx111, h⟩ := bindS h
                   refine sq_append (ys := ([48])) hF hS (i := 1) rfl rfl rfl (hS.rw_ (i := 0) rfl).src psl99 pb5 pz5 rfl (by decide) (by decide) hx111 (by decide) (fun A108 c109 a W hF hS => ?_)
                   refine av hF rfl rfl fun a hF => nl ?_
                   obtain rfl := si h
                   exact then_j ⟨x110, A108, c109, rfl, (hF.keep ⟨rfl, rfl, rfl, rfl, rfl, rfl, rfl, trivial⟩), (hS.keep sl (.cons _ sl) trivial)⟩
            ·
             refine wp_exit <| tx <| tx <| bh ?_
             obtain rfl := si h
             exact then_j ⟨x45, A46, c47, rfl, (hF.keep ⟨rfl, rfl, rfl, rfl, trivial⟩), (hS.keep sl (.cons_cons _ sn) trivial)⟩
     ·
      refine wi hF rfl h (fun h => ?_) fun h => ?_
      ·
       refine wg <| av hF rfl rfl fun a hF => nl ?_
       obtain rfl := si h
       exact then_j ⟨false, rfl, (hF.keep ⟨rfl, rfl, rfl, rfl, trivial⟩), hS⟩
      ·
       refine sk ?_
       obtain rfl := si h
       exact then_j ⟨x13, rfl, (hF.keep ⟨rfl, rfl, rfl, rfl, trivial⟩), hS⟩
    ·
     refine wp_exit <| tx <| tx <| bh ?_
     obtain rfl := si h
     exact then_j ⟨x10, x13, A11, c12, rfl, (hF.keep ⟨rfl, rfl, trivial⟩), (hS.keep sn sl trivial)⟩

theorem ok_ref01_Cube (k : Nat) {M : Nat → Prop} {w0 : World} {u0 : TCube} {o : Bool} (hS : St M w0 [] [] [] w0) (h : ref01_Cube k u0 = some o) :
    Calls Tryz.prog 64 #[.agg (TCube.enc u0).toArray] w0 fun e W' => ∃ v, e = .returned v ∧ (v = .bool (o) ∧ St M w0 [] [] [] W') := by
  unfold ref01_Cube at h
  refine cst Tryz.func64 rfl rfl rfl fun a hF => wq <| wg <| bv hF hS rfl rfl rfl fun b1 a W hF hS => av hF rfl rfl fun a hF => nl <| tn <| wq <| wg <| sv (v_load (cs := TCube.enc u0) hF rfl pa48 ps48 (hS.bc (i := 0) rfl)) hF rfl fun a hF => ?_
  obtain ⟨x2, hx3, h⟩ := bindS h
  refine cl hF pc133 rfl rfl (ok_ref01_Text k (hS.enter trivial) hx3) hS fun W a hF hS => mv hF rfl rfl fun a hF => sv (v_extract hF rfl rfl) hF rfl fun a hF => sv (v_extract hF rfl rfl) hF rfl fun a hF => av hF rfl rfl fun a hF => av hF rfl rfl fun a hF => nl <| tn <| wq <| wg <| mv hF rfl rfl fun a hF => av hF rfl rfl fun a hF => nl <| tn <| rt ?_
  obtain rfl := si h
  exact ret1 hF rfl (rv_tmp hF rfl) ⟨_, rfl, rfl, (hS.keep sn sl trivial)⟩

theorem ok_ref04_Acts (k : Nat) {M : Nat → Prop} {w0 : World} {u0 : List TAct} {A0_0 : Option Addr} {c0_0 : Nat} {o : Bool} (hS : St M w0 [] [] [fSl k_TAct A0_0 c0_0 u0] w0) (h : ref04_Acts k u0 = some o) :
    Calls Tryz.prog 65 #[.slice A0_0 ((u0).length) c0_0] w0 fun e W' => ∃ v, e = .returned v ∧ (v = .bool (o) ∧ St M w0 [] [] [] W') := by
  unfold ref04_Acts at h
  refine cst Tryz.func65 rfl rfl rfl fun a hF => wq <| wg <| av hF rfl rfl fun a hF => nl <| tn <| wq <| wq <| wg <| av hF rfl rfl fun a hF => nl <| tn ?_
  obtain ⟨o3, h, hk4⟩ := bindS h
  refine wp_join (fun a W => Lo.brk () = o3 ∧ FH 81 [(0, .slice A0_0 ((u0).length) c0_0)] a ∧ St M w0 [] [] [fSl k_TAct A0_0 c0_0 u0] W) (fun a W hJ => ?_) ?_
  ·
   obtain ⟨rfl, hF, hS⟩ := hJ
   have h := hk4
   dsimp only at h
   refine tn <| wq <| wg <| mv hF rfl rfl fun a hF => sv (v_len hF rfl pu49) hF rfl fun a hF => sv (v_leq hF rfl rfl) hF rfl fun a hF => av hF rfl rfl fun a hF => nl <| tn <| rt ?_
   obtain rfl := si h
   exact ret1 hF rfl (rv_tmp hF rfl) ⟨_, rfl, rfl, (hS.keep sl sl trivial)⟩
  ·
   refine wb <| wp_loop_fuel (I := fun m a W => ∃ (x2 : Int), FH 81 [(0, .slice A0_0 ((u0).length) c0_0), (3, .int .i64 (x2))] a ∧ St M w0 [] [] [fSl k_TAct A0_0 c0_0 u0] W ∧ (ref04_Acts.l0 k u0 m x2) = some o3) ?_ (k := k) ⟨0, (hF.keep ⟨rfl, rfl, trivial⟩), hS, h⟩
   rintro m5 a W ⟨x2, hF, hS, h⟩
   cases m5 with
   | zero => cases h
   | succ m5 =>
    rw [ref04_Acts.l0] at h
    refine wq <| wq <| wg <| mv hF rfl rfl fun a hF => mv hF rfl rfl fun a hF => sv (v_len hF rfl pu49) hF rfl fun a hF => sv (v_lss hF rfl rfl) hF rfl fun a hF => nl <| tn <| wi hF rfl h (fun h => ?_) fun h => ?_
    ·
     refine sk <| tn <| wq <| wb <| wq <| wg <| mv hF rfl rfl fun a hF => mv hF rfl rfl fun a hF => ?_
     obtain ⟨x7, hx8, h⟩ := bindS h
     obtain ⟨p9, cs10, hA11, hat12⟩ := SlR.at (hS.fc (i := 0) rfl) hx8
     obtain rfl : cs10 = TAct.enc x7 := hat12.2.2.2
     have hS := hS.addFact (f := fAt k_TAct (p9.add (x2.toNat * 4)) (TAct.enc x7) x7) hat12
     refine sv (v_idx hF rfl hA11 rfl psl49 hx8) hF rfl fun a hF => sv (v_load (cs := TAct.enc x7) hF rfl pa152 ps152 (hS.pc (i := 0) rfl)) hF rfl fun a hF => al hF hS pz152 rfl rfl fun b13 a W hF hS => sq_store (o := 0) (vs := TAct.enc x7) (cs' := TAct.enc x7) hF hS rfl rfl (i := 0) rfl rfl rfl ps152 (TAct.enc_one _) (bl rfl) rfl fun W hS => nl <| tn <| wq <| wg <| av hF rfl rfl fun a hF => nl <| tn <| wq <| wq <| wg <| fv hF rfl pf152_0 rfl fun a hF => lv hF rfl pa3 (hS.bc (i := 0) rfl) rfl rfl rfl fun a hF => nl <| tn ?_
     obtain ⟨o15, h, hk16⟩ := bindS h
     refine wp_join (fun a W => ∃ (x14 : Bool), x14 = o15 ∧ FH 81 [(0, .slice A0_0 ((u0).length) c0_0), (3, .int .i64 (x2)), (5, .bool (x14))] a ∧ St M w0 [] [] [fSl k_TAct A0_0 c0_0 u0] W) (fun a W hJ => ?_) ?_
     ·
      obtain ⟨x14, rfl, hF, hS⟩ := hJ
      have h := hk16
      refine tn <| wq <| wg <| mv hF rfl rfl fun a hF => sv (v_not hF rfl) hF rfl fun a hF => nl <| tn <| wi hF rfl h (fun h => ?_) fun h => ?_
      ·
       refine wq <| wg <| av hF rfl rfl fun a hF => nl <| tn <| rt <| br <| tr <| tr <| br <| tr <| tr ?_
       obtain rfl := si h
       have h := hk4
       dsimp only at h
       obtain rfl := si h
       exact ret1 hF rfl (rv_tmp hF rfl) ⟨_, rfl, rfl, (hS.keep sl sl trivial)⟩
      ·
       exact sk <| bn <| tn <| wg <| mv hF rfl rfl fun a hF => sv (v_add hF rfl rfl) hF rfl fun a hF => av hF rfl rfl fun a hF => nl <| then_j ⟨m5, Nat.lt_succ_self _, (IntKind.i64.wrap (x2 + 1)), (hF.keep ⟨rfl, rfl, trivial⟩), hS, h⟩
     ·
      refine wb <| wq <| wg <| sv (v_eql hF rfl rfl) hF rfl fun a hF => av hF rfl rfl fun a hF => nl <| tn ?_
      obtain ⟨o19, h, hk20⟩ := bindS h
      refine wp_join (fun a W => ∃ (x18 : Bool), x18 = o19 ∧ FH 81 [(0, .slice A0_0 ((u0).length) c0_0), (3, .int .i64 (x2)), (5, .bool (x18))] a ∧ St M w0 [] [] [fSl k_TAct A0_0 c0_0 u0] W) (fun a W hJ => ?_) ?_
      ·
       obtain ⟨x18, rfl, hF, hS⟩ := hJ
       have h := hk20
       refine bn ?_
       obtain rfl := si h
       exact then_j ⟨x18, rfl, (hF.keep ⟨rfl, rfl, rfl, trivial⟩), hS⟩
      ·
       refine wi hF rfl h (fun h => ?_) fun h => ?_
       ·
        refine wg <| fv hF rfl pf152_1 rfl fun a hF => lv hF rfl pa3 (hS.bc (i := 0) rfl) rfl rfl rfl fun a hF => sv (v_geq hF rfl rfl) hF rfl fun a hF => mv hF rfl rfl fun a hF => gand 3 3 23 ((decide (x7.Port ≤ 16))) hF rfl rfl rfl rfl rfl (fun _ => ?_) (fun a hF => ?_)
        ·
         exact fv hF rfl pf152_1 rfl fun a hF => lv hF rfl pa3 (hS.bc (i := 0) rfl) rfl rfl rfl fun a hF => sv (v_leq hF rfl rfl) hF rfl fun a hF => gq 3 hF rfl rfl rfl
        ·
         refine mv hF rfl rfl fun a hF => gand 3 8 28 ((x7.Field == 0)) hF rfl rfl rfl rfl rfl (fun _ => ?_) (fun a hF => ?_)
         ·
          exact fv hF rfl pf152_2 rfl fun a hF => lv hF rfl pa3 (hS.bc (i := 0) rfl) rfl rfl rfl fun a hF => sv (v_eql hF rfl rfl) hF rfl fun a hF => gq 3 hF rfl rfl rfl
         ·
          refine mv hF rfl rfl fun a hF => gand 3 13 33 ((x7.Value == 0)) hF rfl rfl rfl rfl rfl (fun _ => ?_) (fun a hF => ?_)
          ·
           exact fv hF rfl pf152_3 rfl fun a hF => lv hF rfl pa44 (hS.bc (i := 0) rfl) rfl rfl rfl fun a hF => sv (v_eql hF rfl rfl) hF rfl fun a hF => gq 3 hF rfl rfl rfl
          ·
           refine av hF rfl rfl fun a hF => nl ?_
           obtain rfl := si h
           exact then_j ⟨((((decide (1 ≤ x7.Port)) && (decide (x7.Port ≤ 16))) && (x7.Field == 0)) && (x7.Value == 0)), rfl, (hF.keep ⟨rfl, rfl, rfl, trivial⟩), (hS.keep sn sl ⟨⟨1, rfl⟩, trivial⟩)⟩
       ·
        refine wq <| wg <| sv (v_eql hF rfl rfl) hF rfl fun a hF => av hF rfl rfl fun a hF => nl <| tn ?_
        obtain ⟨o26, h, hk27⟩ := bindS h
        refine wp_join (fun a W => ∃ (x25 : Bool), x25 = o26 ∧ FH 81 [(0, .slice A0_0 ((u0).length) c0_0), (3, .int .i64 (x2)), (5, .bool (x25))] a ∧ St M w0 [] [] [fSl k_TAct A0_0 c0_0 u0] W) (fun a W hJ => ?_) ?_
        ·
         obtain ⟨x25, rfl, hF, hS⟩ := hJ
         have h := hk27
         obtain rfl := si h
         exact then_j ⟨x25, rfl, (hF.keep ⟨rfl, rfl, rfl, trivial⟩), hS⟩
        ·
         refine wi hF rfl h (fun h => ?_) fun h => ?_
         ·
          refine wp_quiet rfl (by kernel_rfl) hS <| qv (fun W hC => (v_fieldAddr hF rfl pf152_1)) hF rfl fun a hF => qv (fun W hC => (v_load1 hF rfl pa3 (cells_sub (vs := [.int .i64 (x7.Port)]) (hC.2.bc (i := 0) rfl) rfl rfl))) hF rfl fun a hF => qv (fun W hC => (v_eql hF rfl rfl)) hF rfl fun a hF => qv (fun W hC => (v_move hF rfl)) hF rfl fun a hF => qt_cut 4 (fun a => FH 81 [(0, .slice A0_0 ((u0).length) c0_0), (3, .int .i64 (x2)), (4, .pointer (some (⟨b13, 0, none⟩))), (47, .bool ((x7.Port == 0) && (decide (0 ≤ x7.Field))))] a) (fun a hF => ?_) ?_
          ·
           refine qv (fun W hC => (v_move hF rfl)) hF rfl fun a hF => qt_cut 4 (fun a => FH 81 [(0, .slice A0_0 ((u0).length) c0_0), (3, .int .i64 (x2)), (4, .pointer (some (⟨b13, 0, none⟩))), (52, .bool (((x7.Port == 0) && (decide (0 ≤ x7.Field))) && (decide (x7.Field < 12))))] a) (fun a hF => ?_) ?_
           ·
            refine qv (fun W hC => (v_move hF rfl)) hF rfl fun a hF => ?_
            obtain ⟨x32, h, hk34⟩ := bindS h
            refine qt_cut 7 (fun a => FH 81 [(0, .slice A0_0 ((u0).length) c0_0), (3, .int .i64 (x2)), (60, .bool x32)] a) (fun a hF => ?_) ?_
            ·
             have h := hk34
             refine qv (fun W hC => (v_assign hF rfl)) hF rfl fun a hF => qn ?_
             intro W hC
             have hS := hC.2
             obtain rfl := si h
             exact then_j ⟨x32, rfl, (hF.keep ⟨rfl, rfl, rfl, trivial⟩), (hS.keep sn sl ⟨⟨1, rfl⟩, trivial⟩)⟩
            ·
             by_cases he31 : (((x7.Port == 0) && (decide (0 ≤ x7.Field))) && (decide (x7.Field < 12))) = true
             ·
              replace h := ifT he31 h
              refine qt_yes hF rfl rfl he31 <| qv (fun W hC => (v_fieldAddr hF rfl pf152_3)) hF rfl fun a hF => qt_yes hF rfl rfl he31 <| qv (fun W hC => (v_load1 hF rfl pa44 (cells_sub (vs := [.int .u64 (x7.Value)]) (hC.2.bc (i := 0) rfl) rfl rfl))) hF rfl fun a hF => qt_yes hF rfl rfl he31 <| qv (fun W hC => (v_fieldAddr hF rfl pf152_2)) hF rfl fun a hF => qt_yes hF rfl rfl he31 <| qv (fun W hC => (v_load1 hF rfl pa3 (cells_sub (vs := [.int .i64 (x7.Field)]) (hC.2.bc (i := 0) rfl) rfl rfl))) hF rfl fun a hF => qt_yes hF rfl rfl he31 ?_
              obtain ⟨x35, hx36, h⟩ := bindS h
              refine qt_call hF pc135 rfl (by decide) (fun W hC => q_of hC (ok_ref01_Size (hC.2.enter trivial) hx36)) (fun a hF => ?_)
              refine qt_yes hF rfl rfl he31 ?_
              obtain ⟨x37, hx38, h⟩ := bindS h
              refine qt_call hF pc134 rfl (by decide) (fun W hC => q_of hC (ok_ref01_Fits (hC.2.enter trivial) hx38)) (fun a hF => ?_)
              refine qv (fun W hC => (v_pick_t hF rfl he31 rfl)) hF rfl fun a hF => ?_
              obtain rfl := si h
              exact qt_nil (hF.keep ⟨rfl, rfl, rfl, trivial⟩)
             ·
              have he31 : (((x7.Port == 0) && (decide (0 ≤ x7.Field))) && (decide (x7.Field < 12))) = false := nB he31
              replace h := ifF he31 h
              refine qt_no hF rfl rfl he31 (by decide) (fun a hF => ?_)
              refine qt_no hF rfl rfl he31 (by decide) (fun a hF => ?_)
              refine qt_no hF rfl rfl he31 (by decide) (fun a hF => ?_)
              refine qt_no hF rfl rfl he31 (by decide) (fun a hF => ?_)
              refine qt_no hF rfl rfl he31 (by decide) (fun a hF => ?_)
              refine qt_no hF rfl rfl he31 (by decide) (fun a hF => ?_)
              refine qv (fun W hC => (v_pick_f hF rfl he31 rfl)) hF rfl fun a hF => ?_
              obtain rfl := si h
              exact qt_nil (hF.keep ⟨rfl, rfl, rfl, trivial⟩)
           ·
            by_cases he30 : ((x7.Port == 0) && (decide (0 ≤ x7.Field))) = true
            ·
             exact qt_yes hF rfl rfl he30 <| qv (fun W hC => (v_fieldAddr hF rfl pf152_2)) hF rfl fun a hF => qt_yes hF rfl rfl he30 <| qv (fun W hC => (v_load1 hF rfl pa3 (cells_sub (vs := [.int .i64 (x7.Field)]) (hC.2.bc (i := 0) rfl) rfl rfl))) hF rfl fun a hF => qt_yes hF rfl rfl he30 <| qv (fun W hC => (v_lss hF rfl rfl)) hF rfl fun a hF => qv (fun W hC => (v_pick_t hF rfl he30 rfl)) hF rfl fun a hF => qt_nil (hF.keep ⟨rfl, rfl, rfl, (boolV (and_t he30)), trivial⟩)
            ·
             have he30 : ((x7.Port == 0) && (decide (0 ≤ x7.Field))) = false := nB he30
             refine qt_no hF rfl rfl he30 (by decide) (fun a hF => ?_)
             refine qt_no hF rfl rfl he30 (by decide) (fun a hF => ?_)
             refine qt_no hF rfl rfl he30 (by decide) (fun a hF => ?_)
             exact qv (fun W hC => (v_pick_f hF rfl he30 rfl)) hF rfl fun a hF => qt_nil (hF.keep ⟨rfl, rfl, rfl, (boolV (and_f he30)), trivial⟩)
          ·
           by_cases he29 : (x7.Port == 0) = true
           ·
            exact qt_yes hF rfl rfl he29 <| qv (fun W hC => (v_fieldAddr hF rfl pf152_2)) hF rfl fun a hF => qt_yes hF rfl rfl he29 <| qv (fun W hC => (v_load1 hF rfl pa3 (cells_sub (vs := [.int .i64 (x7.Field)]) (hC.2.bc (i := 0) rfl) rfl rfl))) hF rfl fun a hF => qt_yes hF rfl rfl he29 <| qv (fun W hC => (v_geq hF rfl rfl)) hF rfl fun a hF => qv (fun W hC => (v_pick_t hF rfl he29 rfl)) hF rfl fun a hF => qt_nil (hF.keep ⟨rfl, rfl, rfl, (boolV (and_t he29)), trivial⟩)
           ·
            have he29 : (x7.Port == 0) = false := nB he29
            refine qt_no hF rfl rfl he29 (by decide) (fun a hF => ?_)
            refine qt_no hF rfl rfl he29 (by decide) (fun a hF => ?_)
            refine qt_no hF rfl rfl he29 (by decide) (fun a hF => ?_)
            exact qv (fun W hC => (v_pick_f hF rfl he29 rfl)) hF rfl fun a hF => qt_nil (hF.keep ⟨rfl, rfl, rfl, (boolV (and_f he29)), trivial⟩)
         ·
          refine wq <| wg <| sv (v_eql hF rfl rfl) hF rfl fun a hF => av hF rfl rfl fun a hF => nl <| tn ?_
          obtain ⟨o40, h, hk41⟩ := bindS h
          refine wp_join (fun a W => ∃ (x39 : Bool), x39 = o40 ∧ FH 81 [(0, .slice A0_0 ((u0).length) c0_0), (3, .int .i64 (x2)), (5, .bool (x39))] a ∧ St M w0 [] [] [fSl k_TAct A0_0 c0_0 u0] W) (fun a W hJ => ?_) ?_
          ·
           obtain ⟨x39, rfl, hF, hS⟩ := hJ
           have h := hk41
           obtain rfl := si h
           exact then_j ⟨x39, rfl, (hF.keep ⟨rfl, rfl, rfl, trivial⟩), hS⟩
          ·
           refine wi hF rfl h (fun h => ?_) fun h => ?_
           ·
            refine wg <| fv hF rfl pf152_1 rfl fun a hF => lv hF rfl pa3 (hS.bc (i := 0) rfl) rfl rfl rfl fun a hF => sv (v_eql hF rfl rfl) hF rfl fun a hF => mv hF rfl rfl fun a hF => gand 3 3 66 ((x7.Field == 0)) hF rfl rfl rfl rfl rfl (fun _ => ?_) (fun a hF => ?_)
            ·
             exact fv hF rfl pf152_2 rfl fun a hF => lv hF rfl pa3 (hS.bc (i := 0) rfl) rfl rfl rfl fun a hF => sv (v_eql hF rfl rfl) hF rfl fun a hF => gq 3 hF rfl rfl rfl
            ·
             refine mv hF rfl rfl fun a hF => gand 3 8 71 ((x7.Value == 0)) hF rfl rfl rfl rfl rfl (fun _ => ?_) (fun a hF => ?_)
             ·
              exact fv hF rfl pf152_3 rfl fun a hF => lv hF rfl pa44 (hS.bc (i := 0) rfl) rfl rfl rfl fun a hF => sv (v_eql hF rfl rfl) hF rfl fun a hF => gq 3 hF rfl rfl rfl
             ·
              refine av hF rfl rfl fun a hF => nl ?_
              obtain rfl := si h
              exact then_j ⟨(((x7.Port == 0) && (x7.Field == 0)) && (x7.Value == 0)), rfl, (hF.keep ⟨rfl, rfl, rfl, trivial⟩), (hS.keep sn sl ⟨⟨1, rfl⟩, trivial⟩)⟩
           ·
            refine sk ?_
            obtain rfl := si h
            exact then_j ⟨false, rfl, (hF.keep ⟨rfl, rfl, rfl, trivial⟩), (hS.keep sn sl ⟨⟨1, rfl⟩, trivial⟩)⟩
    ·
     refine wp_exit <| tx <| tx <| bh ?_
     obtain rfl := si h
     exact then_j ⟨rfl, (hF.keep ⟨rfl, trivial⟩), hS⟩

theorem ok_ref04_span {M : Nat → Prop} {w0 : World} {u0 : Int} {u1 : Int} {o : Bool} (hS : St M w0 [] [] [] w0) (h : ref04_span u0 u1 = some o) :
    Calls Tryz.prog 66 #[.int .i64 (u0), .int .i64 (u1)] w0 fun e W' => ∃ v, e = .returned v ∧ (v = .bool (o) ∧ St M w0 [] [] [] W') := by
  unfold ref04_span at h
  refine cst Tryz.func66 rfl rfl rfl fun a hF => wq <| wg <| av hF rfl rfl fun a hF => nl <| tn <| wq <| wg <| mv hF rfl rfl fun a hF => sv (v_geq hF rfl rfl) hF rfl fun a hF => mv hF rfl rfl fun a hF => gand 3 2 7 ((decide (u0 ≤ u1))) hF rfl rfl rfl rfl rfl (fun _ => ?_) (fun a hF => ?_)
  ·
   exact mv hF rfl rfl fun a hF => mv hF rfl rfl fun a hF => sv (v_leq hF rfl rfl) hF rfl fun a hF => gq 3 hF rfl rfl rfl
  ·
   refine av hF rfl rfl fun a hF => nl <| tn <| rt ?_
   obtain rfl := si h
   exact ret1 hF rfl (rv_tmp hF rfl) ⟨_, rfl, rfl, hS⟩

theorem ok_ref04_Rule (k : Nat) {M : Nat → Prop} {w0 : World} {u0 : TRule} {A0_0 : Option Addr} {c0_0 : Nat} {o : Bool} (hS : St M w0 [] [] [fSl k_TAct A0_0 c0_0 u0.Acts] w0) (h : ref04_Rule k u0 = some o) :
    Calls Tryz.prog 83 #[.agg (TRule.enc u0 A0_0 c0_0).toArray] w0 fun e W' => ∃ v, e = .returned v ∧ (v = .bool (o) ∧ St M w0 [] [] [] W') := by
  unfold ref04_Rule at h
  refine cst Tryz.func83 rfl rfl rfl fun a hF => wq <| wg <| bv hF hS rfl rfl rfl fun b1 a W hF hS => av hF rfl rfl fun a hF => nl <| tn <| wq <| wg <| fv hF rfl pf51_0 rfl fun a hF => sv (v_load (cs := TCube.enc u0.Match) hF rfl pa48 ps48 (cells_sub (vs := TCube.enc u0.Match) (hS.bc (i := 0) rfl) rfl rfl)) hF rfl fun a hF => ?_
  obtain ⟨x2, hx3, h⟩ := bindS h
  refine cl hF pc64 rfl rfl (ok_ref01_Cube k (hS.enter trivial) hx3) hS fun W a hF hS => mv hF rfl rfl fun a hF => gandB 3 3 6 hF hS h rfl rfl rfl rfl rfl (fun r7 h => ?_) (fun x6 a W h hF hS => ?_)
  ·
   refine fv hF rfl pf51_2 rfl fun a hF => lv hF rfl pa49 (hS.bc (i := 0) rfl) rfl rfl rfl fun a hF => ?_
   obtain ⟨x8, hx9, h⟩ := bindS h
   refine cl hF pc65 rfl rfl (ok_ref04_Acts k (hS.enter ⟨⟨0, rfl⟩, trivial⟩) hx9) hS fun W a hF hS => ?_
   obtain rfl := si h
   exact gs 3 hF hS rfl rfl rfl
  ·
   refine mv hF rfl rfl fun a hF => gandB 3 8 11 hF hS h rfl rfl rfl rfl rfl (fun r13 h => ?_) (fun x12 a W h hF hS => ?_)
   ·
    refine fv hF rfl pf51_1 rfl fun a hF => lv hF rfl pa3 (hS.bc (i := 0) rfl) rfl rfl rfl fun a hF => ?_
    obtain ⟨x14, hx15, h⟩ := bindS h
    refine cl hF pc66 rfl rfl (ok_ref04_span (hS.enter trivial) hx15) hS fun W a hF hS => ?_
    obtain rfl := si h
    exact gs 3 hF hS rfl rfl rfl
   ·
    refine mv hF rfl rfl fun a hF => gandB 3 13 16 hF hS h rfl rfl rfl rfl rfl (fun r19 h => ?_) (fun x18 a W h hF hS => ?_)
    ·
     refine fv hF rfl pf51_3 rfl fun a hF => lv hF rfl pa3 (hS.bc (i := 0) rfl) rfl rfl rfl fun a hF => ?_
     obtain ⟨x20, hx21, h⟩ := bindS h
     refine cl hF pc66 rfl rfl (ok_ref04_span (hS.enter trivial) hx21) hS fun W a hF hS => ?_
     obtain rfl := si h
     exact gs 3 hF hS rfl rfl rfl
    ·
     refine mv hF rfl rfl fun a hF => gandB 3 18 21 hF hS h rfl rfl rfl rfl rfl (fun r25 h => ?_) (fun x24 a W h hF hS => ?_)
     ·
      refine fv hF rfl pf51_4 rfl fun a hF => lv hF rfl pa3 (hS.bc (i := 0) rfl) rfl rfl rfl fun a hF => ?_
      obtain ⟨x26, hx27, h⟩ := bindS h
      refine cl hF pc66 rfl rfl (ok_ref04_span (hS.enter trivial) hx27) hS fun W a hF hS => ?_
      obtain rfl := si h
      exact gs 3 hF hS rfl rfl rfl
     ·
      refine mv hF rfl rfl fun a hF => gandB 3 23 26 hF hS h rfl rfl rfl rfl rfl (fun r31 h => ?_) (fun x30 a W h hF hS => ?_)
      ·
       refine fv hF rfl pf51_5 rfl fun a hF => lv hF rfl pa3 (hS.bc (i := 0) rfl) rfl rfl rfl fun a hF => ?_
       obtain ⟨x32, hx33, h⟩ := bindS h
       refine cl hF pc66 rfl rfl (ok_ref04_span (hS.enter trivial) hx33) hS fun W a hF hS => ?_
       obtain rfl := si h
       exact gs 3 hF hS rfl rfl rfl
      ·
       refine mv hF rfl rfl fun a hF => gand 3 28 31 ((decide (0 ≤ u0.Hits))) hF rfl rfl rfl rfl rfl (fun _ => ?_) (fun a hF => ?_)
       ·
        exact fv hF rfl pf51_6 rfl fun a hF => lv hF rfl pa3 (hS.bc (i := 0) rfl) rfl rfl rfl fun a hF => sv (v_geq hF rfl rfl) hF rfl fun a hF => gq 3 hF rfl rfl rfl
       ·
        refine mv hF rfl rfl fun a hF => gand 3 33 36 ((decide (0 ≤ u0.Quiet))) hF rfl rfl rfl rfl rfl (fun _ => ?_) (fun a hF => ?_)
        ·
         exact fv hF rfl pf51_7 rfl fun a hF => lv hF rfl pa3 (hS.bc (i := 0) rfl) rfl rfl rfl fun a hF => sv (v_geq hF rfl rfl) hF rfl fun a hF => gq 3 hF rfl rfl rfl
        ·
         refine mv hF rfl rfl fun a hF => gand 3 38 41 ((decide (0 ≤ u0.Age))) hF rfl rfl rfl rfl rfl (fun _ => ?_) (fun a hF => ?_)
         ·
          exact fv hF rfl pf51_8 rfl fun a hF => lv hF rfl pa3 (hS.bc (i := 0) rfl) rfl rfl rfl fun a hF => sv (v_geq hF rfl rfl) hF rfl fun a hF => gq 3 hF rfl rfl rfl
         ·
          refine av hF rfl rfl fun a hF => nl <| tn <| rt ?_
          obtain rfl := si h
          exact ret1 hF rfl (rv_tmp hF rfl) ⟨_, rfl, rfl, (hS.keep sn sl trivial)⟩

theorem ok_ref01_Order (k : Nat) {M : Nat → Prop} {w0 : World} {u0 : Arr 12} {u1 : Arr 12} {o : Int} (hS : St M w0 [] [] [] w0) (h : ref01_Order k u0 u1 = some o) :
    Calls Tryz.prog 183 #[.agg (A12u64.enc u0).toArray, .agg (A12u64.enc u1).toArray] w0 fun e W' => ∃ v, e = .returned v ∧ (v = .int .i64 (o) ∧ St M w0 [] [] [] W') := by
  unfold ref01_Order at h
  refine cst Tryz.func183 rfl rfl rfl fun a hF => wq <| wg <| bv hF hS rfl rfl rfl fun b1 a W hF hS => bv hF hS rfl rfl rfl fun b2 a W hF hS => av hF rfl rfl fun a hF => nl <| tn <| wq <| wq <| wg <| av hF rfl rfl fun a hF => nl <| tn ?_
  obtain ⟨o5, h, hk6⟩ := bindS h
  refine wp_join (fun a W => Lo.brk () = o5 ∧ FH 24 [] a ∧ St M w0 [] [] [] W) (fun a W hJ => ?_) ?_
  ·
   obtain ⟨rfl, hF, hS⟩ := hJ
   have h := hk6
   dsimp only at h
   refine tn <| wq <| wg <| av hF rfl rfl fun a hF => nl <| tn <| rt ?_
   obtain rfl := si h
   exact ret1 hF rfl (rv_tmp hF rfl) ⟨_, rfl, rfl, hS⟩
  ·
   refine wb <| wp_loop_fuel (I := fun m a W => ∃ (x4 : Int), FH 24 [(2, .pointer (some (⟨b1, 0, none⟩))), (3, .pointer (some (⟨b2, 0, none⟩))), (5, .int .i64 (x4))] a ∧ St M w0 [⟨b2, A12u64.enc u1, 46⟩, ⟨b1, A12u64.enc u0, 46⟩] [] [] W ∧ (ref01_Order.l0 k u0 u1 m x4) = some o5) ?_ (k := k) ⟨0, (hF.keep ⟨rfl, rfl, rfl, trivial⟩), hS, h⟩
   rintro m7 a W ⟨x4, hF, hS, h⟩
   cases m7 with
   | zero => cases h
   | succ m7 =>
    rw [ref01_Order.l0] at h
    refine wq <| wq <| wg <| mv hF rfl rfl fun a hF => sv (v_lss hF rfl rfl) hF rfl fun a hF => nl <| tn <| wi hF rfl h (fun h => ?_) fun h => ?_
    ·
     refine sk <| tn <| wq <| wb <| wq <| wq <| wp_quiet rfl (by kernel_rfl) hS <| qv (fun W hC => (v_move hF rfl)) hF rfl fun a hF => ?_
     obtain ⟨hb9, h⟩ := ifS h
     refine qv (fun W hC => (v_indexAddr hF rfl rfl par46 hb9.1 hb9.2)) hF rfl fun a hF => qv (fun W hC => (v_load1 hF rfl pa44 (cells_sub (vs := [.int .u64 ((u0.at x4))]) (hC.2.bc (i := 1) rfl) rfl (A12u64.get u0 x4 hb9.1 hb9.2)))) hF rfl fun a hF => qv (fun W hC => (v_move hF rfl)) hF rfl fun a hF => qv (fun W hC => (v_indexAddr hF rfl rfl par46 hb9.1 hb9.2)) hF rfl fun a hF => qv (fun W hC => (v_load1 hF rfl pa44 (cells_sub (vs := [.int .u64 ((u1.at x4))]) (hC.2.bc (i := 0) rfl) rfl (A12u64.get u1 x4 hb9.1 hb9.2)))) hF rfl fun a hF => qv (fun W hC => (v_lss hF rfl rfl)) hF rfl fun a hF => qn ?_
     intro W hC
     have hS := hC.2
     refine tn <| wi hF rfl h (fun h => ?_) fun h => ?_
     ·
      refine wq <| wg <| av hF rfl rfl fun a hF => nl <| tn <| rt <| tr <| br <| tr <| tr <| br <| tr <| tr ?_
      obtain rfl := si h
      have h := hk6
      dsimp only at h
      obtain rfl := si h
      exact ret1 hF rfl (rv_tmp hF rfl) ⟨_, rfl, rfl, (hS.keep sn sl trivial)⟩
     ·
      refine sk <| tn <| wq <| wp_quiet rfl (by kernel_rfl) hS <| qv (fun W hC => (v_move hF rfl)) hF rfl fun a hF => qv (fun W hC => (v_indexAddr hF rfl rfl par46 hb9.1 hb9.2)) hF rfl fun a hF => qv (fun W hC => (v_load1 hF rfl pa44 (cells_sub (vs := [.int .u64 ((u0.at x4))]) (hC.2.bc (i := 1) rfl) rfl (A12u64.get u0 x4 hb9.1 hb9.2)))) hF rfl fun a hF => qv (fun W hC => (v_move hF rfl)) hF rfl fun a hF => qv (fun W hC => (v_indexAddr hF rfl rfl par46 hb9.1 hb9.2)) hF rfl fun a hF => qv (fun W hC => (v_load1 hF rfl pa44 (cells_sub (vs := [.int .u64 ((u1.at x4))]) (hC.2.bc (i := 0) rfl) rfl (A12u64.get u1 x4 hb9.1 hb9.2)))) hF rfl fun a hF => qv (fun W hC => (v_gtr hF rfl rfl)) hF rfl fun a hF => qn ?_
      intro W hC
      have hS := hC.2
      refine tn <| wi hF rfl h (fun h => ?_) fun h => ?_
      ·
       refine wq <| wg <| av hF rfl rfl fun a hF => nl <| tn <| rt <| br <| tr <| tr <| br <| tr <| tr ?_
       obtain rfl := si h
       have h := hk6
       dsimp only at h
       obtain rfl := si h
       exact ret1 hF rfl (rv_tmp hF rfl) ⟨_, rfl, rfl, (hS.keep sn sl trivial)⟩
      ·
       exact sk <| bn <| tn <| wg <| mv hF rfl rfl fun a hF => sv (v_add hF rfl rfl) hF rfl fun a hF => av hF rfl rfl fun a hF => nl <| then_j ⟨m7, Nat.lt_succ_self _, (IntKind.i64.wrap (x4 + 1)), (hF.keep ⟨rfl, rfl, rfl, trivial⟩), hS, h⟩
    ·
     refine wp_exit <| tx <| tx <| bh ?_
     obtain rfl := si h
     exact then_j ⟨rfl, (hF.keep trivial), (hS.keep sn sl trivial)⟩

theorem ok_ref01_Compare (k : Nat) {M : Nat → Prop} {w0 : World} {u0 : TCube} {u1 : TCube} {o : Int} (hS : St M w0 [] [] [] w0) (h : ref01_Compare k u0 u1 = some o) :
    Calls Tryz.prog 115 #[.agg (TCube.enc u0).toArray, .agg (TCube.enc u1).toArray] w0 fun e W' => ∃ v, e = .returned v ∧ (v = .int .i64 (o) ∧ St M w0 [] [] [] W') := by
  unfold ref01_Compare at h
  refine cst Tryz.func115 rfl rfl rfl fun a hF => wq <| wg <| bv hF hS rfl rfl rfl fun b1 a W hF hS => bv hF hS rfl rfl rfl fun b2 a W hF hS => av hF rfl rfl fun a hF => nl <| tn <| wq <| wg <| fv hF rfl pf48_1 rfl fun a hF => sv (v_load (cs := A12u64.enc u0.Care) hF rfl pa46 ps46 (cells_sub (vs := A12u64.enc u0.Care) (hS.bc (i := 1) rfl) rfl rfl)) hF rfl fun a hF => fv hF rfl pf48_1 rfl fun a hF => sv (v_load (cs := A12u64.enc u1.Care) hF rfl pa46 ps46 (cells_sub (vs := A12u64.enc u1.Care) (hS.bc (i := 0) rfl) rfl rfl)) hF rfl fun a hF => ?_
  obtain ⟨x3, hx4, h⟩ := bindS h
  refine cl hF pc183 rfl rfl (ok_ref01_Order k (hS.enter trivial) hx4) hS fun W a hF hS => av hF rfl rfl fun a hF => nl <| tn <| wq <| wq <| wg <| mv hF rfl rfl fun a hF => sv (v_neq hF rfl rfl) hF rfl fun a hF => nl <| tn <| wi hF rfl h (fun h => ?_) fun h => ?_
  ·
   refine wq <| wg <| mv hF rfl rfl fun a hF => av hF rfl rfl fun a hF => nl <| tn <| rt <| tr ?_
   obtain rfl := si h
   exact ret1 hF rfl (rv_tmp hF rfl) ⟨_, rfl, rfl, (hS.keep sn sl trivial)⟩
  ·
   refine sk <| tn <| wq <| wg <| fv hF rfl pf48_0 rfl fun a hF => sv (v_load (cs := A12u64.enc u0.Value) hF rfl pa46 ps46 (cells_sub (vs := A12u64.enc u0.Value) (hS.bc (i := 1) rfl) rfl rfl)) hF rfl fun a hF => fv hF rfl pf48_0 rfl fun a hF => sv (v_load (cs := A12u64.enc u1.Value) hF rfl pa46 ps46 (cells_sub (vs := A12u64.enc u1.Value) (hS.bc (i := 0) rfl) rfl rfl)) hF rfl fun a hF => ?_
   obtain ⟨x7, hx8, h⟩ := bindS h
   refine cl hF pc183 rfl rfl (ok_ref01_Order k (hS.enter trivial) hx8) hS fun W a hF hS => av hF rfl rfl fun a hF => nl <| tn <| rt ?_
   obtain rfl := si h
   exact ret1 hF rfl (rv_tmp hF rfl) ⟨_, rfl, rfl, (hS.keep sn sl trivial)⟩

theorem ok_ref04_Before (k : Nat) {M : Nat → Prop} {w0 : World} {u0 : TRule} {A0_0 : Option Addr} {c0_0 : Nat} {u1 : TRule} {A1_0 : Option Addr} {c1_0 : Nat} {o : Bool} (hS : St M w0 [] [] [fSl k_TAct A0_0 c0_0 u0.Acts, fSl k_TAct A1_0 c1_0 u1.Acts] w0) (h : ref04_Before k u0 u1 = some o) :
    Calls Tryz.prog 84 #[.agg (TRule.enc u0 A0_0 c0_0).toArray, .agg (TRule.enc u1 A1_0 c1_0).toArray] w0 fun e W' => ∃ v, e = .returned v ∧ (v = .bool (o) ∧ St M w0 [] [] [] W') := by
  unfold ref04_Before at h
  refine cst Tryz.func84 rfl rfl rfl fun a hF => wq <| wg <| bv hF hS rfl rfl rfl fun b1 a W hF hS => bv hF hS rfl rfl rfl fun b2 a W hF hS => av hF rfl rfl fun a hF => nl <| tn <| wq <| wq <| wg <| fv hF rfl pf51_1 rfl fun a hF => lv hF rfl pa3 (hS.bc (i := 1) rfl) rfl rfl rfl fun a hF => fv hF rfl pf51_1 rfl fun a hF => lv hF rfl pa3 (hS.bc (i := 0) rfl) rfl rfl rfl fun a hF => sv (v_neq hF rfl rfl) hF rfl fun a hF => nl <| tn <| wi hF rfl h (fun h => ?_) fun h => ?_
  ·
   refine wq <| wg <| fv hF rfl pf51_1 rfl fun a hF => lv hF rfl pa3 (hS.bc (i := 1) rfl) rfl rfl rfl fun a hF => fv hF rfl pf51_1 rfl fun a hF => lv hF rfl pa3 (hS.bc (i := 0) rfl) rfl rfl rfl fun a hF => sv (v_gtr hF rfl rfl) hF rfl fun a hF => av hF rfl rfl fun a hF => nl <| tn <| rt <| tr ?_
   obtain rfl := si h
   exact ret1 hF rfl (rv_tmp hF rfl) ⟨_, rfl, rfl, (hS.keep sn sl trivial)⟩
  ·
   refine sk <| tn <| wq <| wg <| fv hF rfl pf51_0 rfl fun a hF => sv (v_load (cs := TCube.enc u0.Match) hF rfl pa48 ps48 (cells_sub (vs := TCube.enc u0.Match) (hS.bc (i := 1) rfl) rfl rfl)) hF rfl fun a hF => fv hF rfl pf51_0 rfl fun a hF => sv (v_load (cs := TCube.enc u1.Match) hF rfl pa48 ps48 (cells_sub (vs := TCube.enc u1.Match) (hS.bc (i := 0) rfl) rfl rfl)) hF rfl fun a hF => ?_
   obtain ⟨x4, hx5, h⟩ := bindS h
   refine cl hF pc115 rfl rfl (ok_ref01_Compare k (hS.enter trivial) hx5) hS fun W a hF hS => sv (v_lss hF rfl rfl) hF rfl fun a hF => av hF rfl rfl fun a hF => nl <| tn <| rt ?_
   obtain rfl := si h
   exact ret1 hF rfl (rv_tmp hF rfl) ⟨_, rfl, rfl, (hS.keep sn sl trivial)⟩

theorem ok_ref04_Table (k : Nat) {M : Nat → Prop} {w0 : World} {u0 : List TRule} {A0_0 : Option Addr} {c0_0 : Nat} {o : Bool} (hS : St M w0 [] [] [fSl k_TRule A0_0 c0_0 u0] w0) (h : ref04_Table k u0 = some o) :
    Calls Tryz.prog 35 #[.slice A0_0 ((u0).length) c0_0] w0 fun e W' => ∃ v, e = .returned v ∧ (v = .bool (o) ∧ St M w0 [] [] [] W') := by
  unfold ref04_Table at h
  refine cst Tryz.func35 rfl rfl rfl fun a hF => wq <| wg <| av hF rfl rfl fun a hF => nl <| tn <| wq <| wq <| wg <| av hF rfl rfl fun a hF => nl <| tn ?_
  obtain ⟨o3, h, hk4⟩ := bindS h
  refine wp_join (fun a W => Lo.brk () = o3 ∧ FH 33 [] a ∧ St M w0 [] [] [] W) (fun a W hJ => ?_) ?_
  ·
   obtain ⟨rfl, hF, hS⟩ := hJ
   have h := hk4
   dsimp only at h
   refine tn <| wq <| wg <| av hF rfl rfl fun a hF => nl <| tn <| rt ?_
   obtain rfl := si h
   exact ret1 hF rfl (rv_tmp hF rfl) ⟨_, rfl, rfl, hS⟩
  ·
   refine wb <| wp_loop_fuel (I := fun m a W => ∃ (x2 : Int), FH 33 [(0, .slice A0_0 ((u0).length) c0_0), (3, .int .i64 (x2))] a ∧ St M w0 [] [] [fSl k_TRule A0_0 c0_0 u0] W ∧ (ref04_Table.l0 k u0 m x2) = some o3) ?_ (k := k) ⟨0, (hF.keep ⟨rfl, rfl, trivial⟩), hS, h⟩
   rintro m5 a W ⟨x2, hF, hS, h⟩
   cases m5 with
   | zero => cases h
   | succ m5 =>
    rw [ref04_Table.l0] at h
    refine wq <| wq <| wg <| mv hF rfl rfl fun a hF => mv hF rfl rfl fun a hF => sv (v_len hF rfl pu26) hF rfl fun a hF => sv (v_lss hF rfl rfl) hF rfl fun a hF => nl <| tn <| wi hF rfl h (fun h => ?_) fun h => ?_
    ·
     refine sk <| tn <| wq <| wb <| wq <| wp_quiet rfl (by kernel_rfl) hS <| qv (fun W hC => (v_move hF rfl)) hF rfl fun a hF => qv (fun W hC => (v_move hF rfl)) hF rfl fun a hF => ?_
     obtain ⟨x7, hx8, h⟩ := bindS h
     obtain ⟨p9, cs10, hA11, hat12⟩ := SlR.at (hS.fc (i := 0) rfl) hx8
     obtain ⟨A13, c14, rfl, hs15⟩ := hat12.2.2.2
     refine qv (fun W hC => (v_idx hF rfl hA11 rfl psl26 hx8)) hF rfl fun a hF => qv (fun W hC => (v_load (cs := TRule.enc x7 A13 c14) hF rfl pa51 ps51 (hat12.2.2.1.grow hC.1))) hF rfl fun a hF => ?_
     obtain ⟨x16, hx17, h⟩ := bindS h
     refine qt_call hF pc83 rfl (by decide) (fun W hC => q_of hC (ok_ref04_Rule k ((hC.2.addFact (f := fSl k_TAct A13 c14 x7.Acts) ((fSl k_TAct A13 c14 x7.Acts).st hs15 (Stp.below hC.1))).enter ⟨⟨0, rfl⟩, trivial⟩) hx17)) (fun a hF => ?_)
     refine qv (fun W hC => (v_not hF rfl)) hF rfl fun a hF => qv (fun W hC => (v_move hF rfl)) hF rfl fun a hF => ?_
     obtain ⟨x19, h, hk21⟩ := bindS h
     refine qt_cut 16 (fun a => FH 33 [(0, .slice A0_0 ((u0).length) c0_0), (3, .int .i64 (x2)), (32, .bool x19)] a) (fun a hF => ?_) ?_
     ·
      have h := hk21
      refine qn ?_
      intro W hC
      have hS := hC.2
      refine tn <| wi hF rfl h (fun h => ?_) fun h => ?_
      ·
       refine wq <| wg <| av hF rfl rfl fun a hF => nl <| tn <| rt <| br <| tr <| tr <| br <| tr <| tr ?_
       obtain rfl := si h
       have h := hk4
       dsimp only at h
       obtain rfl := si h
       exact ret1 hF rfl (rv_tmp hF rfl) ⟨_, rfl, rfl, (hS.keep sl sl trivial)⟩
      ·
       exact sk <| bn <| tn <| wg <| mv hF rfl rfl fun a hF => sv (v_add hF rfl rfl) hF rfl fun a hF => av hF rfl rfl fun a hF => nl <| then_j ⟨m5, Nat.lt_succ_self _, (IntKind.i64.wrap (x2 + 1)), (hF.keep ⟨rfl, rfl, trivial⟩), hS, h⟩
     ·
      by_cases he18 : (!x16) = true
      ·
       replace h := ifT he18 h
       refine qt_no hF rfl rfl he18 (by decide) (fun a hF => ?_)
       refine qt_no hF rfl rfl he18 (by decide) (fun a hF => ?_)
       refine qt_no hF rfl rfl he18 (by decide) (fun a hF => ?_)
       refine qt_no2 hF rfl rfl (by decide) (fun a hF => ?_)
       refine qt_no2 hF rfl rfl (by decide) (fun a hF => ?_)
       refine qt_no2 hF rfl rfl (by decide) (fun a hF => ?_)
       refine qt_no2 hF rfl rfl (by decide) (fun a hF => ?_)
       refine qt_no2 hF rfl rfl (by decide) (fun a hF => ?_)
       refine qt_no2 hF rfl rfl (by decide) (fun a hF => ?_)
       refine qt_no2 hF rfl rfl (by decide) (fun a hF => ?_)
       refine qt_no2 hF rfl rfl (by decide) (fun a hF => ?_)
       refine qt_no2 hF rfl rfl (by decide) (fun a hF => ?_)
       refine qt_no2 hF rfl rfl (by decide) (fun a hF => ?_)
       refine qt_no2 hF rfl rfl (by decide) (fun a hF => ?_)
       refine qt_no hF rfl rfl he18 (by decide) (fun a hF => ?_)
       refine qv (fun W hC => (v_pick_t hF rfl he18 rfl)) hF rfl fun a hF => ?_
       obtain rfl := si h
       exact qt_nil (hF.keep ⟨rfl, rfl, rfl, trivial⟩)
      ·
       have he18 : (!x16) = false := nB he18
       replace h := ifF he18 h
       refine qt_yes hF rfl rfl he18 <| qv (fun W hC => (v_move hF rfl)) hF rfl fun a hF => qt_yes hF rfl rfl he18 <| qv (fun W hC => (v_gtr hF rfl rfl)) hF rfl fun a hF => qt_yes hF rfl rfl he18 <| qv (fun W hC => (v_move hF rfl)) hF rfl fun a hF => ?_
       obtain ⟨x23, h, hk25⟩ := bindS h
       refine qt_cut 12 (fun a => FH 33 [(0, .slice A0_0 ((u0).length) c0_0), (3, .int .i64 (x2)), (16, .bool ((!x16))), (17, .int .i64 (x2)), (18, .bool ((decide (0 < x2)))), (19, .bool ((decide (0 < x2)))), (31, .bool x23)] a) (fun a hF => ?_) ?_
       ·
        have h := hk25
        refine qv (fun W hC => (v_pick_f hF rfl he18 rfl)) hF rfl fun a hF => ?_
        obtain rfl := si h
        exact qt_nil (hF.keep ⟨rfl, rfl, rfl, trivial⟩)
       ·
        by_cases he22 : (decide (0 < x2)) = true
        ·
         replace h := ifT he22 h
         refine qt_yes hF rfl rfl he22 <| qv (fun W hC => (v_move hF rfl)) hF rfl fun a hF => qt_yes hF rfl rfl he22 <| qv (fun W hC => (v_move hF rfl)) hF rfl fun a hF => qt_yes hF rfl rfl he22 <| qv (fun W hC => (v_sub hF rfl rfl)) hF rfl fun a hF => qt_yes hF rfl rfl he22 ?_
         obtain ⟨x26, hx27, h⟩ := bindS h
         obtain ⟨p28, cs29, hA30, hat31⟩ := SlR.at (hS.fc (i := 0) rfl) hx27
         obtain ⟨A32, c33, rfl, hs34⟩ := hat31.2.2.2
         refine qv (fun W hC => (v_idx hF rfl hA30 rfl psl26 hx27)) hF rfl fun a hF => qt_yes hF rfl rfl he22 <| qv (fun W hC => (v_load (cs := TRule.enc x26 A32 c33) hF rfl pa51 ps51 (hat31.2.2.1.grow hC.1))) hF rfl fun a hF => qt_yes hF rfl rfl he22 <| qv (fun W hC => (v_move hF rfl)) hF rfl fun a hF => qt_yes hF rfl rfl he22 <| qv (fun W hC => (v_move hF rfl)) hF rfl fun a hF => qt_yes hF rfl rfl he22 ?_
         obtain ⟨p35, cs36, hA37, hat38⟩ := SlR.at (hS.fc (i := 0) rfl) hx8
         obtain ⟨A39, c40, rfl, hs41⟩ := hat38.2.2.2
         refine qv (fun W hC => (v_idx hF rfl hA37 rfl psl26 hx8)) hF rfl fun a hF => qt_yes hF rfl rfl he22 <| qv (fun W hC => (v_load (cs := TRule.enc x7 A39 c40) hF rfl pa51 ps51 (hat38.2.2.1.grow hC.1))) hF rfl fun a hF => qt_yes hF rfl rfl he22 ?_
         obtain ⟨x42, hx43, h⟩ := bindS h
         refine qt_call hF pc84 rfl (by decide) (fun W hC => q_of hC (ok_ref04_Before k (((hC.2.addFact (f := fSl k_TAct A32 c33 x26.Acts) ((fSl k_TAct A32 c33 x26.Acts).st hs34 (Stp.below hC.1))).addFact (f := fSl k_TAct A39 c40 x7.Acts) ((fSl k_TAct A39 c40 x7.Acts).st hs41 (Stp.below hC.1))).enter ⟨⟨1, rfl⟩, ⟨0, rfl⟩, trivial⟩) hx43)) (fun a hF => ?_)
         refine qt_yes hF rfl rfl he22 <| qv (fun W hC => (v_not hF rfl)) hF rfl fun a hF => qt_yes hF rfl rfl he18 <| qv (fun W hC => (v_pick_t hF rfl he22 rfl)) hF rfl fun a hF => ?_
         obtain rfl := si h
         exact qt_nil (hF.keep ⟨rfl, rfl, rfl, rfl, rfl, rfl, rfl, trivial⟩)
        ·
         have he22 : (decide (0 < x2)) = false := nB he22
         replace h := ifF he22 h
         refine qt_no hF rfl rfl he22 (by decide) (fun a hF => ?_)
         refine qt_no hF rfl rfl he22 (by decide) (fun a hF => ?_)
         refine qt_no hF rfl rfl he22 (by decide) (fun a hF => ?_)
         refine qt_no hF rfl rfl he22 (by decide) (fun a hF => ?_)
         refine qt_no hF rfl rfl he22 (by decide) (fun a hF => ?_)
         refine qt_no hF rfl rfl he22 (by decide) (fun a hF => ?_)
         refine qt_no hF rfl rfl he22 (by decide) (fun a hF => ?_)
         refine qt_no hF rfl rfl he22 (by decide) (fun a hF => ?_)
         refine qt_no hF rfl rfl he22 (by decide) (fun a hF => ?_)
         refine qt_no hF rfl rfl he22 (by decide) (fun a hF => ?_)
         refine qt_no hF rfl rfl he22 (by decide) (fun a hF => ?_)
         refine qt_yes hF rfl rfl he18 <| qv (fun W hC => (v_pick_f hF rfl he22 rfl)) hF rfl fun a hF => ?_
         obtain rfl := si h
         exact qt_nil (hF.keep ⟨rfl, rfl, rfl, rfl, rfl, rfl, rfl, trivial⟩)
    ·
     refine wp_exit <| tx <| tx <| bh ?_
     obtain rfl := si h
     exact then_j ⟨rfl, (hF.keep trivial), (hS.keep sl sl trivial)⟩

theorem ok_ref04_Mod (k : Nat) {M : Nat → Prop} {w0 : World} {u0 : TMod} {A0_0 : Option Addr} {c0_0 : Nat} {o : Bool} (hS : St M w0 [] [] [fSl k_TAct A0_0 c0_0 u0.Acts] w0) (h : ref04_Mod k u0 = some o) :
    Calls Tryz.prog 26 #[.agg (TMod.enc u0 A0_0 c0_0).toArray] w0 fun e W' => ∃ v, e = .returned v ∧ (v = .bool (o) ∧ St M w0 [] [] [] W') := by
  unfold ref04_Mod at h
  refine cst Tryz.func26 rfl rfl rfl fun a hF => wq <| wg <| bv hF hS rfl rfl rfl fun b1 a W hF hS => av hF rfl rfl fun a hF => nl <| tn <| wq <| wq <| wg <| fv hF rfl pf57_0 rfl fun a hF => lv hF rfl pa3 (hS.bc (i := 0) rfl) rfl rfl rfl fun a hF => sv (v_lss hF rfl rfl) hF rfl fun a hF => mv hF rfl rfl fun a hF => gor 3 3 6 ((decide (5 < u0.Kind))) hF rfl rfl rfl rfl rfl (fun _ => ?_) (fun a hF => ?_)
  ·
   exact fv hF rfl pf57_0 rfl fun a hF => lv hF rfl pa3 (hS.bc (i := 0) rfl) rfl rfl rfl fun a hF => sv (v_gtr hF rfl rfl) hF rfl fun a hF => gq 3 hF rfl rfl rfl
  ·
   refine mv hF rfl rfl fun a hF => gorB 4 8 11 hF hS h rfl rfl rfl rfl rfl (fun r5 h => ?_) (fun x4 a W h hF hS => ?_)
   ·
    refine fv hF rfl pf57_1 rfl fun a hF => sv (v_load (cs := TCube.enc u0.Match) hF rfl pa48 ps48 (cells_sub (vs := TCube.enc u0.Match) (hS.bc (i := 0) rfl) rfl rfl)) hF rfl fun a hF => ?_
    obtain ⟨x6, hx7, h⟩ := bindS h
    refine cl hF pc64 rfl rfl (ok_ref01_Cube k (hS.enter trivial) hx7) hS fun W a hF hS => sv (v_not hF rfl) hF rfl fun a hF => ?_
    obtain rfl := si h
    exact gs 4 hF hS rfl rfl rfl
   ·
    refine mv hF rfl rfl fun a hF => gorB 4 14 17 hF hS h rfl rfl rfl rfl rfl (fun r11 h => ?_) (fun x10 a W h hF hS => ?_)
    ·
     refine fv hF rfl pf57_3 rfl fun a hF => lv hF rfl pa49 (hS.bc (i := 0) rfl) rfl rfl rfl fun a hF => ?_
     obtain ⟨x12, hx13, h⟩ := bindS h
     refine cl hF pc65 rfl rfl (ok_ref04_Acts k (hS.enter ⟨⟨0, rfl⟩, trivial⟩) hx13) hS fun W a hF hS => sv (v_not hF rfl) hF rfl fun a hF => ?_
     obtain rfl := si h
     exact gs 4 hF hS rfl rfl rfl
    ·
     refine mv hF rfl rfl fun a hF => gorB 4 20 23 hF hS h rfl rfl rfl rfl rfl (fun r17 h => ?_) (fun x16 a W h hF hS => ?_)
     ·
      refine fv hF rfl pf57_2 rfl fun a hF => lv hF rfl pa3 (hS.bc (i := 0) rfl) rfl rfl rfl fun a hF => ?_
      obtain ⟨x18, hx19, h⟩ := bindS h
      refine cl hF pc66 rfl rfl (ok_ref04_span (hS.enter trivial) hx19) hS fun W a hF hS => sv (v_not hF rfl) hF rfl fun a hF => ?_
      obtain rfl := si h
      exact gs 4 hF hS rfl rfl rfl
     ·
      refine mv hF rfl rfl fun a hF => gorB 4 26 29 hF hS h rfl rfl rfl rfl rfl (fun r23 h => ?_) (fun x22 a W h hF hS => ?_)
      ·
       refine fv hF rfl pf57_6 rfl fun a hF => lv hF rfl pa3 (hS.bc (i := 0) rfl) rfl rfl rfl fun a hF => ?_
       obtain ⟨x24, hx25, h⟩ := bindS h
       refine cl hF pc66 rfl rfl (ok_ref04_span (hS.enter trivial) hx25) hS fun W a hF hS => sv (v_not hF rfl) hF rfl fun a hF => ?_
       obtain rfl := si h
       exact gs 4 hF hS rfl rfl rfl
      ·
       refine mv hF rfl rfl fun a hF => gorB 4 32 35 hF hS h rfl rfl rfl rfl rfl (fun r29 h => ?_) (fun x28 a W h hF hS => ?_)
       ·
        refine fv hF rfl pf57_4 rfl fun a hF => lv hF rfl pa3 (hS.bc (i := 0) rfl) rfl rfl rfl fun a hF => ?_
        obtain ⟨x30, hx31, h⟩ := bindS h
        refine cl hF pc66 rfl rfl (ok_ref04_span (hS.enter trivial) hx31) hS fun W a hF hS => sv (v_not hF rfl) hF rfl fun a hF => ?_
        obtain rfl := si h
        exact gs 4 hF hS rfl rfl rfl
       ·
        refine mv hF rfl rfl fun a hF => gorB 4 38 41 hF hS h rfl rfl rfl rfl rfl (fun r35 h => ?_) (fun x34 a W h hF hS => ?_)
        ·
         refine fv hF rfl pf57_5 rfl fun a hF => lv hF rfl pa3 (hS.bc (i := 0) rfl) rfl rfl rfl fun a hF => ?_
         obtain ⟨x36, hx37, h⟩ := bindS h
         refine cl hF pc66 rfl rfl (ok_ref04_span (hS.enter trivial) hx37) hS fun W a hF hS => sv (v_not hF rfl) hF rfl fun a hF => ?_
         obtain rfl := si h
         exact gs 4 hF hS rfl rfl rfl
        ·
         refine nl <| tn <| wi hF rfl h (fun h => ?_) fun h => ?_
         ·
          refine wq <| wg <| av hF rfl rfl fun a hF => nl <| tn <| rt <| tr ?_
          obtain rfl := si h
          exact ret1 hF rfl (rv_tmp hF rfl) ⟨_, rfl, rfl, (hS.keep sn sl trivial)⟩
         ·
          refine sk <| tn <| wq <| wq <| wg <| fv hF rfl pf57_0 rfl fun a hF => lv hF rfl pa3 (hS.bc (i := 0) rfl) rfl rfl rfl fun a hF => sv (v_neq hF rfl rfl) hF rfl fun a hF => mv hF rfl rfl fun a hF => sq_cut 13 (fun a W => FH 91 [(1, .pointer (some (⟨b1, 0, none⟩))), (63, .bool ((u0.Kind != 1) && (((u0.Idle != 0) || (u0.Hard != 0)) || u0.Check)))] a ∧ St M w0 [⟨b1, TMod.enc u0 A0_0 c0_0, 57⟩] [] [fSl k_TAct A0_0 c0_0 u0.Acts] W) (fun a W hJ => ?_) ?_
          ·
           obtain ⟨hF, hS⟩ := hJ
           refine nl <| tn <| wi hF rfl h (fun h => ?_) fun h => ?_
           ·
            refine wq <| wg <| av hF rfl rfl fun a hF => nl <| tn <| rt <| tr ?_
            obtain rfl := si h
            exact ret1 hF rfl (rv_tmp hF rfl) ⟨_, rfl, rfl, (hS.keep sn sl trivial)⟩
           ·
            refine sk <| tn <| wq <| wq <| wg <| fv hF rfl pf57_0 rfl fun a hF => lv hF rfl pa3 (hS.bc (i := 0) rfl) rfl rfl rfl fun a hF => sv (v_eql hF rfl rfl) hF rfl fun a hF => mv hF rfl rfl fun a hF => gor 3 3 67 ((u0.Kind == 3)) hF rfl rfl rfl rfl rfl (fun _ => ?_) (fun a hF => ?_)
            ·
             exact fv hF rfl pf57_0 rfl fun a hF => lv hF rfl pa3 (hS.bc (i := 0) rfl) rfl rfl rfl fun a hF => sv (v_eql hF rfl rfl) hF rfl fun a hF => gq 3 hF rfl rfl rfl
            ·
             refine mv hF rfl rfl fun a hF => gand 3 8 72 ((u0.Prio != 0)) hF rfl rfl rfl rfl rfl (fun _ => ?_) (fun a hF => ?_)
             ·
              exact fv hF rfl pf57_2 rfl fun a hF => lv hF rfl pa3 (hS.bc (i := 0) rfl) rfl rfl rfl fun a hF => sv (v_neq hF rfl rfl) hF rfl fun a hF => gq 3 hF rfl rfl rfl
             ·
              refine nl <| tn <| wi hF rfl h (fun h => ?_) fun h => ?_
              ·
               refine wq <| wg <| av hF rfl rfl fun a hF => nl <| tn <| rt <| tr ?_
               obtain rfl := si h
               exact ret1 hF rfl (rv_tmp hF rfl) ⟨_, rfl, rfl, (hS.keep sn sl trivial)⟩
              ·
               refine sk <| tn <| wq <| wg <| fv hF rfl pf57_0 rfl fun a hF => lv hF rfl pa3 (hS.bc (i := 0) rfl) rfl rfl rfl fun a hF => sv (v_neq hF rfl rfl) hF rfl fun a hF => mv hF rfl rfl fun a hF => gand 3 3 80 ((u0.Kind != 5)) hF rfl rfl rfl rfl rfl (fun _ => ?_) (fun a hF => ?_)
               ·
                exact fv hF rfl pf57_0 rfl fun a hF => lv hF rfl pa3 (hS.bc (i := 0) rfl) rfl rfl rfl fun a hF => sv (v_neq hF rfl rfl) hF rfl fun a hF => gq 3 hF rfl rfl rfl
               ·
                refine mv hF rfl rfl fun a hF => gor 4 8 85 (((u0.Acts.length : Int) == 0)) hF rfl rfl rfl rfl rfl (fun _ => ?_) (fun a hF => ?_)
                ·
                 exact fv hF rfl pf57_3 rfl fun a hF => lv hF rfl pa49 (hS.bc (i := 0) rfl) rfl rfl rfl fun a hF => sv (v_len hF rfl pu49) hF rfl fun a hF => sv (v_eql hF rfl rfl) hF rfl fun a hF => gq 4 hF rfl rfl rfl
                ·
                 refine av hF rfl rfl fun a hF => nl <| tn <| rt ?_
                 obtain rfl := si h
                 exact ret1 hF rfl (rv_tmp hF rfl) ⟨_, rfl, rfl, (hS.keep sn sl trivial)⟩
          ·
           by_cases he40 : (u0.Kind != 1) = true
           ·
            refine sq_yes hF rfl rfl he40 <| fv hF rfl pf57_4 rfl fun a hF => sq_yes hF rfl rfl he40 <| lv hF rfl pa3 (hS.bc (i := 0) rfl) rfl rfl rfl fun a hF => sq_yes hF rfl rfl he40 <| sv (v_neq hF rfl rfl) hF rfl fun a hF => sq_yes hF rfl rfl he40 <| mv hF rfl rfl fun a hF => sq_cut 4 (fun a W => FH 91 [(1, .pointer (some (⟨b1, 0, none⟩))), (50, .bool ((u0.Kind != 1))), (58, .bool ((u0.Idle != 0) || (u0.Hard != 0)))] a ∧ St M w0 [⟨b1, TMod.enc u0 A0_0 c0_0, 57⟩] [] [fSl k_TAct A0_0 c0_0 u0.Acts] W) (fun a W hJ => ?_) ?_
            ·
             obtain ⟨hF, hS⟩ := hJ
             refine sq_yes hF rfl rfl he40 <| mv hF rfl rfl fun a hF => sq_cut 3 (fun a W => FH 91 [(1, .pointer (some (⟨b1, 0, none⟩))), (50, .bool ((u0.Kind != 1))), (62, .bool (((u0.Idle != 0) || (u0.Hard != 0)) || u0.Check))] a ∧ St M w0 [⟨b1, TMod.enc u0 A0_0 c0_0, 57⟩] [] [fSl k_TAct A0_0 c0_0 u0.Acts] W) (fun a W hJ => ?_) ?_
             ·
              obtain ⟨hF, hS⟩ := hJ
              exact sv (v_pick_t hF rfl he40 rfl) hF rfl fun a hF => sq_nil (then_j ⟨(hF.keep ⟨rfl, (boolV (and_t he40)), trivial⟩), hS⟩)
             ·
              by_cases he42 : ((u0.Idle != 0) || (u0.Hard != 0)) = true
              ·
               refine sq_no hF rfl rfl he42 (by rintro x ⟨⟩; decide) (fun a hF => ?_)
               refine sq_no hF rfl rfl he42 (by rintro x ⟨⟩; decide) (fun a hF => ?_)
               exact sq_yes hF rfl rfl he40 <| sv (v_pick_t hF rfl he42 rfl) hF rfl fun a hF => sq_nil (then_j ⟨(hF.keep ⟨rfl, rfl, (boolV (or_t he42)), trivial⟩), hS⟩)
              ·
               have he42 : ((u0.Idle != 0) || (u0.Hard != 0)) = false := nB he42
               exact sq_yes hF rfl rfl he42 <| fv hF rfl pf57_7 rfl fun a hF => sq_yes hF rfl rfl he42 <| lv hF rfl pa4 (hS.bc (i := 0) rfl) rfl rfl rfl fun a hF => sq_yes hF rfl rfl he40 <| sv (v_pick_f hF rfl he42 rfl) hF rfl fun a hF => sq_nil (then_j ⟨(hF.keep ⟨rfl, rfl, (boolV (or_f he42)), trivial⟩), hS⟩)
            ·
             by_cases he41 : (u0.Idle != 0) = true
             ·
              refine sq_no hF rfl rfl he41 (by rintro x ⟨⟩; decide) (fun a hF => ?_)
              refine sq_no hF rfl rfl he41 (by rintro x ⟨⟩; decide) (fun a hF => ?_)
              refine sq_no hF rfl rfl he41 (by rintro x ⟨⟩; decide) (fun a hF => ?_)
              exact sq_yes hF rfl rfl he40 <| sv (v_pick_t hF rfl he41 rfl) hF rfl fun a hF => sq_nil (then_j ⟨(hF.keep ⟨rfl, rfl, (boolV (or_t he41)), trivial⟩), hS⟩)
             ·
              have he41 : (u0.Idle != 0) = false := nB he41
              exact sq_yes hF rfl rfl he41 <| fv hF rfl pf57_5 rfl fun a hF => sq_yes hF rfl rfl he41 <| lv hF rfl pa3 (hS.bc (i := 0) rfl) rfl rfl rfl fun a hF => sq_yes hF rfl rfl he41 <| sv (v_neq hF rfl rfl) hF rfl fun a hF => sq_yes hF rfl rfl he40 <| sv (v_pick_f hF rfl he41 rfl) hF rfl fun a hF => sq_nil (then_j ⟨(hF.keep ⟨rfl, rfl, (boolV (or_f he41)), trivial⟩), hS⟩)
           ·
            have he40 : (u0.Kind != 1) = false := nB he40
            refine sq_no hF rfl rfl he40 (by rintro x ⟨⟩; decide) (fun a hF => ?_)
            refine sq_no hF rfl rfl he40 (by rintro x ⟨⟩; decide) (fun a hF => ?_)
            refine sq_no hF rfl rfl he40 (by rintro x ⟨⟩; decide) (fun a hF => ?_)
            refine sq_no hF rfl rfl he40 (by rintro x ⟨⟩; decide) (fun a hF => ?_)
            refine sq_no2 hF rfl rfl (by rintro x ⟨⟩; decide) (fun a hF => ?_)
            refine sq_no2 hF rfl rfl (by rintro x ⟨⟩; decide) (fun a hF => ?_)
            refine sq_no2 hF rfl rfl (by rintro x ⟨⟩; decide) (fun a hF => ?_)
            refine sq_no hF rfl rfl he40 (by rintro x ⟨⟩; decide) (fun a hF => ?_)
            refine sq_no hF rfl rfl he40 (by rintro x ⟨⟩; decide) (fun a hF => ?_)
            refine sq_no2 hF rfl rfl (by rintro x ⟨⟩; decide) (fun a hF => ?_)
            refine sq_no2 hF rfl rfl (by rintro x ⟨⟩; decide) (fun a hF => ?_)
            refine sq_no hF rfl rfl he40 (by rintro x ⟨⟩; decide) (fun a hF => ?_)
            exact sv (v_pick_f hF rfl he40 rfl) hF rfl fun a hF => sq_nil (then_j ⟨(hF.keep ⟨rfl, (boolV (and_f he40)), trivial⟩), hS⟩)

theorem ok_ref04_Key {M : Nat → Prop} {w0 : World} {u0 : TRule} {A0_0 : Option Addr} {c0_0 : Nat} {u1 : TRule} {A1_0 : Option Addr} {c1_0 : Nat} {o : Bool} (hS : St M w0 [] [] [fSl k_TAct A0_0 c0_0 u0.Acts, fSl k_TAct A1_0 c1_0 u1.Acts] w0) (h : ref04_Key u0 u1 = some o) :
    Calls Tryz.prog 22 #[.agg (TRule.enc u0 A0_0 c0_0).toArray, .agg (TRule.enc u1 A1_0 c1_0).toArray] w0 fun e W' => ∃ v, e = .returned v ∧ (v = .bool (o) ∧ St M w0 [] [] [] W') := by
  unfold ref04_Key at h
  refine cst Tryz.func22 rfl rfl rfl fun a hF => wq <| wg <| bv hF hS rfl rfl rfl fun b1 a W hF hS => bv hF hS rfl rfl rfl fun b2 a W hF hS => av hF rfl rfl fun a hF => nl <| tn <| wq <| wg <| fv hF rfl pf51_0 rfl fun a hF => sv (v_load (cs := TCube.enc u0.Match) hF rfl pa48 ps48 (cells_sub (vs := TCube.enc u0.Match) (hS.bc (i := 1) rfl) rfl rfl)) hF rfl fun a hF => fv hF rfl pf51_0 rfl fun a hF => sv (v_load (cs := TCube.enc u1.Match) hF rfl pa48 ps48 (cells_sub (vs := TCube.enc u1.Match) (hS.bc (i := 0) rfl) rfl rfl)) hF rfl fun a hF => sq_val (eq48 hF rfl rfl).1 hF (by decide) (fun a hF => ?_)
  refine mv hF rfl rfl fun a hF => gand 5 5 10 ((u0.Prio == u1.Prio)) hF rfl rfl rfl rfl rfl (fun _ => ?_) (fun a hF => ?_)
  ·
   exact fv hF rfl pf51_1 rfl fun a hF => lv hF rfl pa3 (hS.bc (i := 1) rfl) rfl rfl rfl fun a hF => fv hF rfl pf51_1 rfl fun a hF => lv hF rfl pa3 (hS.bc (i := 0) rfl) rfl rfl rfl fun a hF => sv (v_eql hF rfl rfl) hF rfl fun a hF => gq 5 hF rfl rfl rfl
  ·
   refine av hF rfl rfl fun a hF => nl <| tn <| rt ?_
   obtain rfl := si h
   exact ret1 hF rfl (rv_tmp hF rfl) ⟨_, rfl, rfl, (hS.keep sn sl trivial)⟩

theorem ok_ref01_From (k : Nat) {M : Nat → Prop} {w0 : World} {u0 : ByteArray} {o : TCube} (hS : St M w0 [] [] [] w0) (h : ref01_From k u0 = some o) :
    Calls Tryz.prog 181 #[.string (u0)] w0 fun e W' => ∃ v, e = .returned v ∧ (v = .agg (TCube.enc o).toArray ∧ St M w0 [] [] [] W') := by
  unfold ref01_From at h
  refine cst Tryz.func181 rfl rfl rfl fun a hF => wq <| wg <| al hF hS pz48 rfl rfl fun b1 a W hF hS => nl <| tn <| wq <| wg <| al hF hS pz48 rfl rfl fun b2 a W hF hS => nl <| tn <| wq <| wg <| av hF rfl rfl fun a hF => nl <| tn <| wq <| wq <| wg <| av hF rfl rfl fun a hF => nl <| tn ?_
  obtain ⟨o12, h, hk13⟩ := bindS h
  refine wp_join (fun a W => ∃ (x11 : TCube), x11 = o12 ∧ FH 58 [(2, .pointer (some (⟨b1, 0, none⟩))), (3, .pointer (some (⟨b2, 0, none⟩)))] a ∧ St M w0 [⟨b2, TCube.enc x11, 48⟩, ⟨b1, TCube.enc TCube.zero, 48⟩] [] [] W) (fun a W hJ => ?_) ?_
  ·
   obtain ⟨x11, rfl, hF, hS⟩ := hJ
   have h := hk13
   refine tn <| wq <| wg <| sv (v_load (cs := TCube.enc x11) hF rfl pa48 ps48 (hS.bc (i := 0) rfl)) hF rfl fun a hF => sq_store (o := 0) (vs := TCube.enc x11) (cs' := TCube.enc x11) hF hS rfl rfl (i := 1) rfl rfl rfl ps48 (TCube.enc_one _) (bl rfl) rfl fun W hS => nl <| tn <| rt ?_
   obtain rfl := si h
   exact ret1 hF rfl (rv_cell (cs := TCube.enc x11) hF rfl pa48 ps48 (hS.bc (i := 1) rfl)) ⟨_, rfl, rfl, (hS.keep sn sl trivial)⟩
  ·
   refine wb <| wp_loop_fuel (I := fun m a W => ∃ (x8 : TCube) (x9 : Int) (x10 : Int), FH 58 [(0, .string (u0)), (2, .pointer (some (⟨b1, 0, none⟩))), (3, .pointer (some (⟨b2, 0, none⟩))), (4, .int .i64 (x9)), (5, .int .i64 (x10))] a ∧ St M w0 [⟨b2, TCube.enc x8, 48⟩, ⟨b1, TCube.enc TCube.zero, 48⟩] [] [] W ∧ (ref01_From.l0 k u0 m x8 x9 x10) = some o12) ?_ (k := k) ⟨TCube.zero, 0, 0, (hF.keep ⟨rfl, rfl, rfl, rfl, rfl, trivial⟩), hS, h⟩
   rintro m14 a W ⟨x8, x9, x10, hF, hS, h⟩
   cases m14 with
   | zero => cases h
   | succ m14 =>
    rw [ref01_From.l0] at h
    refine wq <| wq <| wg <| mv hF rfl rfl fun a hF => sv (v_lss hF rfl rfl) hF rfl fun a hF => nl <| tn <| wi hF rfl h (fun h => ?_) fun h => ?_
    ·
     refine sk <| tn <| wq <| wb <| wq <| wg <| av hF rfl rfl fun a hF => nl <| tn ?_
     obtain ⟨o26, h, hk27⟩ := bindS h
     refine wp_join (fun a W => ∃ (x24 : TCube) (x25 : Int), (x24, x25) = o26 ∧ FH 58 [(0, .string (u0)), (2, .pointer (some (⟨b1, 0, none⟩))), (3, .pointer (some (⟨b2, 0, none⟩))), (4, .int .i64 (x25)), (5, .int .i64 (x10))] a ∧ St M w0 [⟨b2, TCube.enc x24, 48⟩, ⟨b1, TCube.enc TCube.zero, 48⟩] [] [] W) (fun a W hJ => ?_) ?_
     ·
      obtain ⟨x24, x25, rfl, hF, hS⟩ := hJ
      have h := hk27
      dsimp only at h
      exact bn <| tn <| wg <| mv hF rfl rfl fun a hF => sv (v_add hF rfl rfl) hF rfl fun a hF => av hF rfl rfl fun a hF => nl <| then_j ⟨m14, Nat.lt_succ_self _, x24, x25, (IntKind.i64.wrap (x10 + 1)), (hF.keep ⟨rfl, rfl, rfl, rfl, rfl, trivial⟩), hS, h⟩
     ·
      refine wb <| wp_loop_fuel (I := fun m a W => ∃ (x21 : TCube) (x22 : Int) (x23 : Int), FH 58 [(0, .string (u0)), (2, .pointer (some (⟨b1, 0, none⟩))), (3, .pointer (some (⟨b2, 0, none⟩))), (4, .int .i64 (x22)), (5, .int .i64 (x10)), (6, .int .i64 (x23))] a ∧ St M w0 [⟨b2, TCube.enc x21, 48⟩, ⟨b1, TCube.enc TCube.zero, 48⟩] [] [] W ∧ (ref01_From.l1 k u0 x10 m x21 x22 x23) = some o26) ?_ (k := k) ⟨x8, x9, 0, (hF.keep ⟨rfl, rfl, rfl, rfl, rfl, rfl, trivial⟩), hS, h⟩
      rintro m28 a W ⟨x21, x22, x23, hF, hS, h⟩
      cases m28 with
      | zero => cases h
      | succ m28 =>
       rw [ref01_From.l1] at h
       refine wq <| wq <| wg <| mv hF rfl rfl fun a hF => mv hF rfl rfl fun a hF => ?_
       obtain ⟨x29, hx30, h⟩ := bindS h
       refine cl hF pc135 rfl rfl (ok_ref01_Size (hS.enter trivial) hx30) hS fun W a hF hS => sv (v_lss hF rfl rfl) hF rfl fun a hF => nl <| tn <| wi hF rfl h (fun h => ?_) fun h => ?_
       ·
        refine sk <| tn <| wq <| wb <| wq <| wg <| mv hF rfl rfl fun a hF => mv hF rfl rfl fun a hF => fv hF rfl pf48_0 rfl fun a hF => ?_
        obtain ⟨hb33, h⟩ := ifS h
        refine sv (v_indexAddr hF rfl rfl par46 hb33.1 hb33.2) hF rfl fun a hF => sv (v_load1 hF rfl pa44 (cells_sub (vs := [.int .u64 ((x21.Value.at x10))]) (hS.bc (i := 0) rfl) (add_add _ _ _) (TCube.get_Value x21 x10 hb33.1 hb33.2))) hF rfl fun a hF => sv (v_mul hF rfl rfl) hF rfl fun a hF => fv hF rfl pf48_0 rfl fun a hF => sv (v_indexAddr hF rfl rfl par46 hb33.1 hb33.2) hF rfl fun a hF => sq_store (o := 0 + x10.toNat * 1) (vs := [.int .u64 ((IntKind.u64.wrap ((x21.Value.at x10) * 2)))]) (cs' := TCube.enc (TCube.setValue x21 (x21.Value.upd x10 (IntKind.u64.wrap ((x21.Value.at x10) * 2))))) hF hS rfl (by simp only [add_add, add_plain, Nat.zero_add]) (i := 0) rfl rfl rfl ps44 (one1 rfl) (by have h0 := hb33.1; have h1 := hb33.2; simp only [TCube.enc, List.length_cons, List.length_nil]; omega) (TCube.set_Value x21 x10 _ hb33.1 hb33.2) (fun W hS => ?_)
        refine nl <| tn <| wq <| wg <| mv hF rfl rfl fun a hF => mv hF rfl rfl fun a hF => fv hF rfl pf48_1 rfl fun a hF => sv (v_indexAddr hF rfl rfl par46 hb33.1 hb33.2) hF rfl fun a hF => sv (v_load1 hF rfl pa44 (cells_sub (vs := [.int .u64 ((x21.Care.at x10))]) (hS.bc (i := 0) rfl) (add_add _ _ _) (TCube.get_Care (TCube.setValue x21 (x21.Value.upd x10 (IntKind.u64.wrap ((x21.Value.at x10) * 2)))) x10 hb33.1 hb33.2))) hF rfl fun a hF => sv (v_mul hF rfl rfl) hF rfl fun a hF => fv hF rfl pf48_1 rfl fun a hF => sv (v_indexAddr hF rfl rfl par46 hb33.1 hb33.2) hF rfl fun a hF => sq_store (o := 12 + x10.toNat * 1) (vs := [.int .u64 ((IntKind.u64.wrap ((x21.Care.at x10) * 2)))]) (cs' := TCube.enc ({ Value := (x21.Value.upd x10 (IntKind.u64.wrap ((x21.Value.at x10) * 2))), Care := (x21.Care.upd x10 (IntKind.u64.wrap ((x21.Care.at x10) * 2))) } : TCube)) hF hS rfl (by simp only [add_add, add_plain, Nat.zero_add]) (i := 0) rfl rfl rfl ps44 (one1 rfl) (by have h0 := hb33.1; have h1 := hb33.2; simp only [TCube.enc, List.length_cons, List.length_nil]; omega) (TCube.set_Care (TCube.setValue x21 (x21.Value.upd x10 (IntKind.u64.wrap ((x21.Value.at x10) * 2)))) x10 _ hb33.1 hb33.2) (fun W hS => ?_)
        refine nl <| tn <| wq <| wq <| wg <| mv hF rfl rfl fun a hF => mv hF rfl rfl fun a hF => ?_
        obtain ⟨hb34, h⟩ := ifS h
        refine sv (v_indexStr hF rfl rfl pu9 hb34.1 hb34.2) hF rfl fun a hF => sv (v_neq hF rfl rfl) hF rfl fun a hF => nl <| tn ?_
        obtain ⟨o36, h, hk37⟩ := bindS h
        refine wp_join (fun a W => ∃ (x35 : TCube), x35 = o36 ∧ FH 58 [(0, .string (u0)), (2, .pointer (some (⟨b1, 0, none⟩))), (3, .pointer (some (⟨b2, 0, none⟩))), (4, .int .i64 (x22)), (5, .int .i64 (x10)), (6, .int .i64 (x23))] a ∧ St M w0 [⟨b2, TCube.enc x35, 48⟩, ⟨b1, TCube.enc TCube.zero, 48⟩] [] [] W) (fun a W hJ => ?_) ?_
        ·
         obtain ⟨x35, rfl, hF, hS⟩ := hJ
         have h := hk37
         refine tn <| wq <| wq <| wg <| mv hF rfl rfl fun a hF => mv hF rfl rfl fun a hF => sv (v_indexStr hF rfl rfl pu9 hb34.1 hb34.2) hF rfl fun a hF => sv (v_eql hF rfl rfl) hF rfl fun a hF => nl <| tn ?_
         obtain ⟨o39, h, hk40⟩ := bindS h
         refine wp_join (fun a W => ∃ (x38 : TCube), x38 = o39 ∧ FH 58 [(0, .string (u0)), (2, .pointer (some (⟨b1, 0, none⟩))), (3, .pointer (some (⟨b2, 0, none⟩))), (4, .int .i64 (x22)), (5, .int .i64 (x10)), (6, .int .i64 (x23))] a ∧ St M w0 [⟨b2, TCube.enc x38, 48⟩, ⟨b1, TCube.enc TCube.zero, 48⟩] [] [] W) (fun a W hJ => ?_) ?_
         ·
          obtain ⟨x38, rfl, hF, hS⟩ := hJ
          have h := hk40
          exact tn <| wg <| mv hF rfl rfl fun a hF => sv (v_add hF rfl rfl) hF rfl fun a hF => av hF rfl rfl fun a hF => nl <| bn <| tn <| wg <| mv hF rfl rfl fun a hF => sv (v_add hF rfl rfl) hF rfl fun a hF => av hF rfl rfl fun a hF => nl <| then_j ⟨m28, Nat.lt_succ_self _, x38, (IntKind.i64.wrap (x22 + 1)), (IntKind.i64.wrap (x23 + 1)), (hF.keep ⟨rfl, rfl, rfl, rfl, rfl, rfl, trivial⟩), hS, h⟩
         ·
          refine wi hF rfl h (fun h => ?_) fun h => ?_
          ·
           refine wg <| mv hF rfl rfl fun a hF => fv hF rfl pf48_0 rfl fun a hF => sv (v_indexAddr hF rfl rfl par46 hb33.1 hb33.2) hF rfl fun a hF => sv (v_load1 hF rfl pa44 (cells_sub (vs := [.int .u64 ((x35.Value.at x10))]) (hS.bc (i := 0) rfl) (add_add _ _ _) (TCube.get_Value x35 x10 hb33.1 hb33.2))) hF rfl fun a hF => sv (v_add hF rfl rfl) hF rfl fun a hF => fv hF rfl pf48_0 rfl fun a hF => sv (v_indexAddr hF rfl rfl par46 hb33.1 hb33.2) hF rfl fun a hF => sq_store (o := 0 + x10.toNat * 1) (vs := [.int .u64 ((IntKind.u64.wrap ((x35.Value.at x10) + 1)))]) (cs' := TCube.enc (TCube.setValue x35 (x35.Value.upd x10 (IntKind.u64.wrap ((x35.Value.at x10) + 1))))) hF hS rfl (by simp only [add_add, add_plain, Nat.zero_add]) (i := 0) rfl rfl rfl ps44 (one1 rfl) (by have h0 := hb33.1; have h1 := hb33.2; simp only [TCube.enc, List.length_cons, List.length_nil]; omega) (TCube.set_Value x35 x10 _ hb33.1 hb33.2) (fun W hS => ?_)
           refine nl ?_
           obtain rfl := si h
           exact then_j ⟨(TCube.setValue x35 (x35.Value.upd x10 (IntKind.u64.wrap ((x35.Value.at x10) + 1)))), rfl, (hF.keep ⟨rfl, rfl, rfl, rfl, rfl, rfl, trivial⟩), hS⟩
          ·
           refine sk ?_
           obtain rfl := si h
           exact then_j ⟨x35, rfl, (hF.keep ⟨rfl, rfl, rfl, rfl, rfl, rfl, trivial⟩), hS⟩
        ·
         refine wi hF rfl h (fun h => ?_) fun h => ?_
         ·
          refine wg <| mv hF rfl rfl fun a hF => fv hF rfl pf48_1 rfl fun a hF => sv (v_indexAddr hF rfl rfl par46 hb33.1 hb33.2) hF rfl fun a hF => sv (v_load1 hF rfl pa44 (cells_sub (vs := [.int .u64 (((x21.Care.upd x10 (IntKind.u64.wrap ((x21.Care.at x10) * 2))).at x10))]) (hS.bc (i := 0) rfl) (add_add _ _ _) (TCube.get_Care ({ Value := (x21.Value.upd x10 (IntKind.u64.wrap ((x21.Value.at x10) * 2))), Care := (x21.Care.upd x10 (IntKind.u64.wrap ((x21.Care.at x10) * 2))) } : TCube) x10 hb33.1 hb33.2))) hF rfl fun a hF => sv (v_add hF rfl rfl) hF rfl fun a hF => fv hF rfl pf48_1 rfl fun a hF => sv (v_indexAddr hF rfl rfl par46 hb33.1 hb33.2) hF rfl fun a hF => sq_store (o := 12 + x10.toNat * 1) (vs := [.int .u64 ((IntKind.u64.wrap (((x21.Care.upd x10 (IntKind.u64.wrap ((x21.Care.at x10) * 2))).at x10) + 1)))]) (cs' := TCube.enc ({ Value := (x21.Value.upd x10 (IntKind.u64.wrap ((x21.Value.at x10) * 2))), Care := ((x21.Care.upd x10 (IntKind.u64.wrap ((x21.Care.at x10) * 2))).upd x10 (IntKind.u64.wrap (((x21.Care.upd x10 (IntKind.u64.wrap ((x21.Care.at x10) * 2))).at x10) + 1))) } : TCube)) hF hS rfl (by simp only [add_add, add_plain, Nat.zero_add]) (i := 0) rfl rfl rfl ps44 (one1 rfl) (by have h0 := hb33.1; have h1 := hb33.2; simp only [TCube.enc, List.length_cons, List.length_nil]; omega) (TCube.set_Care ({ Value := (x21.Value.upd x10 (IntKind.u64.wrap ((x21.Value.at x10) * 2))), Care := (x21.Care.upd x10 (IntKind.u64.wrap ((x21.Care.at x10) * 2))) } : TCube) x10 _ hb33.1 hb33.2) (fun W hS => ?_)
          refine nl ?_
          obtain rfl := si h
          exact then_j ⟨({ Value := (x21.Value.upd x10 (IntKind.u64.wrap ((x21.Value.at x10) * 2))), Care := ((x21.Care.upd x10 (IntKind.u64.wrap ((x21.Care.at x10) * 2))).upd x10 (IntKind.u64.wrap (((x21.Care.upd x10 (IntKind.u64.wrap ((x21.Care.at x10) * 2))).at x10) + 1))) } : TCube), rfl, (hF.keep ⟨rfl, rfl, rfl, rfl, rfl, rfl, trivial⟩), hS⟩
         ·
          refine sk ?_
          obtain rfl := si h
          exact then_j ⟨({ Value := (x21.Value.upd x10 (IntKind.u64.wrap ((x21.Value.at x10) * 2))), Care := (x21.Care.upd x10 (IntKind.u64.wrap ((x21.Care.at x10) * 2))) } : TCube), rfl, (hF.keep ⟨rfl, rfl, rfl, rfl, rfl, rfl, trivial⟩), hS⟩
       ·
        refine wp_exit <| tx <| tx <| bh ?_
        obtain rfl := si h
        exact then_j ⟨x21, x22, rfl, (hF.keep ⟨rfl, rfl, rfl, rfl, rfl, trivial⟩), hS⟩
    ·
     refine wp_exit <| tx <| tx <| bh ?_
     obtain rfl := si h
     exact then_j ⟨x8, rfl, (hF.keep ⟨rfl, rfl, trivial⟩), hS⟩

theorem ok_ref01_Meet (k : Nat) {M : Nat → Prop} {w0 : World} {u0 : TCube} {u1 : TCube} {o : TCube × Bool} (hS : St M w0 [] [] [] w0) (h : ref01_Meet k u0 u1 = some o) :
    Calls Tryz.prog 113 #[.agg (TCube.enc u0).toArray, .agg (TCube.enc u1).toArray] w0 fun e W' => ∃ v, e = .returned v ∧ (v = .tuple #[.agg (TCube.enc o.1).toArray, .bool (o.2)] ∧ St M w0 [] [] [] W') := by
  unfold ref01_Meet at h
  refine cst Tryz.func113 rfl rfl rfl fun a hF => wq <| wg <| bv hF hS rfl rfl rfl fun b1 a W hF hS => bv hF hS rfl rfl rfl fun b2 a W hF hS => al hF hS pz48 rfl rfl fun b3 a W hF hS => av hF rfl rfl fun a hF => nl <| tn <| wq <| wg <| sv (v_load (cs := TCube.enc u0) hF rfl pa48 ps48 (hS.bc (i := 2) rfl)) hF rfl fun a hF => ?_
  obtain ⟨x4, hx5, h⟩ := bindS h
  refine cl hF pc133 rfl rfl (ok_ref01_Text k (hS.enter trivial) hx5) hS fun W a hF hS => mv hF rfl rfl fun a hF => sv (v_extract hF rfl rfl) hF rfl fun a hF => sv (v_extract hF rfl rfl) hF rfl fun a hF => av hF rfl rfl fun a hF => av hF rfl rfl fun a hF => nl <| tn <| wq <| wg <| sv (v_load (cs := TCube.enc u1) hF rfl pa48 ps48 (hS.bc (i := 1) rfl)) hF rfl fun a hF => ?_
  obtain ⟨x7, hx8, h⟩ := bindS h
  refine cl hF pc133 rfl rfl (ok_ref01_Text k (hS.enter trivial) hx8) hS fun W a hF hS => mv hF rfl rfl fun a hF => sv (v_extract hF rfl rfl) hF rfl fun a hF => sv (v_extract hF rfl rfl) hF rfl fun a hF => av hF rfl rfl fun a hF => av hF rfl rfl fun a hF => nl <| tn <| wq <| wq <| wg <| mv hF rfl rfl fun a hF => sv (v_not hF rfl) hF rfl fun a hF => mv hF rfl rfl fun a hF => gor 2 2 24 ((!x7.2)) hF rfl rfl rfl rfl rfl (fun _ => ?_) (fun a hF => ?_)
  ·
   exact mv hF rfl rfl fun a hF => sv (v_not hF rfl) hF rfl fun a hF => gq 2 hF rfl rfl rfl
  ·
   refine nl <| tn <| wi hF rfl h (fun h => ?_) fun h => ?_
   ·
    refine wq <| wg <| sv (v_build (parts := []) (out := TCube.enc TCube.zero) hF rfl rfl pz48 rfl pp48 rfl) hF rfl fun a hF => sq_store (o := 0) (vs := TCube.enc TCube.zero) (cs' := TCube.enc TCube.zero) hF hS rfl rfl (i := 0) rfl rfl rfl ps48 (TCube.enc_one _) (bl rfl) rfl fun W hS => av hF rfl rfl fun a hF => nl <| tn <| rt <| tr ?_
    obtain rfl := si h
    exact ret2 hF rfl (rv_cell (cs := TCube.enc TCube.zero) hF rfl pa48 ps48 (hS.bc (i := 0) rfl)) (rv_tmp hF rfl) ⟨_, rfl, rfl, (hS.keep sn sl trivial)⟩
   ·
    refine sk <| tn <| wq <| wg <| mv hF rfl rfl fun a hF => ?_
    obtain ⟨x14, hx15, h⟩ := bindS h
    refine sq_toBytes hF hS rfl pu9 pu99 pu5 hx15 (by decide) (fun A12 c13 a W hF hS => ?_)
    refine av hF rfl rfl fun a hF => nl <| tn <| wq <| wq <| wg <| av hF rfl rfl fun a hF => nl <| tn ?_
    obtain ⟨o22, h, hk23⟩ := bindS h
    refine wp_join (fun a W => ∃ (x21 : List Int), Lo.brk x21 = o22 ∧ FH 64 [(4, .pointer (some (⟨b3, 0, none⟩))), (10, .slice A12 ((x21).length) c13)] a ∧ St M w0 [⟨b3, TCube.enc TCube.zero, 48⟩] [⟨(kInt .u8), 5, A12, c13, x21⟩] [] W) (fun a W hJ => ?_) ?_
    ·
     obtain ⟨x21, rfl, hF, hS⟩ := hJ
     have h := hk23
     dsimp only at h
     refine tn <| wq <| wg <| mv hF rfl rfl fun a hF => sv (v_toStr hF rfl (hS.rw_ (i := 0) rfl).src pu99 pu5 pu9) hF rfl fun a hF => ?_
     obtain ⟨x24, hx25, h⟩ := bindS h
     refine cl hF pc181 rfl rfl (ok_ref01_From k (hS.enter trivial) hx25) hS fun W a hF hS => sq_store (o := 0) (vs := TCube.enc x24) (cs' := TCube.enc x24) hF hS rfl rfl (i := 0) rfl rfl rfl ps48 (TCube.enc_one _) (bl rfl) rfl fun W hS => av hF rfl rfl fun a hF => nl <| tn <| rt ?_
     obtain rfl := si h
     exact ret2 hF rfl (rv_cell (cs := TCube.enc x24) hF rfl pa48 ps48 (hS.bc (i := 0) rfl)) (rv_tmp hF rfl) ⟨_, rfl, rfl, (hS.keep sn sn trivial)⟩
    ·
     refine wb <| wp_loop_fuel (I := fun m a W => ∃ (x19 : List Int) (x20 : Int), FH 64 [(4, .pointer (some (⟨b3, 0, none⟩))), (6, .string (x4.1)), (8, .string (x7.1)), (10, .slice A12 ((x19).length) c13), (11, .int .i64 (x20))] a ∧ St M w0 [⟨b3, TCube.enc TCube.zero, 48⟩] [⟨(kInt .u8), 5, A12, c13, x19⟩] [] W ∧ (ref01_Meet.l0 k x4 x7 m x19 x20) = some o22) ?_ (k := k) ⟨x14, 0, (hF.keep ⟨rfl, rfl, rfl, rfl, rfl, trivial⟩), (hS.keep (.cons_cons _ sn) sl trivial), h⟩
     rintro m27 a W ⟨x19, x20, hF, hS, h⟩
     cases m27 with
     | zero => cases h
     | succ m27 =>
      rw [ref01_Meet.l0] at h
      refine wq <| wq <| wg <| mv hF rfl rfl fun a hF => mv hF rfl rfl fun a hF => sv (v_lenS hF rfl pu9) hF rfl fun a hF => sv (v_lss hF rfl rfl) hF rfl fun a hF => nl <| tn <| wi hF rfl h (fun h => ?_) fun h => ?_
      ·
       refine sk <| tn <| wq ?_
       obtain ⟨o30, h, hk31⟩ := bindS h
       refine wp_join (fun a W => ∃ (x29 : List Int), Lo.brk x29 = o30 ∧ FH 64 [(4, .pointer (some (⟨b3, 0, none⟩))), (6, .string (x4.1)), (8, .string (x7.1)), (10, .slice A12 ((x29).length) c13), (11, .int .i64 (x20))] a ∧ St M w0 [⟨b3, TCube.enc TCube.zero, 48⟩] [⟨(kInt .u8), 5, A12, c13, x29⟩] [] W) (fun a W hJ => ?_) ?_
       ·
        obtain ⟨x29, rfl, hF, hS⟩ := hJ
        have h := hk31
        dsimp only at h
        exact tn <| wg <| mv hF rfl rfl fun a hF => sv (v_add hF rfl rfl) hF rfl fun a hF => av hF rfl rfl fun a hF => nl <| then_j ⟨m27, Nat.lt_succ_self _, x29, (IntKind.i64.wrap (x20 + 1)), (hF.keep ⟨rfl, rfl, rfl, rfl, rfl, trivial⟩), hS, h⟩
       ·
        refine wb <| wq <| wg <| mv hF rfl rfl fun a hF => mv hF rfl rfl fun a hF => ?_
        obtain ⟨hb32, h⟩ := ifS h
        refine sv (v_indexStr hF rfl rfl pu9 hb32.1 hb32.2) hF rfl fun a hF => sv (v_eql hF rfl rfl) hF rfl fun a hF => nl <| tn ?_
        obtain ⟨o34, h, hk35⟩ := bindS h
        refine wp_join (fun a W => ∃ (x33 : List Int), Lo.brk x33 = o34 ∧ FH 64 [(4, .pointer (some (⟨b3, 0, none⟩))), (6, .string (x4.1)), (8, .string (x7.1)), (10, .slice A12 ((x33).length) c13), (11, .int .i64 (x20))] a ∧ St M w0 [⟨b3, TCube.enc TCube.zero, 48⟩] [⟨(kInt .u8), 5, A12, c13, x33⟩] [] W) (fun a W hJ => ?_) ?_
        ·
         obtain ⟨x33, rfl, hF, hS⟩ := hJ
         have h := hk35
         dsimp only at h
         refine bn ?_
         obtain rfl := si h
         exact then_j ⟨x33, rfl, (hF.keep ⟨rfl, rfl, rfl, rfl, rfl, trivial⟩), hS⟩
        ·
         refine wi hF rfl h (fun h => ?_) fun h => ?_
         ·
          refine wg <| mv hF rfl rfl fun a hF => mv hF rfl rfl fun a hF => mv hF rfl rfl fun a hF => mv hF rfl rfl fun a hF => ?_
          obtain ⟨hb37, h⟩ := ifS h
          refine sv (v_indexStr hF rfl rfl pu9 hb37.1 hb37.2) hF rfl fun a hF => ?_
          obtain ⟨x38, hx39, h⟩ := bindS h
          obtain ⟨p40, cs41, hA42, hc44, hr45⟩ := Row.ok.at (hS.rw_ (i := 0) rfl) hx39
          obtain rfl : cs41 = [.int .u8 (x38)] := hr45
          refine sv (v_idx hF rfl hA42 rfl psl99 hx39) hF rfl fun a hF => sq_storeEl hF hS (i := 0) rfl hA42 rfl hx39 rfl rfl ps5 rfl (fun W hS => ?_)
          have hF : FH 64 [(4, .pointer (some (⟨b3, 0, none⟩))), (6, .string (x4.1)), (8, .string (x7.1)), (10, .slice A12 (((x19.set x20.toNat (byteAt x7.1 x20))).length) c13), (11, .int .i64 (x20)), (31, .int .i64 (x20)), (32, .string (x4.1)), (33, .int .i64 ((x4.1.size : Int))), (34, .bool ((decide (x20 < (x4.1.size : Int))))), (37, .string (x4.1)), (38, .int .i64 (x20)), (39, .int .u8 ((byteAt x4.1 x20))), (40, .bool (((byteAt x4.1 x20) == 120))), (41, .slice A12 (((x19.set x20.toNat (byteAt x7.1 x20))).length) c13), (42, .int .i64 (x20)), (43, .string (x7.1)), (44, .int .i64 (x20)), (45, .int .u8 ((byteAt x7.1 x20)))] a := (hF.keep ⟨rfl, rfl, rfl, (by simp only [List.length_set] <;> rfl), rfl, rfl, rfl, rfl, rfl, rfl, rfl, rfl, rfl, (by simp only [List.length_set] <;> rfl), rfl, rfl, rfl, rfl, trivial⟩)
          refine nl ?_
          obtain rfl := si h
          exact then_j ⟨(x19.set x20.toNat (byteAt x7.1 x20)), rfl, (hF.keep ⟨rfl, rfl, rfl, rfl, rfl, trivial⟩), hS⟩
         ·
          refine wq <| wp_quiet rfl (by kernel_rfl) hS <| qv (fun W hC => (v_move hF rfl)) hF rfl fun a hF => qv (fun W hC => (v_move hF rfl)) hF rfl fun a hF => ?_
          obtain ⟨hb46, h⟩ := ifS h
          refine qv (fun W hC => (v_indexStr hF rfl rfl pu9 hb46.1 hb46.2)) hF rfl fun a hF => qv (fun W hC => (v_neq hF rfl rfl)) hF rfl fun a hF => qv (fun W hC => (v_move hF rfl)) hF rfl fun a hF => qt_cut 8 (fun a => FH 64 [(4, .pointer (some (⟨b3, 0, none⟩))), (6, .string (x4.1)), (8, .string (x7.1)), (10, .slice A12 ((x19).length) c13), (11, .int .i64 (x20)), (59, .bool (((byteAt x7.1 x20) != 120) && ((byteAt x4.1 x20) != (byteAt x7.1 x20))))] a) (fun a hF => ?_) ?_
          ·
           refine qn ?_
           intro W hC
           have hS := hC.2
           refine tn <| wi hF rfl h (fun h => ?_) fun h => ?_
           ·
            refine wq <| wg <| sv (v_build (parts := []) (out := TCube.enc TCube.zero) hF rfl rfl pz48 rfl pp48 rfl) hF rfl fun a hF => sq_store (o := 0) (vs := TCube.enc TCube.zero) (cs' := TCube.enc TCube.zero) hF hS rfl rfl (i := 0) rfl rfl rfl ps48 (TCube.enc_one _) (bl rfl) rfl fun W hS => av hF rfl rfl fun a hF => nl <| tn <| rt <| tr <| br <| tr <| tr <| tr <| br <| tr <| tr ?_
            obtain rfl := si h
            have h := hk35
            dsimp only at h
            obtain rfl := si h
            have h := hk31
            dsimp only at h
            obtain rfl := si h
            have h := hk23
            dsimp only at h
            obtain rfl := si h
            exact ret2 hF rfl (rv_cell (cs := TCube.enc TCube.zero) hF rfl pa48 ps48 (hS.bc (i := 0) rfl)) (rv_tmp hF rfl) ⟨_, rfl, rfl, (hS.keep sn sn trivial)⟩
           ·
            refine sk ?_
            obtain rfl := si h
            exact then_j ⟨x19, rfl, (hF.keep ⟨rfl, rfl, rfl, rfl, rfl, trivial⟩), hS⟩
          ·
           by_cases he47 : ((byteAt x7.1 x20) != 120) = true
           ·
            exact qt_yes hF rfl rfl he47 <| qv (fun W hC => (v_move hF rfl)) hF rfl fun a hF => qt_yes hF rfl rfl he47 <| qv (fun W hC => (v_move hF rfl)) hF rfl fun a hF => qt_yes hF rfl rfl he47 <| qv (fun W hC => (v_indexStr hF rfl rfl pu9 hb32.1 hb32.2)) hF rfl fun a hF => qt_yes hF rfl rfl he47 <| qv (fun W hC => (v_move hF rfl)) hF rfl fun a hF => qt_yes hF rfl rfl he47 <| qv (fun W hC => (v_move hF rfl)) hF rfl fun a hF => qt_yes hF rfl rfl he47 <| qv (fun W hC => (v_indexStr hF rfl rfl pu9 hb46.1 hb46.2)) hF rfl fun a hF => qt_yes hF rfl rfl he47 <| qv (fun W hC => (v_neq hF rfl rfl)) hF rfl fun a hF => qv (fun W hC => (v_pick_t hF rfl he47 rfl)) hF rfl fun a hF => qt_nil (hF.keep ⟨rfl, rfl, rfl, rfl, rfl, (boolV (and_t he47)), trivial⟩)
           ·
            have he47 : ((byteAt x7.1 x20) != 120) = false := nB he47
            refine qt_no hF rfl rfl he47 (by decide) (fun a hF => ?_)
            refine qt_no hF rfl rfl he47 (by decide) (fun a hF => ?_)
            refine qt_no hF rfl rfl he47 (by decide) (fun a hF => ?_)
            refine qt_no hF rfl rfl he47 (by decide) (fun a hF => ?_)
            refine qt_no hF rfl rfl he47 (by decide) (fun a hF => ?_)
            refine qt_no hF rfl rfl he47 (by decide) (fun a hF => ?_)
            refine qt_no hF rfl rfl he47 (by decide) (fun a hF => ?_)
            exact qv (fun W hC => (v_pick_f hF rfl he47 rfl)) hF rfl fun a hF => qt_nil (hF.keep ⟨rfl, rfl, rfl, rfl, rfl, (boolV (and_f he47)), trivial⟩)
      ·
       refine wp_exit <| tx <| tx <| bh ?_
       obtain rfl := si h
       exact then_j ⟨x19, rfl, (hF.keep ⟨rfl, rfl, trivial⟩), hS⟩
end Go.Proofs.YtgfnkigoaajllaaGreat
