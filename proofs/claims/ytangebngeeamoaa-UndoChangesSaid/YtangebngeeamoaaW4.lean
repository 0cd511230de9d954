/- What calls of the Go functions come to. -/
import Derived.Test.YtangebngeeamoaaW3
set_option linter.unusedVariables false
set_option linter.unusedSimpArgs false
set_option maxRecDepth 100000
set_option maxHeartbeats 4000000
namespace Go.Proofs.Ytangebngeeamoaa
open Go.RowKit Go.Pod
theorem ok_rule_Sort (k : Nat) {M : Nat → Prop} {w0 : World} {u0 : List TRule} {A0_0 : Option Addr} {c0_0 : Nat} {o : (List TRule)} (hS : St M w0 [] [] [fSl k_TRule A0_0 c0_0 u0] w0) (h : rule_Sort k u0 = some o) :
    Calls Try.prog 126 #[.slice A0_0 ((u0).length) c0_0] w0 fun e W' => ∃ v, e = .returned v ∧ (∃ (A75 : Option Addr) (c76 : Nat), v = .slice A75 ((o).length) c76 ∧ St M w0 [] [⟨k_TRule, 65, A75, c76, o⟩] [] W') := by
  unfold rule_Sort at h
  refine calls_start (args := [.slice A0_0 ((u0).length) c0_0]) Try.func126 rfl rfl (Nat.le_of_ble_eq_true rfl) (fun a hF => ?_)
  refine wp_seq ?_
  refine wp_reg ?_
  refine sq_val (v_assign hF rfl) hF (by decide) (fun a hF => ?_)
  refine sq_nil ?_
  refine then_n ?_
  refine wp_seq ?_
  refine wp_reg ?_
  refine sq_val (v_assign hF rfl) hF (by decide) (fun a hF => ?_)
  refine sq_nil ?_
  refine then_n ?_
  refine wp_seq ?_
  refine wp_seq ?_
  refine wp_reg ?_
  refine sq_val (v_move hF rfl) hF (by decide) (fun a hF => ?_)
  refine sq_val (v_len hF rfl pu37) hF (by decide) (fun a hF => ?_)
  refine sq_val (v_move hF rfl) hF (by decide) (fun a hF => ?_)
  refine sq_nil ?_
  refine then_n ?_
  obtain ⟨o12, h, hk13⟩ := bindS h
  refine wp_join (fun a W => ∃ (x9 : List TRule) (A10 : Option Addr) (c11 : Nat), x9 = o12 ∧ FH 38 [(3, .slice A10 ((x9).length) c11)] a ∧ St M w0 [] [⟨k_TRule, 65, A10, c11, x9⟩] [] W) (fun a W hJ => ?_) ?_
  ·
   obtain ⟨x9, A10, c11, rfl, hF, hS⟩ := hJ
   have h := hk13
   refine then_n ?_
   refine wp_seq ?_
   refine wp_reg ?_
   refine sq_val (v_move hF rfl) hF (by decide) (fun a hF => ?_)
   obtain ⟨x14, hx15, h⟩ := bindS h
   refine sq_call hF pc128 rfl (by decide) (ok_slices_Clip_Rule hS hx15) (fun v W hR a hF => ?_)
   obtain ⟨A16, c17, rfl, hS⟩ := hR
   refine sq_val (v_assign hF rfl) hF (by decide) (fun a hF => ?_)
   refine sq_nil ?_
   refine then_n ?_
   refine wp_ret ?_
   obtain rfl := Option.some.inj h
   exact ret1 hF rfl (rv_tmp hF rfl) ⟨_, rfl, A16, c17, rfl, hS⟩
  ·
   have hS := hS.addNil k_TRule 65
   refine wp_block ?_
   refine wp_loop_fuel (I := fun m a W => ∃ (x5 : List TRule) (x8 : Int) (A6 : Option Addr) (c7 : Nat), FH 38 [(3, .slice A6 ((x5).length) c7), (8, .slice A0_0 ((u0).length) c0_0), (9, .int .i64 ((u0.length : Int))), (10, .int .i64 (x8))] a ∧ St M w0 [] [⟨k_TRule, 65, A6, c7, x5⟩] [fSl k_TRule A0_0 c0_0 u0] W ∧ (rule_Sort.l0 k u0 m x5 x8) = some o12) ?_ (k := k) ⟨([]), 0, none, 0, (hF.keep ⟨rfl, rfl, rfl, rfl, trivial⟩), hS, h⟩
   rintro m18 a W ⟨x5, x8, A6, c7, hF, hS, h⟩
   cases m18 with
   | zero => cases h
   | succ m18 =>
    rw [rule_Sort.l0] at h
    refine wp_seq ?_
    refine wp_reg ?_
    refine sq_val (v_lss hF rfl rfl) hF (by decide) (fun a hF => ?_)
    refine sq_nil ?_
    refine then_n ?_
    refine wp_seq ?_
    refine wp_if hF rfl (fun he19 => ?_) (fun he19 => ?_)
    ·
     replace h := ifT he19 h
     refine wp_skip ?_
     refine then_n ?_
     refine wp_seq ?_
     obtain ⟨o23, h, hk24⟩ := bindS h
     refine wp_join (fun a W => ∃ (x20 : List TRule) (A21 : Option Addr) (c22 : Nat), x20 = o23 ∧ FH 38 [(3, .slice A21 ((x20).length) c22), (8, .slice A0_0 ((u0).length) c0_0), (9, .int .i64 ((u0.length : Int))), (10, .int .i64 (x8))] a ∧ St M w0 [] [⟨k_TRule, 65, A21, c22, x20⟩] [fSl k_TRule A0_0 c0_0 u0] W) (fun a W hJ => ?_) ?_
     ·
      obtain ⟨x20, A21, c22, rfl, hF, hS⟩ := hJ
      have h := hk24
      refine then_n ?_
      refine wp_reg ?_
      refine sq_val (v_add hF rfl rfl) hF (by decide) (fun a hF => ?_)
      refine sq_val (v_move hF rfl) hF (by decide) (fun a hF => ?_)
      refine sq_nil ?_
      exact then_j ⟨m18, Nat.lt_succ_self _, x20, (IntKind.i64.wrap (x8 + 1)), A21, c22, (hF.keep ⟨rfl, rfl, rfl, rfl, trivial⟩), hS, h⟩
     ·
      refine wp_block ?_
      refine wp_seq ?_
      refine wp_reg ?_
      obtain ⟨x25, hx26, h⟩ := bindS h
      obtain ⟨p27, cs28, hA29, hat30⟩ := SlR.at (hS.fc (i := 0) rfl) hx26
      obtain ⟨A31, c32, rfl, hs33⟩ := hat30.2.2.2
      have hS := hS.addFact (f := fAt k_TRule (p27.add (x8.toNat * 32)) (TRule.enc x25 A31 c32) x25) hat30
      have hS := hS.addFact (f := fSl k_TAct A31 c32 x25.Acts) hs33
      refine sq_val (v_idx hF rfl hA29 rfl psl37 hx26) hF (by decide) (fun a hF => ?_)
      refine sq_val (v_load (cs := TRule.enc x25 A31 c32) hF rfl pa65 ps65 (hS.pc (i := 1) rfl)) hF (by decide) (fun a hF => ?_)
      refine sq_alloc hF hS pz65 rfl (by decide) (fun b34 a W hF hS => ?_)
      refine sq_store (o := 0) (vs := TRule.enc x25 A31 c32) (cs' := TRule.enc x25 A31 c32) hF hS rfl rfl (i := 0) rfl rfl rfl ps65 (TRule.enc_one _ _ _) (Nat.le_of_ble_eq_true rfl) rfl (fun W hS => ?_)
      refine sq_nil ?_
      refine then_n ?_
      refine wp_seq ?_
      refine wp_seq ?_
      refine wp_reg ?_
      refine sq_val (v_load (cs := TRule.enc x25 A31 c32) hF rfl pa65 ps65 (hS.bc (i := 0) rfl)) hF (by decide) (fun a hF => ?_)
      obtain ⟨x35, hx36, h⟩ := bindS h
      refine sq_call hF pc117 rfl (by decide) (ok_rule_Sound k (hS.enter ⟨⟨0, rfl⟩, trivial⟩) hx36) (fun v W hR a hF => ?_)
      obtain ⟨rfl, hT37⟩ := hR
      have hS := hS.grow hT37.below
      refine sq_val (v_not hF rfl) hF (by decide) (fun a hF => ?_)
      refine sq_nil ?_
      refine then_n ?_
      refine wp_if hF rfl (fun he38 => ?_) (fun he38 => ?_)
      ·
       replace h := ifT he38 h
       refine wp_exit ?_
       refine then_x ?_
       refine blk_hit ?_
       obtain rfl := Option.some.inj h
       exact then_j ⟨x5, A6, c7, rfl, (hF.keep ⟨rfl, rfl, rfl, rfl, trivial⟩), (hS.keep (List.nil_sublist _) (List.Sublist.refl _) ⟨⟨2, rfl⟩, trivial⟩)⟩
      ·
       replace h := ifF he38 h
       refine wp_skip ?_
       refine then_n ?_
       refine wp_seq ?_
       refine wp_reg ?_
       refine sq_val (v_move hF rfl) hF (by decide) (fun a hF => ?_)
       refine sq_val (v_load (cs := TRule.enc x25 A31 c32) hF rfl pa65 ps65 (hS.bc (i := 0) rfl)) hF (by decide) (fun a hF => ?_)
       have hS := hS.addFact (f := fFn2 Try.prog 147 ([]) k_TRule true k_TRule true (fun (a0 : TRule) (a1 : TRule) => rule_compare k a0 a1) (fun y => .int .i64 y)) ⟨pc147, fun M' W' hs hv cs a0 cs2 a1 y hR hR2 hp => by obtain ⟨P0_0, q0_0, rfl, z0_0⟩ := hR; obtain ⟨P1_0, q1_0, rfl, z1_0⟩ := hR2; exact fromSt (ok_rule_compare k (St.ofAll hv ⟨z0_0, z1_0, trivial⟩) hp)⟩
       obtain ⟨x39, hx40, h⟩ := bindS h
       refine sq_call hF pc148 rfl (by decide) (ok_slices_BinarySearchFunc_Rule k ((hS.freeze (i := 0) rfl (posB rfl)).enter ⟨⟨0, rfl⟩, ⟨2, rfl⟩, ⟨1, rfl⟩, trivial⟩) hx40) (fun v W hR a hF => ?_)
       obtain ⟨rfl, hT41⟩ := hR
       have hS := hS.grow hT41.below
       refine sq_val (v_move hF rfl) hF (by decide) (fun a hF => ?_)
       refine sq_val (v_extract hF rfl rfl) hF (by decide) (fun a hF => ?_)
       refine sq_val (v_extract hF rfl rfl) hF (by decide) (fun a hF => ?_)
       refine sq_val (v_assign hF rfl) hF (by decide) (fun a hF => ?_)
       refine sq_val (v_assign hF rfl) hF (by decide) (fun a hF => ?_)
       refine sq_nil ?_
       refine then_n ?_
       refine wp_seq ?_
       refine wp_reg ?_
       refine sq_val (v_move hF rfl) hF (by decide) (fun a hF => ?_)
       refine sq_nil ?_
       refine then_n ?_
       obtain ⟨o45, h, hk46⟩ := bindS h
       refine wp_join (fun a W => ∃ (x42 : List TRule) (A43 : Option Addr) (c44 : Nat), x42 = o45 ∧ FH 38 [(3, .slice A43 ((x42).length) c44), (8, .slice A0_0 ((u0).length) c0_0), (9, .int .i64 ((u0.length : Int))), (10, .int .i64 (x8))] a ∧ St M w0 [] [⟨k_TRule, 65, A43, c44, x42⟩] [fSl k_TRule A0_0 c0_0 u0] W) (fun a W hJ => ?_) ?_
       ·
        obtain ⟨x42, A43, c44, rfl, hF, hS⟩ := hJ
        have h := hk46
        refine blk_n ?_
        obtain rfl := Option.some.inj h
        exact then_j ⟨x42, A43, c44, rfl, (hF.keep ⟨rfl, rfl, rfl, rfl, trivial⟩), hS⟩
       ·
        refine wp_if hF rfl (fun he47 => ?_) (fun he47 => ?_)
        ·
         replace h := ifT he47 h
         refine wp_reg ?_
         refine sq_val (v_move hF rfl) hF (by decide) (fun a hF => ?_)
         refine sq_val (v_move hF rfl) hF (by decide) (fun a hF => ?_)
         refine sq_val (v_load (cs := TRule.enc x25 A31 c32) hF rfl pa65 ps65 (hS.bc (i := 0) rfl)) hF (by decide) (fun a hF => ?_)
         obtain ⟨x48, hx49, h⟩ := bindS h
         refine sq_call hF pc127 rfl (by decide) (ok_rule_copied (hS.enter ⟨⟨1, rfl⟩, trivial⟩) hx49) (fun v W hR a hF => ?_)
         obtain ⟨A50, c51, rfl, hT52⟩ := hR
         have hS := hS.join hT52
         obtain ⟨x53, hx54, h⟩ := bindS h
         obtain ⟨p55, cs56, hA57, hc59, hr60⟩ := Row.ok.at (hS.rw_ (i := 0) rfl) hx54
         obtain ⟨A61, c62, rfl, hs63⟩ := hr60
         have hS := hS.addFact (f := fSl k_TAct A61 c62 x53.Acts) hs63
         refine sq_val (v_idx hF rfl hA57 rfl psl37 hx54) hF (by decide) (fun a hF => ?_)
         refine sq_storeEl hF hS (i := 0) rfl hA57 rfl hx54 rfl rfl ps65 ⟨A50, c51, rfl, (hS.fc (i := 1) rfl)⟩ (fun W hS => ?_)
         have hF : FH 38 [(3, .slice A6 (((x5.set x39.1.toNat x48)).length) c7), (5, .pointer (some (⟨b34, 0, none⟩))), (6, .int .i64 (x39.1)), (7, .bool (x39.2)), (8, .slice A0_0 ((u0).length) c0_0), (9, .int .i64 ((u0.length : Int))), (10, .int .i64 (x8)), (11, .bool ((decide (x8 < (u0.length : Int))))), (12, .pointer (some (p27.add (x8.toNat * 32)))), (13, .agg (TRule.enc x25 A31 c32).toArray), (14, .agg (TRule.enc x25 A31 c32).toArray), (15, .bool (x35)), (16, .bool ((!x35))), (17, .tuple #[.int .i64 (x39.1), .bool (x39.2)]), (18, .slice A6 (((x5.set x39.1.toNat x48)).length) c7), (19, .agg (TRule.enc x25 A31 c32).toArray), (20, .tuple #[.int .i64 (x39.1), .bool (x39.2)]), (21, .int .i64 (x39.1)), (22, .bool (x39.2)), (23, .bool (x39.2)), (24, .slice A6 (((x5.set x39.1.toNat x48)).length) c7), (25, .int .i64 (x39.1)), (26, .agg (TRule.enc x25 A31 c32).toArray), (27, .agg (TRule.enc x48 A50 c51).toArray)] a := (hF.keep ⟨(by simp only [List.length_set] <;> rfl), rfl, rfl, rfl, rfl, rfl, rfl, rfl, rfl, rfl, rfl, rfl, rfl, rfl, (by simp only [List.length_set] <;> rfl), rfl, rfl, rfl, rfl, rfl, (by simp only [List.length_set] <;> rfl), rfl, rfl, rfl, trivial⟩)
         refine sq_nil ?_
         obtain rfl := Option.some.inj h
         exact then_j ⟨(x5.set x39.1.toNat x48), A6, c7, rfl, (hF.keep ⟨rfl, rfl, rfl, rfl, trivial⟩), (hS.keep (List.nil_sublist _) (List.Sublist.refl _) ⟨⟨5, rfl⟩, trivial⟩)⟩
        ·
         replace h := ifF he47 h
         refine wp_reg ?_
         refine sq_val (v_move hF rfl) hF (by decide) (fun a hF => ?_)
         refine sq_val (v_move hF rfl) hF (by decide) (fun a hF => ?_)
         refine sq_val (v_load (cs := TRule.enc x25 A31 c32) hF rfl pa65 ps65 (hS.bc (i := 0) rfl)) hF (by decide) (fun a hF => ?_)
         obtain ⟨x64, hx65, h⟩ := bindS h
         refine sq_call hF pc127 rfl (by decide) (ok_rule_copied (hS.enter ⟨⟨1, rfl⟩, trivial⟩) hx65) (fun v W hR a hF => ?_)
         obtain ⟨A66, c67, rfl, hT68⟩ := hR
         have hS := hS.join hT68
         refine sq_buildSlice (κ := k_TRule) (xs := [.tmp 32]) (ys := [x64]) hF hS rfl rfl rfl (Els.cons ⟨A66, c67, rfl, (hS.fc (i := 0) rfl)⟩ (Els.nil _ _ _)) rfl psl37 pz65 rfl (by decide) (by decide) (by decide) (fun A69 c70 a W hF hS => ?_)
         have hS := hS.perm (List.Perm.refl _) (.trans (.swap _ _ _) (List.Perm.refl _))
         obtain ⟨x71, hx72, h⟩ := bindS h
         refine sq_call hF pc149 rfl (by decide) (ok_slices_Insert_Rule hS hx72) (fun v W hR a hF => ?_)
         obtain ⟨A73, c74, rfl, hS⟩ := hR
         refine sq_val (v_assign hF rfl) hF (by decide) (fun a hF => ?_)
         refine sq_nil ?_
         obtain rfl := Option.some.inj h
         exact then_j ⟨x71, A73, c74, rfl, (hF.keep ⟨rfl, rfl, rfl, rfl, trivial⟩), (hS.keep (List.nil_sublist _) (List.Sublist.refl _) ⟨⟨4, rfl⟩, trivial⟩)⟩
    ·
     replace h := ifF he19 h
     refine wp_exit ?_
     refine then_x ?_
     refine then_x ?_
     refine blk_hit ?_
     obtain rfl := Option.some.inj h
     exact then_j ⟨x5, A6, c7, rfl, (hF.keep ⟨rfl, trivial⟩), (hS.keep (List.Sublist.refl _) (List.Sublist.refl _) trivial)⟩

theorem ok_mods_add (k : Nat) {M : Nat → Prop} {w0 : World} {u0 : List TRule} {A0_0 : Option Addr} {c0_0 : Nat} {u1 : TMod} {A1_0 : Option Addr} {c1_0 : Nat} {u2 : Int} {o : (List TRule) × Int} (hS : St M w0 [] [] [fSl k_TRule A0_0 c0_0 u0, fSl k_TAct A1_0 c1_0 u1.Acts] w0) (h : mods_add k u0 u1 u2 = some o) :
    Calls Try.prog 66 #[.slice A0_0 ((u0).length) c0_0, .agg (TMod.enc u1 A1_0 c1_0).toArray, .int .i64 (u2)] w0 fun e W' => ∃ v, e = .returned v ∧ (∃ (A67 : Option Addr) (c68 : Nat), v = .tuple #[.slice A67 ((o.1).length) c68, .int .i64 (o.2)] ∧ St M w0 [] [⟨k_TRule, 65, A67, c68, o.1⟩] [] W') := by
  unfold mods_add at h
  refine calls_start (args := [.slice A0_0 ((u0).length) c0_0, .agg (TMod.enc u1 A1_0 c1_0).toArray, .int .i64 (u2)]) Try.func66 rfl rfl (Nat.le_of_ble_eq_true rfl) (fun a hF => ?_)
  refine wp_seq ?_
  refine wp_reg ?_
  refine sq_box hF hS rfl rfl (by decide) (fun b1 a W hF hS => ?_)
  refine sq_val (v_assign hF rfl) hF (by decide) (fun a hF => ?_)
  refine sq_val (v_assign hF rfl) hF (by decide) (fun a hF => ?_)
  refine sq_nil ?_
  refine then_n ?_
  refine wp_seq ?_
  refine wp_reg ?_
  refine sq_val (v_load (cs := TMod.enc u1 A1_0 c1_0) hF rfl pa40 ps40 (hS.bc (i := 0) rfl)) hF (by decide) (fun a hF => ?_)
  obtain ⟨x2, hx3, h⟩ := bindS h
  refine sq_call hF pc119 rfl (by decide) (ok_mods_Rule (hS.enter ⟨⟨1, rfl⟩, trivial⟩) hx3) (fun v W hR a hF => ?_)
  obtain ⟨A4, c5, rfl, hT6⟩ := hR
  have hS := hS.join hT6
  refine sq_alloc hF hS pz65 rfl (by decide) (fun b7 a W hF hS => ?_)
  refine sq_store (o := 0) (vs := TRule.enc x2 A4 c5) (cs' := TRule.enc x2 A4 c5) hF hS rfl rfl (i := 0) rfl rfl rfl ps65 (TRule.enc_one _ _ _) (Nat.le_of_ble_eq_true rfl) rfl (fun W hS => ?_)
  refine sq_nil ?_
  refine then_n ?_
  refine wp_seq ?_
  refine wp_reg ?_
  refine sq_val (v_move hF rfl) hF (by decide) (fun a hF => ?_)
  have hS := hS.freezeBox (i := 0) rfl
  have hS := hS.addFact (f := fFn1 Try.prog 121 ([.pointer (some (⟨b7, 0, none⟩))]) k_TRule true (fun (a0 : TRule) => mods_add_1 a0 x2) (fun y => .bool y)) ⟨pc121, fun M' W' hs hv cs a0 y hR hp => by obtain ⟨P0_0, q0_0, rfl, z0_0⟩ := hR; exact fromSt (ok_mods_add_1 (St.ofAll hv ⟨z0_0, ((fSl k_TAct A4 c5 x2.Acts).st (hS.fc (i := 1) rfl) hs), ((fBox b7 (TRule.enc x2 A4 c5) 65).st (hS.fc (i := 0) rfl) hs), trivial⟩) hp)⟩
  refine sq_val (v_makeFunc (xs := [.tmp 8]) (vs := [.pointer (some (⟨b7, 0, none⟩))]) hF rfl) hF (by decide) (fun a hF => ?_)
  obtain ⟨x8, hx9, h⟩ := bindS h
  refine sq_call hF pc120 rfl (by decide) (ok_slices_IndexFunc_Rule k (hS.enter ⟨⟨3, rfl⟩, ⟨0, rfl⟩, trivial⟩) hx9) (fun v W hR a hF => ?_)
  obtain ⟨rfl, hT10⟩ := hR
  have hS := hS.grow hT10.below
  refine sq_val (v_assign hF rfl) hF (by decide) (fun a hF => ?_)
  refine sq_nil ?_
  refine then_n ?_
  refine wp_seq ?_
  refine wp_reg ?_
  have hS := hS.addFact (f := fFn1 Try.prog 123 ([.pointer (some (⟨b7, 0, none⟩))]) k_TRule true (fun (a0 : TRule) => mods_add_2 k a0 x2) (fun y => .bool y)) ⟨pc123, fun M' W' hs hv cs a0 y hR hp => by obtain ⟨P0_0, q0_0, rfl, z0_0⟩ := hR; exact fromSt (ok_mods_add_2 k (St.ofAll hv ⟨z0_0, ((fSl k_TAct A4 c5 x2.Acts).st (hS.fc (i := 2) rfl) hs), ((fBox b7 (TRule.enc x2 A4 c5) 65).st (hS.fc (i := 1) rfl) hs), trivial⟩) hp)⟩
  refine sq_val (v_makeFunc (xs := [.tmp 8]) (vs := [.pointer (some (⟨b7, 0, none⟩))]) hF rfl) hF (by decide) (fun a hF => ?_)
  refine sq_val (v_assign hF rfl) hF (by decide) (fun a hF => ?_)
  refine sq_nil ?_
  refine then_n ?_
  refine wp_seq ?_
  refine wp_block ?_
  refine wp_seq ?_
  refine wp_quiet rfl (by kernel_rfl) hS ?_
  refine qt_val (fun W hC => (v_move hF rfl)) hF (by decide) (fun a hF => ?_)
  refine qt_val (fun W hC => (v_geq hF rfl rfl)) hF (by decide) (fun a hF => ?_)
  refine qt_val (fun W hC => (v_move hF rfl)) hF (by decide) (fun a hF => ?_)
  obtain ⟨x12, h, hk14⟩ := bindS h
  refine qt_cut 9 (fun a => FH 53 [(0, .slice A0_0 ((u0).length) c0_0), (2, .int .i64 (u2)), (4, .pointer (some (⟨b1, 0, none⟩))), (8, .pointer (some (⟨b7, 0, none⟩))), (9, .int .i64 (x8)), (10, .func (.func 123) #[] #[.pointer (some (⟨b7, 0, none⟩))]), (29, .bool x12)] a) (fun a hF => ?_) ?_
  ·
   have h := hk14
   refine qt_val (fun W hC => (v_assign hF rfl)) hF (by decide) (fun a hF => ?_)
   refine qt_nil ?_
   intro W hC
   have hS := hC.2
   refine then_n ?_
   refine wp_if hF rfl (fun he24 => ?_) (fun he24 => ?_)
   ·
    replace h := ifT he24 h
    refine wp_seq ?_
    refine wp_reg ?_
    refine sq_val (v_assign hF rfl) hF (by decide) (fun a hF => ?_)
    refine sq_val (v_assign hF rfl) hF (by decide) (fun a hF => ?_)
    refine sq_nil ?_
    refine then_n ?_
    refine wp_ret ?_
    refine blk_r ?_
    refine then_r ?_
    have hS := hS.addNil k_TRule 65
    obtain rfl := Option.some.inj h
    exact ret2 hF rfl (rv_tmp hF rfl) (rv_tmp hF rfl) ⟨_, rfl, none, 0, rfl, (hS.keep (List.nil_sublist _) (List.Sublist.refl _) trivial)⟩
   ·
    replace h := ifF he24 h
    refine wp_seq ?_
    refine wp_reg ?_
    refine sq_val (v_fieldAddr hF rfl pf40_7) hF (by decide) (fun a hF => ?_)
    refine sq_val (v_load1 hF rfl pa4 (cells_sub (vs := [.bool (u1.Check)]) (hS.bc (i := 0) rfl) rfl rfl)) hF (by decide) (fun a hF => ?_)
    refine sq_val (v_move hF rfl) hF (by decide) (fun a hF => ?_)
    obtain ⟨x26, h, hk28⟩ := bindS h
    refine sq_cut 4 (fun a W => FH 53 [(0, .slice A0_0 ((u0).length) c0_0), (2, .int .i64 (u2)), (8, .pointer (some (⟨b7, 0, none⟩))), (9, .int .i64 (x8)), (37, .bool x26)] a ∧ St M w0 [⟨b1, TMod.enc u1 A1_0 c1_0, 40⟩] [] [fFn1 Try.prog 123 ([.pointer (some (⟨b7, 0, none⟩))]) k_TRule true (fun (a0 : TRule) => mods_add_2 k a0 x2) (fun y => .bool y), fFn1 Try.prog 121 ([.pointer (some (⟨b7, 0, none⟩))]) k_TRule true (fun (a0 : TRule) => mods_add_1 a0 x2) (fun y => .bool y), fBox b7 (TRule.enc x2 A4 c5) 65, fSl k_TAct A4 c5 x2.Acts, fSl k_TRule A0_0 c0_0 u0, fSl k_TAct A1_0 c1_0 u1.Acts] W) (fun a W hJ => ?_) ?_
    ·
     have h := hk28
     obtain ⟨hF, hS⟩ := hJ
     refine sq_val (v_assign hF rfl) hF (by decide) (fun a hF => ?_)
     refine sq_nil ?_
     refine then_n ?_
     refine wp_if hF rfl (fun he32 => ?_) (fun he32 => ?_)
     ·
      replace h := ifT he32 h
      refine wp_seq ?_
      refine wp_reg ?_
      refine sq_val (v_assign hF rfl) hF (by decide) (fun a hF => ?_)
      refine sq_val (v_assign hF rfl) hF (by decide) (fun a hF => ?_)
      refine sq_nil ?_
      refine then_n ?_
      refine wp_ret ?_
      refine blk_r ?_
      refine then_r ?_
      have hS := hS.addNil k_TRule 65
      obtain rfl := Option.some.inj h
      exact ret2 hF rfl (rv_tmp hF rfl) (rv_tmp hF rfl) ⟨_, rfl, none, 0, rfl, (hS.keep (List.nil_sublist _) (List.Sublist.refl _) trivial)⟩
     ·
      replace h := ifF he32 h
      refine wp_seq ?_
      refine wp_reg ?_
      refine sq_val (v_move hF rfl) hF (by decide) (fun a hF => ?_)
      refine sq_val (v_lss hF rfl rfl) hF (by decide) (fun a hF => ?_)
      refine sq_val (v_move hF rfl) hF (by decide) (fun a hF => ?_)
      refine sq_cut 5 (fun a W => FH 53 [(0, .slice A0_0 ((u0).length) c0_0), (8, .pointer (some (⟨b7, 0, none⟩))), (46, .bool ((decide (x8 < 0)) && (decide (u2 ≤ (u0.length : Int)))))] a ∧ St M w0 [⟨b1, TMod.enc u1 A1_0 c1_0, 40⟩] [] [fFn1 Try.prog 123 ([.pointer (some (⟨b7, 0, none⟩))]) k_TRule true (fun (a0 : TRule) => mods_add_2 k a0 x2) (fun y => .bool y), fFn1 Try.prog 121 ([.pointer (some (⟨b7, 0, none⟩))]) k_TRule true (fun (a0 : TRule) => mods_add_1 a0 x2) (fun y => .bool y), fBox b7 (TRule.enc x2 A4 c5) 65, fSl k_TAct A4 c5 x2.Acts, fSl k_TRule A0_0 c0_0 u0, fSl k_TAct A1_0 c1_0 u1.Acts] W) (fun a W hJ => ?_) ?_
      ·
       obtain ⟨hF, hS⟩ := hJ
       refine sq_val (v_assign hF rfl) hF (by decide) (fun a hF => ?_)
       refine sq_nil ?_
       refine then_n ?_
       refine wp_if hF rfl (fun he34 => ?_) (fun he34 => ?_)
       ·
        replace h := ifT he34 h
        refine wp_seq ?_
        refine wp_reg ?_
        refine sq_val (v_assign hF rfl) hF (by decide) (fun a hF => ?_)
        refine sq_val (v_assign hF rfl) hF (by decide) (fun a hF => ?_)
        refine sq_nil ?_
        refine then_n ?_
        refine wp_ret ?_
        refine blk_r ?_
        refine then_r ?_
        have hS := hS.addNil k_TRule 65
        obtain rfl := Option.some.inj h
        exact ret2 hF rfl (rv_tmp hF rfl) (rv_tmp hF rfl) ⟨_, rfl, none, 0, rfl, (hS.keep (List.nil_sublist _) (List.Sublist.refl _) trivial)⟩
       ·
        replace h := ifF he34 h
        refine wp_skip ?_
        refine blk_n ?_
        refine then_n ?_
        refine wp_seq ?_
        obtain ⟨o39, h, hk40⟩ := bindS h
        refine wp_join (fun a W => ∃ (x35 : List TRule) (x38 : Int) (A36 : Option Addr) (c37 : Nat), (x35, x38) = o39 ∧ FH 53 [(6, .slice A36 ((x35).length) c37), (7, .int .i64 (x38))] a ∧ St M w0 [] [⟨k_TRule, 65, A36, c37, x35⟩] [] W) (fun a W hJ => ?_) ?_
        ·
         obtain ⟨x35, x38, A36, c37, rfl, hF, hS⟩ := hJ
         have h := hk40
         dsimp only at h
         refine then_n ?_
         refine wp_ret ?_
         obtain rfl := Option.some.inj h
         exact ret2 hF rfl (rv_tmp hF rfl) (rv_tmp hF rfl) ⟨_, rfl, A36, c37, rfl, hS⟩
        ·
         refine wp_drawn (fun _ => St M w0 [⟨b1, TMod.enc u1 A1_0 c1_0, 40⟩] [] [fFn1 Try.prog 123 ([.pointer (some (⟨b7, 0, none⟩))]) k_TRule true (fun (a0 : TRule) => mods_add_2 k a0 x2) (fun y => .bool y), fFn1 Try.prog 121 ([.pointer (some (⟨b7, 0, none⟩))]) k_TRule true (fun (a0 : TRule) => mods_add_1 a0 x2) (fun y => .bool y), fBox b7 (TRule.enc x2 A4 c5) 65, fSl k_TAct A4 c5 x2.Acts, fSl k_TRule A0_0 c0_0 u0, fSl k_TAct A1_0 c1_0 u1.Acts]) (fun _ => false) rfl hS (fun W hB0 hR0 => ?_)
         have hS := hR0
         have hQC : (fun _ => St M w0 [⟨b1, TMod.enc u1 A1_0 c1_0, 40⟩] [] [fFn1 Try.prog 123 ([.pointer (some (⟨b7, 0, none⟩))]) k_TRule true (fun (a0 : TRule) => mods_add_2 k a0 x2) (fun y => .bool y), fFn1 Try.prog 121 ([.pointer (some (⟨b7, 0, none⟩))]) k_TRule true (fun (a0 : TRule) => mods_add_1 a0 x2) (fun y => .bool y), fBox b7 (TRule.enc x2 A4 c5) 65, fSl k_TAct A4 c5 x2.Acts, fSl k_TRule A0_0 c0_0 u0, fSl k_TAct A1_0 c1_0 u1.Acts]) W W := hS
         obtain ⟨x41, hx42, h⟩ := bindS h
         obtain ⟨x43, hx44, h⟩ := bindS h
         obtain ⟨x45, hx46, h⟩ := bindS h
         refine e_val (listed' := #[true, false, false, false, false, false, false, false]) 0 rfl (by kernel_rfl) (by kernel_rfl) (fun _ _ _ h => h) (fun W => (v_move hF rfl)) hF (by decide) (fun a hF => ?_)
         refine e_valS (listed' := #[true, false, true, false, false, false, false, false]) 2 rfl (by kernel_rfl) (by kernel_rfl) (fun _ _ _ h => h) (fun W hC => (v_load (cs := TRule.enc x2 A4 c5) hF rfl pa65 ps65 (hC.fbc (i := 2) rfl))) hQC (by kernel_rfl) hF (by decide) (fun a hF => ?_)
         refine e_many [1, 3] (by kernel_rfl) (by decide) ⟨⟨_, rfl, ?_⟩, ⟨_, rfl, ?_⟩, trivial⟩
         ·
          refine sq_call hF pc67 rfl (by decide) (ok_rule_Copy k (hS.enter ⟨⟨4, rfl⟩, trivial⟩) hx42) (fun v W hR a hF => ?_)
          obtain ⟨A47, c48, rfl, hT49⟩ := hR
          have hS := hS.join hT49
          refine sq_nil (then_j ⟨?_, ?_⟩)
          · exact fun _ _ => (hS.keep (List.Sublist.refl _) (List.nil_sublist _) ⟨⟨0, rfl⟩, ⟨1, rfl⟩, ⟨2, rfl⟩, ⟨3, rfl⟩, ⟨4, rfl⟩, ⟨5, rfl⟩, trivial⟩)
          ·
           have hQC : (fun _ => St M w0 [⟨b1, TMod.enc u1 A1_0 c1_0, 40⟩] [] [fFn1 Try.prog 123 ([.pointer (some (⟨b7, 0, none⟩))]) k_TRule true (fun (a0 : TRule) => mods_add_2 k a0 x2) (fun y => .bool y), fFn1 Try.prog 121 ([.pointer (some (⟨b7, 0, none⟩))]) k_TRule true (fun (a0 : TRule) => mods_add_1 a0 x2) (fun y => .bool y), fBox b7 (TRule.enc x2 A4 c5) 65, fSl k_TAct A4 c5 x2.Acts, fSl k_TRule A0_0 c0_0 u0, fSl k_TAct A1_0 c1_0 u1.Acts]) W W := (hS.keep (List.Sublist.refl _) (List.nil_sublist _) ⟨⟨0, rfl⟩, ⟨1, rfl⟩, ⟨2, rfl⟩, ⟨3, rfl⟩, ⟨4, rfl⟩, ⟨5, rfl⟩, trivial⟩)
           refine e_listed (listed' := #[true, true, true, false, false, false, false, false]) (by kernel_rfl) ?_
           refine e_one (listed' := #[true, true, true, true, false, false, false, false]) 3 rfl (by kernel_rfl) (by kernel_rfl) ?_
           refine sq_buildSlice (κ := k_TRule) (xs := [.tmp 49]) (ys := [x2]) hF hS rfl rfl rfl (Els.cons ⟨A4, c5, rfl, (hS.fc (i := 3) rfl)⟩ (Els.nil _ _ _)) rfl psl37 pz65 rfl (by decide) (by decide) (by decide) (fun A50 c51 a W hF hS => ?_)
           refine sq_nil (then_j ⟨?_, ?_⟩)
           · exact fun _ _ => (hS.keep (List.Sublist.refl _) (List.nil_sublist _) ⟨⟨0, rfl⟩, ⟨1, rfl⟩, ⟨2, rfl⟩, ⟨3, rfl⟩, ⟨4, rfl⟩, ⟨5, rfl⟩, trivial⟩)
           ·
            have hQC : (fun _ => St M w0 [⟨b1, TMod.enc u1 A1_0 c1_0, 40⟩] [] [fFn1 Try.prog 123 ([.pointer (some (⟨b7, 0, none⟩))]) k_TRule true (fun (a0 : TRule) => mods_add_2 k a0 x2) (fun y => .bool y), fFn1 Try.prog 121 ([.pointer (some (⟨b7, 0, none⟩))]) k_TRule true (fun (a0 : TRule) => mods_add_1 a0 x2) (fun y => .bool y), fBox b7 (TRule.enc x2 A4 c5) 65, fSl k_TAct A4 c5 x2.Acts, fSl k_TRule A0_0 c0_0 u0, fSl k_TAct A1_0 c1_0 u1.Acts]) W W := (hS.keep (List.Sublist.refl _) (List.nil_sublist _) ⟨⟨0, rfl⟩, ⟨1, rfl⟩, ⟨2, rfl⟩, ⟨3, rfl⟩, ⟨4, rfl⟩, ⟨5, rfl⟩, trivial⟩)
            refine e_one (listed' := #[true, true, true, true, true, false, false, false]) 4 rfl (by kernel_rfl) (by kernel_rfl) ?_
            refine sq_append (ys := ([x2])) hF hS (i := 1) rfl rfl rfl (hS.rw_ (i := 0) rfl).src psl37 pb65 pz65 rfl (by decide) (by decide) hx44 (by decide) (fun A52 c53 a W hF hS => ?_)
            refine sq_nil (then_j ⟨?_, ?_⟩)
            · exact fun _ _ => (hS.keep (List.Sublist.refl _) (List.nil_sublist _) ⟨⟨0, rfl⟩, ⟨1, rfl⟩, ⟨2, rfl⟩, ⟨3, rfl⟩, ⟨4, rfl⟩, ⟨5, rfl⟩, trivial⟩)
            ·
             have hQC : (fun _ => St M w0 [⟨b1, TMod.enc u1 A1_0 c1_0, 40⟩] [] [fFn1 Try.prog 123 ([.pointer (some (⟨b7, 0, none⟩))]) k_TRule true (fun (a0 : TRule) => mods_add_2 k a0 x2) (fun y => .bool y), fFn1 Try.prog 121 ([.pointer (some (⟨b7, 0, none⟩))]) k_TRule true (fun (a0 : TRule) => mods_add_1 a0 x2) (fun y => .bool y), fBox b7 (TRule.enc x2 A4 c5) 65, fSl k_TAct A4 c5 x2.Acts, fSl k_TRule A0_0 c0_0 u0, fSl k_TAct A1_0 c1_0 u1.Acts]) W W := (hS.keep (List.Sublist.refl _) (List.nil_sublist _) ⟨⟨0, rfl⟩, ⟨1, rfl⟩, ⟨2, rfl⟩, ⟨3, rfl⟩, ⟨4, rfl⟩, ⟨5, rfl⟩, trivial⟩)
             refine e_one (listed' := #[true, true, true, true, true, true, false, false]) 5 rfl (by kernel_rfl) (by kernel_rfl) ?_
             have hS := hS.freeze (i := 1) rfl (posB rfl)
             refine sq_call hF pc126 rfl (by decide) (ok_rule_Sort k (hS.enter ⟨⟨0, rfl⟩, trivial⟩) hx46) (fun v W hR a hF => ?_)
             obtain ⟨A54, c55, rfl, hT56⟩ := hR
             have hS := hS.join hT56
             refine sq_nil (then_j ⟨?_, ?_⟩)
             · exact fun _ _ => (hS.keep (List.Sublist.refl _) (List.nil_sublist _) ⟨⟨1, rfl⟩, ⟨2, rfl⟩, ⟨3, rfl⟩, ⟨4, rfl⟩, ⟨5, rfl⟩, ⟨6, rfl⟩, trivial⟩)
             ·
              have hQC : (fun _ => St M w0 [⟨b1, TMod.enc u1 A1_0 c1_0, 40⟩] [] [fFn1 Try.prog 123 ([.pointer (some (⟨b7, 0, none⟩))]) k_TRule true (fun (a0 : TRule) => mods_add_2 k a0 x2) (fun y => .bool y), fFn1 Try.prog 121 ([.pointer (some (⟨b7, 0, none⟩))]) k_TRule true (fun (a0 : TRule) => mods_add_1 a0 x2) (fun y => .bool y), fBox b7 (TRule.enc x2 A4 c5) 65, fSl k_TAct A4 c5 x2.Acts, fSl k_TRule A0_0 c0_0 u0, fSl k_TAct A1_0 c1_0 u1.Acts]) W W := (hS.keep (List.Sublist.refl _) (List.nil_sublist _) ⟨⟨1, rfl⟩, ⟨2, rfl⟩, ⟨3, rfl⟩, ⟨4, rfl⟩, ⟨5, rfl⟩, ⟨6, rfl⟩, trivial⟩)
              refine e_val (listed' := #[true, true, true, true, true, true, true, false]) 6 rfl (by kernel_rfl) (by kernel_rfl) (fun _ _ _ h => h) (fun W => (v_assign hF rfl)) hF (by decide) (fun a hF => ?_)
              refine e_val (listed' := #[true, true, true, true, true, true, true, true]) 7 rfl (by kernel_rfl) (by kernel_rfl) (fun _ _ _ h => h) (fun W => (v_assign hF rfl)) hF (by decide) (fun a hF => ?_)
              refine e_done (by kernel_rfl) ?_ _
              obtain rfl := Option.some.inj h
              exact then_j ⟨x45, 0, A54, c55, rfl, (hF.keep ⟨rfl, rfl, trivial⟩), (hS.keep (List.nil_sublist _) (.cons_cons _ (List.nil_sublist _)) trivial)⟩
         ·
          refine sq_buildSlice (κ := k_TRule) (xs := [.tmp 49]) (ys := [x2]) hF hS rfl rfl rfl (Els.cons ⟨A4, c5, rfl, (hS.fc (i := 3) rfl)⟩ (Els.nil _ _ _)) rfl psl37 pz65 rfl (by decide) (by decide) (by decide) (fun A57 c58 a W hF hS => ?_)
          refine sq_nil (then_j ⟨?_, ?_⟩)
          · exact fun _ _ => (hS.keep (List.Sublist.refl _) (List.nil_sublist _) ⟨⟨0, rfl⟩, ⟨1, rfl⟩, ⟨2, rfl⟩, ⟨3, rfl⟩, ⟨4, rfl⟩, ⟨5, rfl⟩, trivial⟩)
          ·
           have hQC : (fun _ => St M w0 [⟨b1, TMod.enc u1 A1_0 c1_0, 40⟩] [] [fFn1 Try.prog 123 ([.pointer (some (⟨b7, 0, none⟩))]) k_TRule true (fun (a0 : TRule) => mods_add_2 k a0 x2) (fun y => .bool y), fFn1 Try.prog 121 ([.pointer (some (⟨b7, 0, none⟩))]) k_TRule true (fun (a0 : TRule) => mods_add_1 a0 x2) (fun y => .bool y), fBox b7 (TRule.enc x2 A4 c5) 65, fSl k_TAct A4 c5 x2.Acts, fSl k_TRule A0_0 c0_0 u0, fSl k_TAct A1_0 c1_0 u1.Acts]) W W := (hS.keep (List.Sublist.refl _) (List.nil_sublist _) ⟨⟨0, rfl⟩, ⟨1, rfl⟩, ⟨2, rfl⟩, ⟨3, rfl⟩, ⟨4, rfl⟩, ⟨5, rfl⟩, trivial⟩)
           refine e_listed (listed' := #[true, false, true, true, false, false, false, false]) (by kernel_rfl) ?_
           refine e_one (listed' := #[true, true, true, true, false, false, false, false]) 1 rfl (by kernel_rfl) (by kernel_rfl) ?_
           refine sq_call hF pc67 rfl (by decide) (ok_rule_Copy k (hS.enter ⟨⟨4, rfl⟩, trivial⟩) hx42) (fun v W hR a hF => ?_)
           obtain ⟨A59, c60, rfl, hT61⟩ := hR
           have hS := hS.join hT61
           refine sq_nil (then_j ⟨?_, ?_⟩)
           · exact fun _ _ => (hS.keep (List.Sublist.refl _) (List.nil_sublist _) ⟨⟨0, rfl⟩, ⟨1, rfl⟩, ⟨2, rfl⟩, ⟨3, rfl⟩, ⟨4, rfl⟩, ⟨5, rfl⟩, trivial⟩)
           ·
            have hQC : (fun _ => St M w0 [⟨b1, TMod.enc u1 A1_0 c1_0, 40⟩] [] [fFn1 Try.prog 123 ([.pointer (some (⟨b7, 0, none⟩))]) k_TRule true (fun (a0 : TRule) => mods_add_2 k a0 x2) (fun y => .bool y), fFn1 Try.prog 121 ([.pointer (some (⟨b7, 0, none⟩))]) k_TRule true (fun (a0 : TRule) => mods_add_1 a0 x2) (fun y => .bool y), fBox b7 (TRule.enc x2 A4 c5) 65, fSl k_TAct A4 c5 x2.Acts, fSl k_TRule A0_0 c0_0 u0, fSl k_TAct A1_0 c1_0 u1.Acts]) W W := (hS.keep (List.Sublist.refl _) (List.nil_sublist _) ⟨⟨0, rfl⟩, ⟨1, rfl⟩, ⟨2, rfl⟩, ⟨3, rfl⟩, ⟨4, rfl⟩, ⟨5, rfl⟩, trivial⟩)
            refine e_one (listed' := #[true, true, true, true, true, false, false, false]) 4 rfl (by kernel_rfl) (by kernel_rfl) ?_
            refine sq_append (ys := ([x2])) hF hS (i := 0) rfl rfl rfl (hS.rw_ (i := 1) rfl).src psl37 pb65 pz65 rfl (by decide) (by decide) hx44 (by decide) (fun A62 c63 a W hF hS => ?_)
            refine sq_nil (then_j ⟨?_, ?_⟩)
            · exact fun _ _ => (hS.keep (List.Sublist.refl _) (List.nil_sublist _) ⟨⟨0, rfl⟩, ⟨1, rfl⟩, ⟨2, rfl⟩, ⟨3, rfl⟩, ⟨4, rfl⟩, ⟨5, rfl⟩, trivial⟩)
            ·
             have hQC : (fun _ => St M w0 [⟨b1, TMod.enc u1 A1_0 c1_0, 40⟩] [] [fFn1 Try.prog 123 ([.pointer (some (⟨b7, 0, none⟩))]) k_TRule true (fun (a0 : TRule) => mods_add_2 k a0 x2) (fun y => .bool y), fFn1 Try.prog 121 ([.pointer (some (⟨b7, 0, none⟩))]) k_TRule true (fun (a0 : TRule) => mods_add_1 a0 x2) (fun y => .bool y), fBox b7 (TRule.enc x2 A4 c5) 65, fSl k_TAct A4 c5 x2.Acts, fSl k_TRule A0_0 c0_0 u0, fSl k_TAct A1_0 c1_0 u1.Acts]) W W := (hS.keep (List.Sublist.refl _) (List.nil_sublist _) ⟨⟨0, rfl⟩, ⟨1, rfl⟩, ⟨2, rfl⟩, ⟨3, rfl⟩, ⟨4, rfl⟩, ⟨5, rfl⟩, trivial⟩)
             refine e_one (listed' := #[true, true, true, true, true, true, false, false]) 5 rfl (by kernel_rfl) (by kernel_rfl) ?_
             have hS := hS.freeze (i := 0) rfl (posB rfl)
             refine sq_call hF pc126 rfl (by decide) (ok_rule_Sort k (hS.enter ⟨⟨0, rfl⟩, trivial⟩) hx46) (fun v W hR a hF => ?_)
             obtain ⟨A64, c65, rfl, hT66⟩ := hR
             have hS := hS.join hT66
             refine sq_nil (then_j ⟨?_, ?_⟩)
             · exact fun _ _ => (hS.keep (List.Sublist.refl _) (List.nil_sublist _) ⟨⟨1, rfl⟩, ⟨2, rfl⟩, ⟨3, rfl⟩, ⟨4, rfl⟩, ⟨5, rfl⟩, ⟨6, rfl⟩, trivial⟩)
             ·
              have hQC : (fun _ => St M w0 [⟨b1, TMod.enc u1 A1_0 c1_0, 40⟩] [] [fFn1 Try.prog 123 ([.pointer (some (⟨b7, 0, none⟩))]) k_TRule true (fun (a0 : TRule) => mods_add_2 k a0 x2) (fun y => .bool y), fFn1 Try.prog 121 ([.pointer (some (⟨b7, 0, none⟩))]) k_TRule true (fun (a0 : TRule) => mods_add_1 a0 x2) (fun y => .bool y), fBox b7 (TRule.enc x2 A4 c5) 65, fSl k_TAct A4 c5 x2.Acts, fSl k_TRule A0_0 c0_0 u0, fSl k_TAct A1_0 c1_0 u1.Acts]) W W := (hS.keep (List.Sublist.refl _) (List.nil_sublist _) ⟨⟨1, rfl⟩, ⟨2, rfl⟩, ⟨3, rfl⟩, ⟨4, rfl⟩, ⟨5, rfl⟩, ⟨6, rfl⟩, trivial⟩)
              refine e_val (listed' := #[true, true, true, true, true, true, true, false]) 6 rfl (by kernel_rfl) (by kernel_rfl) (fun _ _ _ h => h) (fun W => (v_assign hF rfl)) hF (by decide) (fun a hF => ?_)
              refine e_val (listed' := #[true, true, true, true, true, true, true, true]) 7 rfl (by kernel_rfl) (by kernel_rfl) (fun _ _ _ h => h) (fun W => (v_assign hF rfl)) hF (by decide) (fun a hF => ?_)
              refine e_done (by kernel_rfl) ?_ _
              obtain rfl := Option.some.inj h
              exact then_j ⟨x45, 0, A64, c65, rfl, (hF.keep ⟨rfl, rfl, trivial⟩), (hS.keep (List.nil_sublist _) (.cons_cons _ (List.nil_sublist _)) trivial)⟩
      ·
       by_cases he33 : (decide (x8 < 0)) = true
       ·
        refine sq_yes hF rfl rfl he33 ?_
        refine sq_val (v_move hF rfl) hF (by decide) (fun a hF => ?_)
        refine sq_yes hF rfl rfl he33 ?_
        refine sq_val (v_len hF rfl pu37) hF (by decide) (fun a hF => ?_)
        refine sq_yes hF rfl rfl he33 ?_
        refine sq_val (v_move hF rfl) hF (by decide) (fun a hF => ?_)
        refine sq_yes hF rfl rfl he33 ?_
        refine sq_val (v_geq hF rfl rfl) hF (by decide) (fun a hF => ?_)
        refine sq_val (v_pick_t hF rfl he33 rfl) hF (by decide) (fun a hF => ?_)
        exact sq_nil (then_j ⟨(hF.keep ⟨rfl, rfl, (boolV (and_t he33)), trivial⟩), hS⟩)
       ·
        have he33 : (decide (x8 < 0)) = false := nB he33
        refine sq_no hF rfl rfl he33 (by rintro x ⟨⟩; decide) (fun a hF => ?_)
        refine sq_no hF rfl rfl he33 (by rintro x ⟨⟩; decide) (fun a hF => ?_)
        refine sq_no hF rfl rfl he33 (by rintro x ⟨⟩; decide) (fun a hF => ?_)
        refine sq_no hF rfl rfl he33 (by rintro x ⟨⟩; decide) (fun a hF => ?_)
        refine sq_val (v_pick_f hF rfl he33 rfl) hF (by decide) (fun a hF => ?_)
        exact sq_nil (then_j ⟨(hF.keep ⟨rfl, rfl, (boolV (and_f he33)), trivial⟩), hS⟩)
    ·
     by_cases he25 : u1.Check = true
     ·
      replace h := ifT he25 h
      refine sq_yes hF rfl rfl he25 ?_
      refine sq_val (v_move hF rfl) hF (by decide) (fun a hF => ?_)
      refine sq_yes hF rfl rfl he25 ?_
      refine sq_val (v_move hF rfl) hF (by decide) (fun a hF => ?_)
      refine sq_yes hF rfl rfl he25 ?_
      obtain ⟨x29, hx30, h⟩ := bindS h
      refine sq_call hF pc125 rfl (by decide) (ok_slices_ContainsFunc_Rule k (hS.enter ⟨⟨4, rfl⟩, ⟨0, rfl⟩, trivial⟩) hx30) (fun v W hR a hF => ?_)
      obtain ⟨rfl, hT31⟩ := hR
      have hS := hS.grow hT31.below
      refine sq_val (v_pick_t hF rfl he25 rfl) hF (by decide) (fun a hF => ?_)
      obtain rfl := Option.some.inj h
      exact sq_nil (then_j ⟨(hF.keep ⟨rfl, rfl, rfl, rfl, rfl, trivial⟩), hS⟩)
     ·
      have he25 : u1.Check = false := nB he25
      replace h := ifF he25 h
      refine sq_no hF rfl rfl he25 (by rintro x ⟨⟩; decide) (fun a hF => ?_)
      refine sq_no hF rfl rfl he25 (by rintro x ⟨⟩; decide) (fun a hF => ?_)
      refine sq_no hF rfl rfl he25 (by rintro x ⟨⟩; decide) (fun a hF => ?_)
      refine sq_val (v_pick_f hF rfl he25 rfl) hF (by decide) (fun a hF => ?_)
      obtain rfl := Option.some.inj h
      exact sq_nil (then_j ⟨(hF.keep ⟨rfl, rfl, rfl, rfl, rfl, trivial⟩), hS⟩)
  ·
   by_cases he11 : (decide (0 ≤ x8)) = true
   ·
    replace h := ifT he11 h
    refine qt_yes hF rfl rfl he11 ?_
    refine qt_val (fun W hC => (v_move hF rfl)) hF (by decide) (fun a hF => ?_)
    refine qt_yes hF rfl rfl he11 ?_
    refine qt_val (fun W hC => (v_move hF rfl)) hF (by decide) (fun a hF => ?_)
    refine qt_yes hF rfl rfl he11 ?_
    obtain ⟨x15, hx16, h⟩ := bindS h
    obtain ⟨p17, cs18, hA19, hat20⟩ := SlR.at (hS.fc (i := 4) rfl) hx16
    obtain ⟨A21, c22, rfl, hs23⟩ := hat20.2.2.2
    refine qt_val (fun W hC => (v_idx hF rfl hA19 rfl psl37 hx16)) hF (by decide) (fun a hF => ?_)
    refine qt_yes hF rfl rfl he11 ?_
    refine qt_val (fun W hC => (v_fieldAddr hF rfl pf65_5)) hF (by decide) (fun a hF => ?_)
    refine qt_yes hF rfl rfl he11 ?_
    refine qt_val (fun W hC => (v_load1 hF rfl pa3 (cells_sub (vs := [.int .i64 (x15.Owner)]) (hat20.2.2.1.grow hC.1) rfl rfl))) hF (by decide) (fun a hF => ?_)
    refine qt_yes hF rfl rfl he11 ?_
    refine qt_val (fun W hC => (v_fieldAddr hF rfl pf40_6)) hF (by decide) (fun a hF => ?_)
    refine qt_yes hF rfl rfl he11 ?_
    refine qt_val (fun W hC => (v_load1 hF rfl pa3 (cells_sub (vs := [.int .i64 (u1.Owner)]) (hC.2.bc (i := 0) rfl) rfl rfl))) hF (by decide) (fun a hF => ?_)
    refine qt_yes hF rfl rfl he11 ?_
    refine qt_val (fun W hC => (v_neq hF rfl rfl)) hF (by decide) (fun a hF => ?_)
    refine qt_val (fun W hC => (v_pick_t hF rfl he11 rfl)) hF (by decide) (fun a hF => ?_)
    obtain rfl := Option.some.inj h
    exact qt_nil (hF.keep ⟨rfl, rfl, rfl, rfl, rfl, rfl, rfl, trivial⟩)
   ·
    have he11 : (decide (0 ≤ x8)) = false := nB he11
    replace h := ifF he11 h
    refine qt_no hF rfl rfl he11 (by decide) (fun a hF => ?_)
    refine qt_no hF rfl rfl he11 (by decide) (fun a hF => ?_)
    refine qt_no hF rfl rfl he11 (by decide) (fun a hF => ?_)
    refine qt_no hF rfl rfl he11 (by decide) (fun a hF => ?_)
    refine qt_no hF rfl rfl he11 (by decide) (fun a hF => ?_)
    refine qt_no hF rfl rfl he11 (by decide) (fun a hF => ?_)
    refine qt_no hF rfl rfl he11 (by decide) (fun a hF => ?_)
    refine qt_no hF rfl rfl he11 (by decide) (fun a hF => ?_)
    refine qt_val (fun W hC => (v_pick_f hF rfl he11 rfl)) hF (by decide) (fun a hF => ?_)
    obtain rfl := Option.some.inj h
    exact qt_nil (hF.keep ⟨rfl, rfl, rfl, rfl, rfl, rfl, rfl, trivial⟩)

theorem ok_cube_Within (k : Nat) {M : Nat → Prop} {w0 : World} {u0 : TCube} {u1 : TCube} {o : Bool} (hS : St M w0 [] [] [] w0) (h : cube_Within k u0 u1 = some o) :
    Calls Try.prog 19 #[.agg (TCube.enc u0).toArray, .agg (TCube.enc u1).toArray] w0 fun e W' => ∃ v, e = .returned v ∧ (v = .bool (o) ∧ St M w0 [] [] [] W') := by
  unfold cube_Within at h
  refine calls_start (args := [.agg (TCube.enc u0).toArray, .agg (TCube.enc u1).toArray]) Try.func19 rfl rfl (Nat.le_of_ble_eq_true rfl) (fun a hF => ?_)
  refine wp_seq ?_
  refine wp_reg ?_
  refine sq_box hF hS rfl rfl (by decide) (fun b1 a W hF hS => ?_)
  refine sq_box hF hS rfl rfl (by decide) (fun b2 a W hF hS => ?_)
  refine sq_val (v_assign hF rfl) hF (by decide) (fun a hF => ?_)
  refine sq_nil ?_
  refine then_n ?_
  refine wp_seq ?_
  refine wp_reg ?_
  refine sq_val (v_load (cs := TCube.enc u0) hF rfl pa26 ps26 (hS.bc (i := 1) rfl)) hF (by decide) (fun a hF => ?_)
  refine sq_val (v_load (cs := TCube.enc u1) hF rfl pa26 ps26 (hS.bc (i := 0) rfl)) hF (by decide) (fun a hF => ?_)
  obtain ⟨x3, hx4, h⟩ := bindS h
  refine sq_call hF pc12 rfl (by decide) (ok_cube_Meet k (hS.enter trivial) hx4) (fun v W hR a hF => ?_)
  obtain ⟨rfl, hT5⟩ := hR
  have hS := hS.grow hT5.below
  refine sq_val (v_move hF rfl) hF (by decide) (fun a hF => ?_)
  refine sq_val (v_extract hF rfl rfl) hF (by decide) (fun a hF => ?_)
  refine sq_val (v_extract hF rfl rfl) hF (by decide) (fun a hF => ?_)
  refine sq_alloc hF hS pz26 rfl (by decide) (fun b6 a W hF hS => ?_)
  refine sq_store (o := 0) (vs := TCube.enc x3.1) (cs' := TCube.enc x3.1) hF hS rfl rfl (i := 0) rfl rfl rfl ps26 (TCube.enc_one _) (Nat.le_of_ble_eq_true rfl) rfl (fun W hS => ?_)
  refine sq_val (v_assign hF rfl) hF (by decide) (fun a hF => ?_)
  refine sq_nil ?_
  refine then_n ?_
  refine wp_seq ?_
  refine wp_reg ?_
  refine sq_val (v_move hF rfl) hF (by decide) (fun a hF => ?_)
  refine sq_val (v_move hF rfl) hF (by decide) (fun a hF => ?_)
  refine sq_cut 4 (fun a W => FH 19 [(18, .bool (x3.2 && (cellsEq (TCube.enc x3.1) (TCube.enc u0))))] a ∧ St M w0 [⟨b6, TCube.enc x3.1, 26⟩, ⟨b2, TCube.enc u1, 26⟩, ⟨b1, TCube.enc u0, 26⟩] [] [] W) (fun a W hJ => ?_) ?_
  ·
   obtain ⟨hF, hS⟩ := hJ
   refine sq_val (v_assign hF rfl) hF (by decide) (fun a hF => ?_)
   refine sq_nil ?_
   refine then_n ?_
   refine wp_ret ?_
   obtain rfl := Option.some.inj h
   exact ret1 hF rfl (rv_tmp hF rfl) ⟨_, rfl, rfl, (hS.keep (List.nil_sublist _) (List.Sublist.refl _) trivial)⟩
  ·
   by_cases he7 : x3.2 = true
   ·
    refine sq_yes hF rfl rfl he7 ?_
    refine sq_val (v_load (cs := TCube.enc x3.1) hF rfl pa26 ps26 (hS.bc (i := 0) rfl)) hF (by decide) (fun a hF => ?_)
    refine sq_yes hF rfl rfl he7 ?_
    refine sq_val (v_load (cs := TCube.enc u0) hF rfl pa26 ps26 (hS.bc (i := 2) rfl)) hF (by decide) (fun a hF => ?_)
    refine sq_yes hF rfl rfl he7 ?_
    refine sq_val (eq26 hF rfl rfl).1 hF (by decide) (fun a hF => ?_)
    refine sq_val (v_pick_t hF rfl he7 rfl) hF (by decide) (fun a hF => ?_)
    exact sq_nil (then_j ⟨(hF.keep ⟨(boolV (and_t he7)), trivial⟩), hS⟩)
   ·
    have he7 : x3.2 = false := nB he7
    refine sq_no hF rfl rfl he7 (by rintro x ⟨⟩; decide) (fun a hF => ?_)
    refine sq_no hF rfl rfl he7 (by rintro x ⟨⟩; decide) (fun a hF => ?_)
    refine sq_no hF rfl rfl he7 (by rintro x ⟨⟩; decide) (fun a hF => ?_)
    refine sq_val (v_pick_f hF rfl he7 rfl) hF (by decide) (fun a hF => ?_)
    exact sq_nil (then_j ⟨(hF.keep ⟨(boolV (and_f he7)), trivial⟩), hS⟩)

theorem ok_mods_touches (k : Nat) {M : Nat → Prop} {w0 : World} {u0 : TMod} {A0_0 : Option Addr} {c0_0 : Nat} {u1 : TRule} {A1_0 : Option Addr} {c1_0 : Nat} {o : Bool} (hS : St M w0 [] [] [fSl k_TAct A0_0 c0_0 u0.Acts, fSl k_TAct A1_0 c1_0 u1.Acts] w0) (h : mods_touches k u0 u1 = some o) :
    Calls Try.prog 68 #[.agg (TMod.enc u0 A0_0 c0_0).toArray, .agg (TRule.enc u1 A1_0 c1_0).toArray] w0 fun e W' => ∃ v, e = .returned v ∧ (v = .bool (o) ∧ St M w0 [] [] [] W') := by
  unfold mods_touches at h
  refine calls_start (args := [.agg (TMod.enc u0 A0_0 c0_0).toArray, .agg (TRule.enc u1 A1_0 c1_0).toArray]) Try.func68 rfl rfl (Nat.le_of_ble_eq_true rfl) (fun a hF => ?_)
  refine wp_seq ?_
  refine wp_reg ?_
  refine sq_box hF hS rfl rfl (by decide) (fun b1 a W hF hS => ?_)
  refine sq_box hF hS rfl rfl (by decide) (fun b2 a W hF hS => ?_)
  refine sq_val (v_assign hF rfl) hF (by decide) (fun a hF => ?_)
  refine sq_nil ?_
  refine then_n ?_
  refine wp_seq ?_
  refine wp_seq ?_
  refine wp_reg ?_
  refine sq_val (v_fieldAddr hF rfl pf40_0) hF (by decide) (fun a hF => ?_)
  refine sq_val (v_load1 hF rfl pa3 (cells_sub (vs := [.int .i64 (u0.Kind)]) (hS.bc (i := 1) rfl) rfl rfl)) hF (by decide) (fun a hF => ?_)
  refine sq_nil ?_
  refine then_n ?_
  refine wp_block ?_
  refine wp_seq ?_
  refine wp_seq ?_
  refine wp_reg ?_
  refine sq_val (v_eql hF rfl rfl) hF (by decide) (fun a hF => ?_)
  refine sq_val (v_assign hF rfl) hF (by decide) (fun a hF => ?_)
  refine sq_nil ?_
  refine then_n ?_
  obtain ⟨o4, h, hk5⟩ := bindS h
  refine wp_join (fun a W => ∃ (x3 : Bool), x3 = o4 ∧ FH 36 [(2, .pointer (some (⟨b1, 0, none⟩))), (3, .pointer (some (⟨b2, 0, none⟩))), (6, .int .i64 (u0.Kind)), (7, .bool (x3))] a ∧ St M w0 [⟨b2, TRule.enc u1 A1_0 c1_0, 65⟩, ⟨b1, TMod.enc u0 A0_0 c0_0, 40⟩] [] [fSl k_TAct A0_0 c0_0 u0.Acts, fSl k_TAct A1_0 c1_0 u1.Acts] W) (fun a W hJ => ?_) ?_
  ·
   obtain ⟨x3, rfl, hF, hS⟩ := hJ
   have h := hk5
   refine then_n ?_
   refine wp_if hF rfl (fun he6 => ?_) (fun he6 => ?_)
   ·
    replace h := ifT he6 h
    refine wp_seq ?_
    refine wp_reg ?_
    refine sq_val (v_fieldAddr hF rfl pf65_5) hF (by decide) (fun a hF => ?_)
    refine sq_val (v_load1 hF rfl pa3 (cells_sub (vs := [.int .i64 (u1.Owner)]) (hS.bc (i := 0) rfl) rfl rfl)) hF (by decide) (fun a hF => ?_)
    refine sq_val (v_fieldAddr hF rfl pf40_6) hF (by decide) (fun a hF => ?_)
    refine sq_val (v_load1 hF rfl pa3 (cells_sub (vs := [.int .i64 (u0.Owner)]) (hS.bc (i := 1) rfl) rfl rfl)) hF (by decide) (fun a hF => ?_)
    refine sq_val (v_eql hF rfl rfl) hF (by decide) (fun a hF => ?_)
    refine sq_val (v_move hF rfl) hF (by decide) (fun a hF => ?_)
    obtain ⟨x8, h, hk10⟩ := bindS h
    refine sq_cut 6 (fun a W => FH 36 [(21, .bool x8)] a ∧ St M w0 [⟨b2, TRule.enc u1 A1_0 c1_0, 65⟩, ⟨b1, TMod.enc u0 A0_0 c0_0, 40⟩] [] [fSl k_TAct A0_0 c0_0 u0.Acts, fSl k_TAct A1_0 c1_0 u1.Acts] W) (fun a W hJ => ?_) ?_
    ·
     have h := hk10
     obtain ⟨hF, hS⟩ := hJ
     refine sq_val (v_assign hF rfl) hF (by decide) (fun a hF => ?_)
     refine sq_nil ?_
     refine then_n ?_
     refine wp_ret ?_
     refine blk_r ?_
     refine then_r ?_
     obtain rfl := Option.some.inj h
     exact ret1 hF rfl (rv_tmp hF rfl) ⟨_, rfl, rfl, (hS.keep (List.nil_sublist _) (List.Sublist.refl _) trivial)⟩
    ·
     by_cases he7 : (u1.Owner == u0.Owner) = true
     ·
      replace h := ifT he7 h
      refine sq_yes hF rfl rfl he7 ?_
      refine sq_val (v_fieldAddr hF rfl pf65_0) hF (by decide) (fun a hF => ?_)
      refine sq_yes hF rfl rfl he7 ?_
      refine sq_val (v_load (cs := TCube.enc u1.Match) hF rfl pa26 ps26 (cells_sub (vs := TCube.enc u1.Match) (hS.bc (i := 0) rfl) rfl rfl)) hF (by decide) (fun a hF => ?_)
      refine sq_yes hF rfl rfl he7 ?_
      refine sq_val (v_fieldAddr hF rfl pf40_1) hF (by decide) (fun a hF => ?_)
      refine sq_yes hF rfl rfl he7 ?_
      refine sq_val (v_load (cs := TCube.enc u0.Match) hF rfl pa26 ps26 (cells_sub (vs := TCube.enc u0.Match) (hS.bc (i := 1) rfl) rfl rfl)) hF (by decide) (fun a hF => ?_)
      refine sq_yes hF rfl rfl he7 ?_
      obtain ⟨x11, hx12, h⟩ := bindS h
      refine sq_call hF pc19 rfl (by decide) (ok_cube_Within k (hS.enter trivial) hx12) (fun v W hR a hF => ?_)
      obtain ⟨rfl, hT13⟩ := hR
      have hS := hS.grow hT13.below
      refine sq_val (v_pick_t hF rfl he7 rfl) hF (by decide) (fun a hF => ?_)
      obtain rfl := Option.some.inj h
      exact sq_nil (then_j ⟨(hF.keep ⟨rfl, trivial⟩), hS⟩)
     ·
      have he7 : (u1.Owner == u0.Owner) = false := nB he7
      replace h := ifF he7 h
      refine sq_no hF rfl rfl he7 (by rintro x ⟨⟩; decide) (fun a hF => ?_)
      refine sq_no hF rfl rfl he7 (by rintro x ⟨⟩; decide) (fun a hF => ?_)
      refine sq_no hF rfl rfl he7 (by rintro x ⟨⟩; decide) (fun a hF => ?_)
      refine sq_no hF rfl rfl he7 (by rintro x ⟨⟩; decide) (fun a hF => ?_)
      refine sq_no hF rfl rfl he7 (by rintro x ⟨⟩; decide) (fun a hF => ?_)
      refine sq_val (v_pick_f hF rfl he7 rfl) hF (by decide) (fun a hF => ?_)
      obtain rfl := Option.some.inj h
      exact sq_nil (then_j ⟨(hF.keep ⟨rfl, trivial⟩), hS⟩)
   ·
    replace h := ifF he6 h
    refine wp_seq ?_
    refine wp_seq ?_
    refine wp_reg ?_
    refine sq_val (v_eql hF rfl rfl) hF (by decide) (fun a hF => ?_)
    refine sq_val (v_assign hF rfl) hF (by decide) (fun a hF => ?_)
    refine sq_nil ?_
    refine then_n ?_
    obtain ⟨o15, h, hk16⟩ := bindS h
    refine wp_join (fun a W => ∃ (x14 : Bool), x14 = o15 ∧ FH 36 [(2, .pointer (some (⟨b1, 0, none⟩))), (3, .pointer (some (⟨b2, 0, none⟩))), (22, .bool (x14))] a ∧ St M w0 [⟨b2, TRule.enc u1 A1_0 c1_0, 65⟩, ⟨b1, TMod.enc u0 A0_0 c0_0, 40⟩] [] [fSl k_TAct A0_0 c0_0 u0.Acts, fSl k_TAct A1_0 c1_0 u1.Acts] W) (fun a W hJ => ?_) ?_
    ·
     obtain ⟨x14, rfl, hF, hS⟩ := hJ
     have h := hk16
     refine then_n ?_
     refine wp_if hF rfl (fun he17 => ?_) (fun he17 => ?_)
     ·
      replace h := ifT he17 h
      refine wp_seq ?_
      obtain ⟨o19, h, hk20⟩ := bindS h
      refine wp_join (fun a W => ∃ (x18 : Bool), x18 = o19 ∧ FH 36 [(4, .bool (x18))] a ∧ St M w0 [] [] [] W) (fun a W hJ => ?_) ?_
      ·
       obtain ⟨x18, rfl, hF, hS⟩ := hJ
       have h := hk20
       refine then_n ?_
       refine wp_ret ?_
       refine blk_r ?_
       refine then_r ?_
       obtain rfl := Option.some.inj h
       exact ret1 hF rfl (rv_tmp hF rfl) ⟨_, rfl, rfl, hS⟩
      ·
       refine wp_drawn (QC M w0 [⟨b2, TRule.enc u1 A1_0 c1_0, 65⟩, ⟨b1, TMod.enc u0 A0_0 c0_0, 40⟩] [] [fSl k_TAct A0_0 c0_0 u0.Acts, fSl k_TAct A1_0 c1_0 u1.Acts]) (fun _ => false) rfl hS (fun W hB0 hR0 => ?_)
       have hS := hR0
       have hQC : (QC M w0 [⟨b2, TRule.enc u1 A1_0 c1_0, 65⟩, ⟨b1, TMod.enc u0 A0_0 c0_0, 40⟩] [] [fSl k_TAct A0_0 c0_0 u0.Acts, fSl k_TAct A1_0 c1_0 u1.Acts]) W W := ⟨Bl.refl _ _, hS⟩
       refine e_val (listed' := #[true, false, false, false, false, false, false, false, false, false, false, false]) 0 rfl (by kernel_rfl) (by kernel_rfl) (fun _ _ _ h => h) (fun W => (v_fieldAddr hF rfl pf65_5)) hF (by decide) (fun a hF => ?_)
       refine e_valS (listed' := #[true, true, false, false, false, false, false, false, false, false, false, false]) 1 rfl (by kernel_rfl) (by kernel_rfl) (fun _ _ _ h => h) (fun W hC => (v_load1 hF rfl pa3 (cells_sub (vs := [.int .i64 (u1.Owner)]) (hC.2.bc (i := 0) rfl) rfl rfl))) hQC (by kernel_rfl) hF (by decide) (fun a hF => ?_)
       refine e_val (listed' := #[true, true, true, false, false, false, false, false, false, false, false, false]) 2 rfl (by kernel_rfl) (by kernel_rfl) (fun _ _ _ h => h) (fun W => (v_fieldAddr hF rfl pf40_6)) hF (by decide) (fun a hF => ?_)
       refine e_valS (listed' := #[true, true, true, true, false, false, false, false, false, false, false, false]) 3 rfl (by kernel_rfl) (by kernel_rfl) (fun _ _ _ h => h) (fun W hC => (v_load1 hF rfl pa3 (cells_sub (vs := [.int .i64 (u0.Owner)]) (hC.2.bc (i := 1) rfl) rfl rfl))) hQC (by kernel_rfl) hF (by decide) (fun a hF => ?_)
       refine e_val (listed' := #[true, true, true, true, true, false, false, false, false, false, false, false]) 4 rfl (by kernel_rfl) (by kernel_rfl) (fun _ _ _ h => h) (fun W => (v_eql hF rfl rfl)) hF (by decide) (fun a hF => ?_)
       refine e_val (listed' := #[true, true, true, true, true, true, false, false, false, false, false, false]) 5 rfl (by kernel_rfl) (by kernel_rfl) (fun _ _ _ h => h) (fun W => (v_move hF rfl)) hF (by decide) (fun a hF => ?_)
       by_cases he21 : (u1.Owner == u0.Owner) = true
       ·
        replace h := ifT he21 h
        refine e_valGS (listed' := #[true, true, true, true, true, true, true, false, false, false, false, false]) 6 rfl (by kernel_rfl) (by kernel_rfl) (fun _ _ _ h => h) rfl rfl he21 (fun W hC => (v_load (cs := TRule.enc u1 A1_0 c1_0) hF rfl pa65 ps65 (hC.2.bc (i := 0) rfl))) hQC (by kernel_rfl) hF (by decide) (fun a hF => ?_)
        refine e_valGS (listed' := #[true, true, true, true, true, true, true, true, false, false, false, false]) 7 rfl (by kernel_rfl) (by kernel_rfl) (fun _ _ _ h => h) rfl rfl he21 (fun W hC => (v_load (cs := TMod.enc u0 A0_0 c0_0) hF rfl pa40 ps40 (hC.2.bc (i := 1) rfl))) hQC (by kernel_rfl) hF (by decide) (fun a hF => ?_)
        refine e_one (listed' := #[true, true, true, true, true, true, true, true, true, false, false, false]) 8 rfl (by kernel_rfl) (by kernel_rfl) ?_
        refine sq_yes hF rfl rfl he21 ?_
        obtain ⟨x22, hx23, h⟩ := bindS h
        refine sq_call hF pc119 rfl (by decide) (ok_mods_Rule (hS.enter ⟨⟨0, rfl⟩, trivial⟩) hx23) (fun v W hR a hF => ?_)
        obtain ⟨A24, c25, rfl, hT26⟩ := hR
        have hS := hS.join hT26
        refine sq_nil (then_j ⟨?_, ?_⟩)
        · exact fun hQ0 _ => hQ0.next hT26.below
        ·
         have hQC := hQC.next hT26.below
         refine e_one (listed' := #[true, true, true, true, true, true, true, true, true, true, false, false]) 9 rfl (by kernel_rfl) (by kernel_rfl) ?_
         refine sq_yes hF rfl rfl he21 ?_
         obtain ⟨x27, hx28, h⟩ := bindS h
         refine sq_call hF pc122 rfl (by decide) (ok_rule_Key (hS.enter ⟨⟨2, rfl⟩, ⟨0, rfl⟩, trivial⟩) hx28) (fun v W hR a hF => ?_)
         obtain ⟨rfl, hT29⟩ := hR
         have hS := hS.grow hT29.below
         refine sq_nil (then_j ⟨?_, ?_⟩)
         · exact fun hQ0 _ => hQ0.next hT29.below
         ·
          have hQC := hQC.next hT29.below
          refine e_val (listed' := #[true, true, true, true, true, true, true, true, true, true, true, false]) 10 rfl (by kernel_rfl) (by kernel_rfl) (fun _ _ _ h => h) (fun W => (v_pick_t hF rfl he21 rfl)) hF (by decide) (fun a hF => ?_)
          refine e_val (listed' := #[true, true, true, true, true, true, true, true, true, true, true, true]) 11 rfl (by kernel_rfl) (by kernel_rfl) (fun _ _ _ h => h) (fun W => (v_assign hF rfl)) hF (by decide) (fun a hF => ?_)
          refine e_done (by kernel_rfl) ?_ _
          obtain rfl := Option.some.inj h
          exact then_j ⟨x27, rfl, (hF.keep ⟨rfl, trivial⟩), (hS.keep (List.nil_sublist _) (List.Sublist.refl _) trivial)⟩
       ·
        have he21 : (u1.Owner == u0.Owner) = false := nB he21
        replace h := ifF he21 h
        refine e_no (listed' := #[true, true, true, true, true, true, true, false, false, false, false, false]) 6 rfl (by kernel_rfl) (by kernel_rfl) (fun _ _ _ h => h) rfl rfl he21 hF (by decide) (fun a hF => ?_)
        refine e_no (listed' := #[true, true, true, true, true, true, true, true, false, false, false, false]) 7 rfl (by kernel_rfl) (by kernel_rfl) (fun _ _ _ h => h) rfl rfl he21 hF (by decide) (fun a hF => ?_)
        refine e_no (listed' := #[true, true, true, true, true, true, true, true, true, false, false, false]) 8 rfl (by kernel_rfl) (by kernel_rfl) (fun _ _ _ h => h) rfl rfl he21 hF (by decide) (fun a hF => ?_)
        refine e_no (listed' := #[true, true, true, true, true, true, true, true, true, true, false, false]) 9 rfl (by kernel_rfl) (by kernel_rfl) (fun _ _ _ h => h) rfl rfl he21 hF (by decide) (fun a hF => ?_)
        refine e_val (listed' := #[true, true, true, true, true, true, true, true, true, true, true, false]) 10 rfl (by kernel_rfl) (by kernel_rfl) (fun _ _ _ h => h) (fun W => (v_pick_f hF rfl he21 rfl)) hF (by decide) (fun a hF => ?_)
        refine e_val (listed' := #[true, true, true, true, true, true, true, true, true, true, true, true]) 11 rfl (by kernel_rfl) (by kernel_rfl) (fun _ _ _ h => h) (fun W => (v_assign hF rfl)) hF (by decide) (fun a hF => ?_)
        refine e_done (by kernel_rfl) ?_ _
        obtain rfl := Option.some.inj h
        exact then_j ⟨false, rfl, (hF.keep ⟨rfl, trivial⟩), (hS.keep (List.nil_sublist _) (List.Sublist.refl _) trivial)⟩
     ·
      replace h := ifF he17 h
      refine wp_skip ?_
      refine blk_n ?_
      refine then_n ?_
      refine wp_seq ?_
      refine wp_reg ?_
      refine sq_val (v_assign hF rfl) hF (by decide) (fun a hF => ?_)
      refine sq_nil ?_
      refine then_n ?_
      refine wp_ret ?_
      obtain rfl := Option.some.inj h
      exact ret1 hF rfl (rv_tmp hF rfl) ⟨_, rfl, rfl, (hS.keep (List.nil_sublist _) (List.Sublist.refl _) trivial)⟩
    ·
     refine wp_if hF rfl (fun he30 => ?_) (fun he30 => ?_)
     ·
      replace h := ifT he30 h
      refine wp_skip ?_
      obtain rfl := Option.some.inj h
      exact then_j ⟨(u0.Kind == 4), rfl, (hF.keep ⟨rfl, rfl, rfl, trivial⟩), hS⟩
     ·
      replace h := ifF he30 h
      refine wp_reg ?_
      refine sq_val (v_eql hF rfl rfl) hF (by decide) (fun a hF => ?_)
      refine sq_val (v_assign hF rfl) hF (by decide) (fun a hF => ?_)
      refine sq_nil ?_
      obtain rfl := Option.some.inj h
      exact then_j ⟨(u0.Kind == 5), rfl, (hF.keep ⟨rfl, rfl, rfl, trivial⟩), hS⟩
  ·
   refine wp_if hF rfl (fun he31 => ?_) (fun he31 => ?_)
   ·
    replace h := ifT he31 h
    refine wp_skip ?_
    obtain rfl := Option.some.inj h
    exact then_j ⟨(u0.Kind == 2), rfl, (hF.keep ⟨rfl, rfl, rfl, rfl, trivial⟩), hS⟩
   ·
    replace h := ifF he31 h
    refine wp_reg ?_
    refine sq_val (v_eql hF rfl rfl) hF (by decide) (fun a hF => ?_)
    refine sq_val (v_assign hF rfl) hF (by decide) (fun a hF => ?_)
    refine sq_nil ?_
    obtain rfl := Option.some.inj h
    exact then_j ⟨(u0.Kind == 3), rfl, (hF.keep ⟨rfl, rfl, rfl, rfl, trivial⟩), hS⟩
end Go.Proofs.Ytangebngeeamoaa
