/- What calls of the Go functions come to. -/
import Derived.Test.YtangebngeeamoaaW1
set_option linter.unusedVariables false
set_option linter.unusedSimpArgs false
set_option maxRecDepth 100000
set_option maxHeartbeats 4000000
namespace Go.Proofs.Ytangebngeeamoaa
open Go.RowKit Go.Pod
theorem ok_slices_IndexFunc_Region (k : Nat) {M : Nat → Prop} {w0 : World} {u0 : List TRegion} {A0_0 : Option Addr} {c0_0 : Nat} {F1 : FuncId} {caps1 : List Value} {u1 : TRegion → Option Bool} {o : Int} (hS : St M w0 [] [] [fSl k_TRegion A0_0 c0_0 u0, fFn1 Try.prog F1 caps1 k_TRegion true u1 (fun y => .bool y)] w0) (h : slices_IndexFunc_Region k u0 u1 = some o) :
    Calls Try.prog 140 #[.slice A0_0 ((u0).length) c0_0, .func (.func F1) #[] caps1.toArray] w0 fun e W' => ∃ v, e = .returned v ∧ (v = .int .i64 (o) ∧ St M w0 [] [] [] W') := by
  unfold slices_IndexFunc_Region at h
  refine calls_start (args := [.slice A0_0 ((u0).length) c0_0, .func (.func F1) #[] caps1.toArray]) Try.func140 rfl rfl (Nat.le_of_ble_eq_true rfl) (fun a hF => ?_)
  refine wp_seq ?_
  refine wp_reg ?_
  refine sq_val (v_assign hF rfl) hF (by decide) (fun a hF => ?_)
  refine sq_nil ?_
  refine then_n ?_
  refine wp_seq ?_
  refine wp_seq ?_
  refine wp_reg ?_
  refine sq_val (v_move hF rfl) hF (by decide) (fun a hF => ?_)
  refine sq_val (v_len hF rfl pu57) hF (by decide) (fun a hF => ?_)
  refine sq_val (v_move hF rfl) hF (by decide) (fun a hF => ?_)
  refine sq_nil ?_
  refine then_n ?_
  obtain ⟨o3, h, hk4⟩ := bindS h
  refine wp_join (fun a W => Lo.brk () = o3 ∧ FH 19 [] a ∧ St M w0 [] [] [] W) (fun a W hJ => ?_) ?_
  ·
   obtain ⟨rfl, hF, hS⟩ := hJ
   have h := hk4
   dsimp only at h
   refine then_n ?_
   refine wp_seq ?_
   refine wp_reg ?_
   refine sq_val (v_assign hF rfl) hF (by decide) (fun a hF => ?_)
   refine sq_nil ?_
   refine then_n ?_
   refine wp_ret ?_
   obtain rfl := Option.some.inj h
   exact ret1 hF rfl (rv_tmp hF rfl) ⟨_, rfl, rfl, hS⟩
  ·
   refine wp_block ?_
   refine wp_loop_fuel (I := fun m a W => ∃ (x2 : Int), FH 19 [(0, .slice A0_0 ((u0).length) c0_0), (1, .func (.func F1) #[] caps1.toArray), (7, .int .i64 ((u0.length : Int))), (8, .int .i64 (x2))] a ∧ St M w0 [] [] [fSl k_TRegion A0_0 c0_0 u0, fFn1 Try.prog F1 caps1 k_TRegion true u1 (fun y => .bool y)] W ∧ (slices_IndexFunc_Region.l0 k u0 u1 m x2) = some o3) ?_ (k := k) ⟨0, (hF.keep ⟨rfl, rfl, rfl, rfl, trivial⟩), hS, h⟩
   rintro m5 a W ⟨x2, hF, hS, h⟩
   cases m5 with
   | zero => cases h
   | succ m5 =>
    rw [slices_IndexFunc_Region.l0] at h
    refine wp_seq ?_
    refine wp_reg ?_
    refine sq_val (v_lss hF rfl rfl) hF (by decide) (fun a hF => ?_)
    refine sq_nil ?_
    refine then_n ?_
    refine wp_seq ?_
    refine wp_if hF rfl (fun he6 => ?_) (fun he6 => ?_)
    ·
     replace h := ifT he6 h
     refine wp_skip ?_
     refine then_n ?_
     refine wp_seq ?_
     refine wp_block ?_
     refine wp_seq ?_
     refine wp_reg ?_
     refine sq_val (v_move hF rfl) hF (by decide) (fun a hF => ?_)
     refine sq_val (v_assign hF rfl) hF (by decide) (fun a hF => ?_)
     refine sq_nil ?_
     refine then_n ?_
     refine wp_seq ?_
     refine wp_reg ?_
     refine sq_val (v_move hF rfl) hF (by decide) (fun a hF => ?_)
     refine sq_val (v_move hF rfl) hF (by decide) (fun a hF => ?_)
     refine sq_val (v_move hF rfl) hF (by decide) (fun a hF => ?_)
     obtain ⟨x7, hx8, h⟩ := bindS h
     obtain ⟨p9, cs10, hA11, hat12⟩ := SlR.at (hS.fc (i := 0) rfl) hx8
     obtain rfl : cs10 = TRegion.enc x7 := hat12.2.2.2
     have hS := hS.addFact (f := fAt k_TRegion (p9.add (x2.toNat * 25)) (TRegion.enc x7) x7) hat12
     refine sq_val (v_idx hF rfl hA11 rfl psl57 hx8) hF (by decide) (fun a hF => ?_)
     refine sq_val (v_load (cs := TRegion.enc x7) hF rfl pa63 ps63 (hS.pc (i := 0) rfl)) hF (by decide) (fun a hF => ?_)
     obtain ⟨x13, hx14, h⟩ := bindS h
     refine sq_callv hF (hS.fc (i := 2) rfl).1 rfl rfl (by decide) (call1 (hS.fc (i := 2) rfl) hS rfl hx14) (fun v W hR a hF => ?_)
     obtain ⟨rfl, hT15⟩ := hR
     have hS := hS.grow hT15
     refine sq_nil ?_
     refine then_n ?_
     refine wp_if hF rfl (fun he16 => ?_) (fun he16 => ?_)
     ·
      replace h := ifT he16 h
      refine wp_seq ?_
      refine wp_reg ?_
      refine sq_val (v_move hF rfl) hF (by decide) (fun a hF => ?_)
      refine sq_val (v_assign hF rfl) hF (by decide) (fun a hF => ?_)
      refine sq_nil ?_
      refine then_n ?_
      refine wp_ret ?_
      refine blk_r ?_
      refine then_r ?_
      refine then_r ?_
      refine blk_r ?_
      refine then_r ?_
      refine then_r ?_
      obtain rfl := Option.some.inj h
      have h := hk4
      dsimp only at h
      obtain rfl := Option.some.inj h
      exact ret1 hF rfl (rv_tmp hF rfl) ⟨_, rfl, rfl, (hS.keep (List.Sublist.refl _) (List.Sublist.refl _) trivial)⟩
     ·
      replace h := ifF he16 h
      refine wp_skip ?_
      refine blk_n ?_
      refine then_n ?_
      refine wp_reg ?_
      refine sq_val (v_add hF rfl rfl) hF (by decide) (fun a hF => ?_)
      refine sq_val (v_move hF rfl) hF (by decide) (fun a hF => ?_)
      refine sq_nil ?_
      exact then_j ⟨m5, Nat.lt_succ_self _, (IntKind.i64.wrap (x2 + 1)), (hF.keep ⟨rfl, rfl, rfl, rfl, trivial⟩), (hS.keep (List.Sublist.refl _) (List.Sublist.refl _) ⟨⟨1, rfl⟩, ⟨2, rfl⟩, trivial⟩), h⟩
    ·
     replace h := ifF he6 h
     refine wp_exit ?_
     refine then_x ?_
     refine then_x ?_
     refine blk_hit ?_
     obtain rfl := Option.some.inj h
     exact then_j ⟨rfl, (hF.keep trivial), (hS.keep (List.Sublist.refl _) (List.Sublist.refl _) trivial)⟩

theorem ok_slices_ContainsFunc_Region (k : Nat) {M : Nat → Prop} {w0 : World} {u0 : List TRegion} {A0_0 : Option Addr} {c0_0 : Nat} {F1 : FuncId} {caps1 : List Value} {u1 : TRegion → Option Bool} {o : Bool} (hS : St M w0 [] [] [fSl k_TRegion A0_0 c0_0 u0, fFn1 Try.prog F1 caps1 k_TRegion true u1 (fun y => .bool y)] w0) (h : slices_ContainsFunc_Region k u0 u1 = some o) :
    Calls Try.prog 90 #[.slice A0_0 ((u0).length) c0_0, .func (.func F1) #[] caps1.toArray] w0 fun e W' => ∃ v, e = .returned v ∧ (v = .bool (o) ∧ St M w0 [] [] [] W') := by
  unfold slices_ContainsFunc_Region at h
  refine calls_start (args := [.slice A0_0 ((u0).length) c0_0, .func (.func F1) #[] caps1.toArray]) Try.func90 rfl rfl (Nat.le_of_ble_eq_true rfl) (fun a hF => ?_)
  refine wp_seq ?_
  refine wp_reg ?_
  refine sq_val (v_assign hF rfl) hF (by decide) (fun a hF => ?_)
  refine sq_nil ?_
  refine then_n ?_
  refine wp_seq ?_
  refine wp_reg ?_
  refine sq_val (v_move hF rfl) hF (by decide) (fun a hF => ?_)
  refine sq_val (v_move hF rfl) hF (by decide) (fun a hF => ?_)
  obtain ⟨x1, hx2, h⟩ := bindS h
  refine sq_call hF pc140 rfl (by decide) (ok_slices_IndexFunc_Region k (hS.enter ⟨⟨0, rfl⟩, ⟨1, rfl⟩, trivial⟩) hx2) (fun v W hR a hF => ?_)
  obtain ⟨rfl, hT3⟩ := hR
  have hS := hS.grow hT3.below
  refine sq_val (v_geq hF rfl rfl) hF (by decide) (fun a hF => ?_)
  refine sq_val (v_assign hF rfl) hF (by decide) (fun a hF => ?_)
  refine sq_nil ?_
  refine then_n ?_
  refine wp_ret ?_
  obtain rfl := Option.some.inj h
  exact ret1 hF rfl (rv_tmp hF rfl) ⟨_, rfl, rfl, (hS.keep (List.Sublist.refl _) (List.Sublist.refl _) trivial)⟩

theorem ok_region_Of (k : Nat) {M : Nat → Prop} {w0 : World} {u0 : List TChange} {A0_0 : Option Addr} {c0_0 : Nat} {o : (List TRegion)} (hS : St M w0 [] [] [fSl k_TChange A0_0 c0_0 u0] w0) (h : region_Of k u0 = some o) :
    Calls Try.prog 34 #[.slice A0_0 ((u0).length) c0_0] w0 fun e W' => ∃ v, e = .returned v ∧ (∃ (A96 : Option Addr) (c97 : Nat), v = .slice A96 ((o).length) c97 ∧ St M w0 [] [⟨k_TRegion, 63, A96, c97, o⟩] [] W') := by
  unfold region_Of at h
  refine calls_start (args := [.slice A0_0 ((u0).length) c0_0]) Try.func34 rfl rfl (Nat.le_of_ble_eq_true rfl) (fun a hF => ?_)
  refine wp_seq ?_
  refine wp_reg ?_
  refine sq_val (v_assign hF rfl) hF (by decide) (fun a hF => ?_)
  refine sq_nil ?_
  refine then_n ?_
  refine wp_seq ?_
  refine wp_reg ?_
  refine sq_val (v_assign hF rfl) hF (by decide) (fun a hF => ?_)
  refine sq_nil ?_
  refine then_n ?_
  refine wp_seq ?_
  refine wp_seq ?_
  refine wp_reg ?_
  refine sq_val (v_move hF rfl) hF (by decide) (fun a hF => ?_)
  refine sq_val (v_len hF rfl pu56) hF (by decide) (fun a hF => ?_)
  refine sq_val (v_move hF rfl) hF (by decide) (fun a hF => ?_)
  refine sq_nil ?_
  refine then_n ?_
  obtain ⟨o12, h, hk13⟩ := bindS h
  refine wp_join (fun a W => ∃ (x9 : List TRegion) (A10 : Option Addr) (c11 : Nat), x9 = o12 ∧ FH 51 [(3, .slice A10 ((x9).length) c11)] a ∧ St M w0 [] [⟨k_TRegion, 63, A10, c11, x9⟩] [] W) (fun a W hJ => ?_) ?_
  ·
   obtain ⟨x9, A10, c11, rfl, hF, hS⟩ := hJ
   have h := hk13
   refine then_n ?_
   refine wp_seq ?_
   refine wp_reg ?_
   refine sq_val (v_move hF rfl) hF (by decide) (fun a hF => ?_)
   have hS := hS.addFact (f := fFn2 Try.prog 87 ([]) k_TRegion true k_TRegion true (fun (a0 : TRegion) (a1 : TRegion) => region_compare k a0 a1) (fun y => .int .i64 y)) ⟨pc87, fun M' W' hs hv cs a0 cs2 a1 y hR hR2 hp => by obtain rfl := hR; obtain rfl := hR2; exact fromSt (ok_region_compare k (St.ofAll hv trivial) hp)⟩
   have hS := hS.addFact (f := fFn2 Try.prog 87 ([]) k_TRegion true k_TRegion true (fun (a0 : TRegion) (a1 : TRegion) => region_compare k a0 a1) (fun y => .int .i64 y)) (hS.fc (i := 0) rfl)
   obtain ⟨x14, hx15, h⟩ := bindS h
   refine sq_call hF pc86 rfl (by decide) (ok_slices_SortFunc_Region hS hx15) (fun v W hR a hF => ?_)
   obtain ⟨rfl, hS⟩ := hR
   have hF : FH 51 [(3, .slice A10 ((x14).length) c11), (30, .slice A10 ((x14).length) c11), (31, .tuple #[])] a := (hF.keep ⟨(by simp only [len_slices_SortFunc_Region hx15] <;> rfl), (by simp only [len_slices_SortFunc_Region hx15] <;> rfl), rfl, trivial⟩)
   refine sq_nil ?_
   refine then_n ?_
   refine wp_seq ?_
   refine wp_reg ?_
   refine sq_val (v_move hF rfl) hF (by decide) (fun a hF => ?_)
   obtain ⟨x16, hx17, h⟩ := bindS h
   refine sq_call hF pc88 rfl (by decide) (ok_slices_Compact_Region k hS hx17) (fun v W hR a hF => ?_)
   obtain ⟨A18, c19, rfl, hS⟩ := hR
   refine sq_val (v_assign hF rfl) hF (by decide) (fun a hF => ?_)
   refine sq_nil ?_
   refine then_n ?_
   refine wp_seq ?_
   refine wp_reg ?_
   refine sq_val (v_assign hF rfl) hF (by decide) (fun a hF => ?_)
   refine sq_nil ?_
   refine then_n ?_
   refine wp_seq ?_
   refine wp_seq ?_
   refine wp_reg ?_
   refine sq_val (v_move hF rfl) hF (by decide) (fun a hF => ?_)
   refine sq_val (v_len hF rfl pu57) hF (by decide) (fun a hF => ?_)
   refine sq_val (v_move hF rfl) hF (by decide) (fun a hF => ?_)
   refine sq_nil ?_
   refine then_n ?_
   obtain ⟨o31, h, hk32⟩ := bindS h
   refine wp_join (fun a W => ∃ (x28 : List TRegion) (A29 : Option Addr) (c30 : Nat), x28 = o31 ∧ FH 51 [(6, .slice A29 ((x28).length) c30)] a ∧ St M w0 [] [⟨k_TRegion, 63, A29, c30, x28⟩] [] W) (fun a W hJ => ?_) ?_
   ·
    obtain ⟨x28, A29, c30, rfl, hF, hS⟩ := hJ
    have h := hk32
    refine then_n ?_
    refine wp_seq ?_
    refine wp_reg ?_
    refine sq_val (v_move hF rfl) hF (by decide) (fun a hF => ?_)
    refine sq_val (v_assign hF rfl) hF (by decide) (fun a hF => ?_)
    refine sq_nil ?_
    refine then_n ?_
    refine wp_ret ?_
    obtain rfl := Option.some.inj h
    exact ret1 hF rfl (rv_tmp hF rfl) ⟨_, rfl, A29, c30, rfl, hS⟩
   ·
    have hS := hS.addNil k_TRegion 63
    refine wp_block ?_
    refine wp_loop_fuel (I := fun m a W => ∃ (x24 : List TRegion) (x27 : Int) (A25 : Option Addr) (c26 : Nat), FH 51 [(3, .slice A18 ((x16).length) c19), (6, .slice A25 ((x24).length) c26), (34, .slice A18 ((x16).length) c19), (35, .int .i64 ((x16.length : Int))), (36, .int .i64 (x27))] a ∧ St M w0 [] [⟨k_TRegion, 63, A25, c26, x24⟩, ⟨k_TRegion, 63, A18, c19, x16⟩] [] W ∧ (region_Of.l1 k x16 m x24 x27) = some o31) ?_ (k := k) ⟨([]), 0, none, 0, (hF.keep ⟨rfl, rfl, rfl, rfl, rfl, trivial⟩), (hS.keep (List.Sublist.refl _) (List.Sublist.refl _) trivial), h⟩
    rintro m33 a W ⟨x24, x27, A25, c26, hF, hS, h⟩
    cases m33 with
    | zero => cases h
    | succ m33 =>
     rw [region_Of.l1] at h
     refine wp_seq ?_
     refine wp_reg ?_
     refine sq_val (v_lss hF rfl rfl) hF (by decide) (fun a hF => ?_)
     refine sq_nil ?_
     refine then_n ?_
     refine wp_seq ?_
     refine wp_if hF rfl (fun he34 => ?_) (fun he34 => ?_)
     ·
      replace h := ifT he34 h
      refine wp_skip ?_
      refine then_n ?_
      refine wp_seq ?_
      obtain ⟨o38, h, hk39⟩ := bindS h
      refine wp_join (fun a W => ∃ (x35 : List TRegion) (A36 : Option Addr) (c37 : Nat), x35 = o38 ∧ FH 51 [(3, .slice A18 ((x16).length) c19), (6, .slice A36 ((x35).length) c37), (34, .slice A18 ((x16).length) c19), (35, .int .i64 ((x16.length : Int))), (36, .int .i64 (x27))] a ∧ St M w0 [] [⟨k_TRegion, 63, A36, c37, x35⟩, ⟨k_TRegion, 63, A18, c19, x16⟩] [] W) (fun a W hJ => ?_) ?_
      ·
       obtain ⟨x35, A36, c37, rfl, hF, hS⟩ := hJ
       have h := hk39
       refine then_n ?_
       refine wp_reg ?_
       refine sq_val (v_add hF rfl rfl) hF (by decide) (fun a hF => ?_)
       refine sq_val (v_move hF rfl) hF (by decide) (fun a hF => ?_)
       refine sq_nil ?_
       exact then_j ⟨m33, Nat.lt_succ_self _, x35, (IntKind.i64.wrap (x27 + 1)), A36, c37, (hF.keep ⟨rfl, rfl, rfl, rfl, rfl, trivial⟩), hS, h⟩
      ·
       refine wp_block ?_
       refine wp_seq ?_
       refine wp_reg ?_
       obtain ⟨x40, hx41, h⟩ := bindS h
       obtain ⟨p42, cs43, hA44, hc46, hr47⟩ := Row.ok.at (hS.rw_ (i := 1) rfl) hx41
       obtain rfl : cs43 = TRegion.enc x40 := hr47
       refine sq_val (v_idx hF rfl hA44 rfl psl57 hx41) hF (by decide) (fun a hF => ?_)
       refine sq_val (v_load (cs := TRegion.enc x40) hF rfl pa63 ps63 hc46) hF (by decide) (fun a hF => ?_)
       refine sq_alloc hF hS pz63 rfl (by decide) (fun b48 a W hF hS => ?_)
       refine sq_store (o := 0) (vs := TRegion.enc x40) (cs' := TRegion.enc x40) hF hS rfl rfl (i := 0) rfl rfl rfl ps63 (TRegion.enc_one _) (Nat.le_of_ble_eq_true rfl) rfl (fun W hS => ?_)
       refine sq_nil ?_
       refine then_n ?_
       refine wp_seq ?_
       refine wp_reg ?_
       have hS := hS.freezeBox (i := 0) rfl
       have hS := hS.addFact (f := fFn1 Try.prog 89 ([.pointer (some (⟨b48, 0, none⟩))]) k_TRegion true (fun (a0 : TRegion) => region_Of_1 k a0 x40) (fun y => .bool y)) ⟨pc89, fun M' W' hs hv cs a0 y hR hp => by obtain rfl := hR; exact fromSt (ok_region_Of_1 k (St.ofAll hv ⟨((fBox b48 (TRegion.enc x40) 63).st (hS.fc (i := 0) rfl) hs), trivial⟩) hp)⟩
       refine sq_val (v_makeFunc (xs := [.tmp 8]) (vs := [.pointer (some (⟨b48, 0, none⟩))]) hF rfl) hF (by decide) (fun a hF => ?_)
       refine sq_val (v_assign hF rfl) hF (by decide) (fun a hF => ?_)
       refine sq_nil ?_
       refine then_n ?_
       refine wp_seq ?_
       refine wp_reg ?_
       refine sq_val (v_move hF rfl) hF (by decide) (fun a hF => ?_)
       refine sq_val (v_move hF rfl) hF (by decide) (fun a hF => ?_)
       obtain ⟨x49, hx50, h⟩ := bindS h
       refine sq_call hF pc90 rfl (by decide) (ok_slices_ContainsFunc_Region k ((hS.freeze (i := 1) rfl (posB rfl)).enter ⟨⟨0, rfl⟩, ⟨1, rfl⟩, trivial⟩) hx50) (fun v W hR a hF => ?_)
       obtain ⟨rfl, hT51⟩ := hR
       have hS := hS.grow hT51.below
       refine sq_val (v_not hF rfl) hF (by decide) (fun a hF => ?_)
       refine sq_nil ?_
       refine then_n ?_
       obtain ⟨o55, h, hk56⟩ := bindS h
       refine wp_join (fun a W => ∃ (x52 : List TRegion) (A53 : Option Addr) (c54 : Nat), x52 = o55 ∧ FH 51 [(3, .slice A18 ((x16).length) c19), (6, .slice A53 ((x52).length) c54), (34, .slice A18 ((x16).length) c19), (35, .int .i64 ((x16.length : Int))), (36, .int .i64 (x27))] a ∧ St M w0 [] [⟨k_TRegion, 63, A53, c54, x52⟩, ⟨k_TRegion, 63, A18, c19, x16⟩] [] W) (fun a W hJ => ?_) ?_
       ·
        obtain ⟨x52, A53, c54, rfl, hF, hS⟩ := hJ
        have h := hk56
        refine blk_n ?_
        obtain rfl := Option.some.inj h
        exact then_j ⟨x52, A53, c54, rfl, (hF.keep ⟨rfl, rfl, rfl, rfl, rfl, trivial⟩), hS⟩
       ·
        refine wp_if hF rfl (fun he57 => ?_) (fun he57 => ?_)
        ·
         replace h := ifT he57 h
         refine wp_reg ?_
         refine sq_val (v_move hF rfl) hF (by decide) (fun a hF => ?_)
         refine sq_val (v_load (cs := TRegion.enc x40) hF rfl pa63 ps63 (hS.fbc (i := 1) rfl)) hF (by decide) (fun a hF => ?_)
         refine sq_buildSlice (κ := k_TRegion) (xs := [.tmp 46]) (ys := [x40]) hF hS rfl rfl rfl (Els.cons rfl (Els.nil _ _ _)) rfl psl57 pz63 rfl (by decide) (by decide) (by decide) (fun A58 c59 a W hF hS => ?_)
         obtain ⟨x62, hx63, h⟩ := bindS h
         refine sq_append (ys := ([x40])) hF hS (i := 1) rfl rfl rfl (hS.rw_ (i := 0) rfl).src psl57 pb63 pz63 rfl (by decide) (by decide) hx63 (by decide) (fun A60 c61 a W hF hS => ?_)
         refine sq_val (v_assign hF rfl) hF (by decide) (fun a hF => ?_)
         refine sq_nil ?_
         obtain rfl := Option.some.inj h
         exact then_j ⟨x62, A60, c61, rfl, (hF.keep ⟨rfl, rfl, rfl, rfl, rfl, trivial⟩), (hS.keep (List.Sublist.refl _) (.cons _ (List.Sublist.refl _)) trivial)⟩
        ·
         replace h := ifF he57 h
         refine wp_skip ?_
         obtain rfl := Option.some.inj h
         exact then_j ⟨x24, A25, c26, rfl, (hF.keep ⟨rfl, rfl, rfl, rfl, rfl, trivial⟩), (hS.keep (List.Sublist.refl _) (List.Sublist.refl _) trivial)⟩
     ·
      replace h := ifF he34 h
      refine wp_exit ?_
      refine then_x ?_
      refine then_x ?_
      refine blk_hit ?_
      obtain rfl := Option.some.inj h
      exact then_j ⟨x24, A25, c26, rfl, (hF.keep ⟨rfl, trivial⟩), (hS.keep (List.Sublist.refl _) (.cons_cons _ (List.nil_sublist _)) trivial)⟩
  ·
   have hS := hS.addNil k_TRegion 63
   refine wp_block ?_
   refine wp_loop_fuel (I := fun m a W => ∃ (x5 : List TRegion) (x8 : Int) (A6 : Option Addr) (c7 : Nat), FH 51 [(3, .slice A6 ((x5).length) c7), (10, .slice A0_0 ((u0).length) c0_0), (11, .int .i64 ((u0.length : Int))), (12, .int .i64 (x8))] a ∧ St M w0 [] [⟨k_TRegion, 63, A6, c7, x5⟩] [fSl k_TChange A0_0 c0_0 u0] W ∧ (region_Of.l0 k u0 m x5 x8) = some o12) ?_ (k := k) ⟨([]), 0, none, 0, (hF.keep ⟨rfl, rfl, rfl, rfl, trivial⟩), hS, h⟩
   rintro m64 a W ⟨x5, x8, A6, c7, hF, hS, h⟩
   cases m64 with
   | zero => cases h
   | succ m64 =>
    rw [region_Of.l0] at h
    refine wp_seq ?_
    refine wp_reg ?_
    refine sq_val (v_lss hF rfl rfl) hF (by decide) (fun a hF => ?_)
    refine sq_nil ?_
    refine then_n ?_
    refine wp_seq ?_
    refine wp_if hF rfl (fun he65 => ?_) (fun he65 => ?_)
    ·
     replace h := ifT he65 h
     refine wp_skip ?_
     refine then_n ?_
     refine wp_seq ?_
     obtain ⟨o69, h, hk70⟩ := bindS h
     refine wp_join (fun a W => ∃ (x66 : List TRegion) (A67 : Option Addr) (c68 : Nat), x66 = o69 ∧ FH 51 [(3, .slice A67 ((x66).length) c68), (10, .slice A0_0 ((u0).length) c0_0), (11, .int .i64 ((u0.length : Int))), (12, .int .i64 (x8))] a ∧ St M w0 [] [⟨k_TRegion, 63, A67, c68, x66⟩] [fSl k_TChange A0_0 c0_0 u0] W) (fun a W hJ => ?_) ?_
     ·
      obtain ⟨x66, A67, c68, rfl, hF, hS⟩ := hJ
      have h := hk70
      refine then_n ?_
      refine wp_reg ?_
      refine sq_val (v_add hF rfl rfl) hF (by decide) (fun a hF => ?_)
      refine sq_val (v_move hF rfl) hF (by decide) (fun a hF => ?_)
      refine sq_nil ?_
      exact then_j ⟨m64, Nat.lt_succ_self _, x66, (IntKind.i64.wrap (x8 + 1)), A67, c68, (hF.keep ⟨rfl, rfl, rfl, rfl, trivial⟩), hS, h⟩
     ·
      refine wp_block ?_
      refine wp_seq ?_
      refine wp_reg ?_
      obtain ⟨x71, hx72, h⟩ := bindS h
      obtain ⟨p73, cs74, hA75, hat76⟩ := SlR.at (hS.fc (i := 0) rfl) hx72
      obtain ⟨A77, c78, rfl, hs79⟩ := hat76.2.2.2
      have hS := hS.addFact (f := fAt k_TChange (p73.add (x8.toNat * 32)) (TChange.enc x71 A77 c78) x71) hat76
      have hS := hS.addFact (f := fSl k_TAct A77 c78 x71.Mod.Acts) hs79
      refine sq_val (v_idx hF rfl hA75 rfl psl56 hx72) hF (by decide) (fun a hF => ?_)
      refine sq_val (v_load (cs := TChange.enc x71 A77 c78) hF rfl pa60 ps60 (hS.pc (i := 1) rfl)) hF (by decide) (fun a hF => ?_)
      refine sq_alloc hF hS pz60 rfl (by decide) (fun b80 a W hF hS => ?_)
      refine sq_store (o := 0) (vs := TChange.enc x71 A77 c78) (cs' := TChange.enc x71 A77 c78) hF hS rfl rfl (i := 0) rfl rfl rfl ps60 (TChange.enc_one _ _ _) (Nat.le_of_ble_eq_true rfl) rfl (fun W hS => ?_)
      refine sq_nil ?_
      refine then_n ?_
      refine wp_seq ?_
      refine wp_reg ?_
      refine sq_val (v_fieldAddr hF rfl pf60_1) hF (by decide) (fun a hF => ?_)
      refine sq_val (v_fieldAddr hF rfl pf40_1) hF (by decide) (fun a hF => ?_)
      refine sq_val (v_load (cs := TCube.enc x71.Mod.Match) hF rfl pa26 ps26 (cells_sub (vs := TCube.enc x71.Mod.Match) (hS.bc (i := 0) rfl) (add_add _ _ _) rfl)) hF (by decide) (fun a hF => ?_)
      obtain ⟨x81, hx82, h⟩ := bindS h
      refine sq_call hF pc58 rfl (by decide) (ok_cube_Sound k (hS.enter trivial) hx82) (fun v W hR a hF => ?_)
      obtain ⟨rfl, hT83⟩ := hR
      have hS := hS.grow hT83.below
      refine sq_nil ?_
      refine then_n ?_
      obtain ⟨o87, h, hk88⟩ := bindS h
      refine wp_join (fun a W => ∃ (x84 : List TRegion) (A85 : Option Addr) (c86 : Nat), x84 = o87 ∧ FH 51 [(3, .slice A85 ((x84).length) c86), (10, .slice A0_0 ((u0).length) c0_0), (11, .int .i64 ((u0.length : Int))), (12, .int .i64 (x8))] a ∧ St M w0 [] [⟨k_TRegion, 63, A85, c86, x84⟩] [fSl k_TChange A0_0 c0_0 u0] W) (fun a W hJ => ?_) ?_
      ·
       obtain ⟨x84, A85, c86, rfl, hF, hS⟩ := hJ
       have h := hk88
       refine blk_n ?_
       obtain rfl := Option.some.inj h
       exact then_j ⟨x84, A85, c86, rfl, (hF.keep ⟨rfl, rfl, rfl, rfl, trivial⟩), hS⟩
      ·
       refine wp_if hF rfl (fun he89 => ?_) (fun he89 => ?_)
       ·
        replace h := ifT he89 h
        refine wp_reg ?_
        refine sq_val (v_move hF rfl) hF (by decide) (fun a hF => ?_)
        refine sq_val (v_fieldAddr hF rfl pf60_0) hF (by decide) (fun a hF => ?_)
        refine sq_val (v_load1 hF rfl pa3 (cells_sub (vs := [.int .i64 (x71.Unit)]) (hS.bc (i := 0) rfl) rfl rfl)) hF (by decide) (fun a hF => ?_)
        refine sq_val (v_fieldAddr hF rfl pf60_1) hF (by decide) (fun a hF => ?_)
        refine sq_val (v_fieldAddr hF rfl pf40_1) hF (by decide) (fun a hF => ?_)
        refine sq_val (v_load (cs := TCube.enc x71.Mod.Match) hF rfl pa26 ps26 (cells_sub (vs := TCube.enc x71.Mod.Match) (hS.bc (i := 0) rfl) (add_add _ _ _) rfl)) hF (by decide) (fun a hF => ?_)
        refine sq_val (v_build (parts := [(0, .tmp 22), (1, .tmp 25)]) (out := TRegion.enc ({ Unit := x71.Unit, Cube := x71.Mod.Match } : TRegion)) hF rfl rfl pz63 rfl pp63 rfl) hF (by decide) (fun a hF => ?_)
        refine sq_buildSlice (κ := k_TRegion) (xs := [.tmp 26]) (ys := [({ Unit := x71.Unit, Cube := x71.Mod.Match } : TRegion)]) hF hS rfl rfl rfl (Els.cons rfl (Els.nil _ _ _)) rfl psl57 pz63 rfl (by decide) (by decide) (by decide) (fun A90 c91 a W hF hS => ?_)
        obtain ⟨x94, hx95, h⟩ := bindS h
        refine sq_append (ys := ([({ Unit := x71.Unit, Cube := x71.Mod.Match } : TRegion)])) hF hS (i := 1) rfl rfl rfl (hS.rw_ (i := 0) rfl).src psl57 pb63 pz63 rfl (by decide) (by decide) hx95 (by decide) (fun A92 c93 a W hF hS => ?_)
        refine sq_val (v_assign hF rfl) hF (by decide) (fun a hF => ?_)
        refine sq_nil ?_
        obtain rfl := Option.some.inj h
        exact then_j ⟨x94, A92, c93, rfl, (hF.keep ⟨rfl, rfl, rfl, rfl, trivial⟩), (hS.keep (List.nil_sublist _) (.cons _ (List.Sublist.refl _)) ⟨⟨2, rfl⟩, trivial⟩)⟩
       ·
        replace h := ifF he89 h
        refine wp_skip ?_
        obtain rfl := Option.some.inj h
        exact then_j ⟨x5, A6, c7, rfl, (hF.keep ⟨rfl, rfl, rfl, rfl, trivial⟩), (hS.keep (List.nil_sublist _) (List.Sublist.refl _) ⟨⟨2, rfl⟩, trivial⟩)⟩
    ·
     replace h := ifF he65 h
     refine wp_exit ?_
     refine then_x ?_
     refine then_x ?_
     refine blk_hit ?_
     obtain rfl := Option.some.inj h
     exact then_j ⟨x5, A6, c7, rfl, (hF.keep ⟨rfl, trivial⟩), (hS.keep (List.Sublist.refl _) (List.Sublist.refl _) trivial)⟩

theorem ok_region_Touch_1_1 (k : Nat) {M : Nat → Prop} {w0 : World} {u0 : TRegion} {y0 : TRegion} {b0_ : Nat} {o : Bool} (hS : St M w0 [] [] [fBox b0_ (TRegion.enc y0) 63] w0) (h : region_Touch_1_1 k u0 y0 = some o) :
    Calls Try.prog 135 #[.agg (TRegion.enc u0).toArray, .pointer (some (⟨b0_, 0, none⟩))] w0 fun e W' => ∃ v, e = .returned v ∧ (v = .bool (o) ∧ St M w0 [] [] [] W') := by
  unfold region_Touch_1_1 at h
  refine calls_start (args := [.agg (TRegion.enc u0).toArray, .pointer (some (⟨b0_, 0, none⟩))]) Try.func135 rfl rfl (Nat.le_of_ble_eq_true rfl) (fun a hF => ?_)
  refine wp_seq ?_
  refine wp_reg ?_
  refine sq_box hF hS rfl rfl (by decide) (fun b1 a W hF hS => ?_)
  refine sq_val (v_assign hF rfl) hF (by decide) (fun a hF => ?_)
  refine sq_nil ?_
  refine then_n ?_
  refine wp_seq ?_
  refine wp_reg ?_
  refine sq_val (v_fieldAddr hF rfl pf63_1) hF (by decide) (fun a hF => ?_)
  refine sq_val (v_load (cs := TCube.enc y0.Cube) hF rfl pa26 ps26 (cells_sub (vs := TCube.enc y0.Cube) (hS.fbc (i := 0) rfl) rfl rfl)) hF (by decide) (fun a hF => ?_)
  refine sq_val (v_fieldAddr hF rfl pf63_1) hF (by decide) (fun a hF => ?_)
  refine sq_val (v_load (cs := TCube.enc u0.Cube) hF rfl pa26 ps26 (cells_sub (vs := TCube.enc u0.Cube) (hS.bc (i := 0) rfl) rfl rfl)) hF (by decide) (fun a hF => ?_)
  obtain ⟨x2, hx3, h⟩ := bindS h
  refine sq_call hF pc12 rfl (by decide) (ok_cube_Meet k (hS.enter trivial) hx3) (fun v W hR a hF => ?_)
  obtain ⟨rfl, hT4⟩ := hR
  have hS := hS.grow hT4.below
  refine sq_val (v_move hF rfl) hF (by decide) (fun a hF => ?_)
  refine sq_val (v_extract hF rfl rfl) hF (by decide) (fun a hF => ?_)
  refine sq_val (v_extract hF rfl rfl) hF (by decide) (fun a hF => ?_)
  refine sq_alloc hF hS pz26 rfl (by decide) (fun b5 a W hF hS => ?_)
  refine sq_store (o := 0) (vs := TCube.enc x2.1) (cs' := TCube.enc x2.1) hF hS rfl rfl (i := 0) rfl rfl rfl ps26 (TCube.enc_one _) (Nat.le_of_ble_eq_true rfl) rfl (fun W hS => ?_)
  refine sq_val (v_assign hF rfl) hF (by decide) (fun a hF => ?_)
  refine sq_nil ?_
  refine then_n ?_
  refine wp_seq ?_
  refine wp_reg ?_
  refine sq_val (v_move hF rfl) hF (by decide) (fun a hF => ?_)
  refine sq_val (v_move hF rfl) hF (by decide) (fun a hF => ?_)
  refine sq_cut 6 (fun a W => FH 22 [(21, .bool (x2.2 && (y0.Unit == u0.Unit)))] a ∧ St M w0 [⟨b5, TCube.enc x2.1, 26⟩, ⟨b1, TRegion.enc u0, 63⟩] [] [fBox b0_ (TRegion.enc y0) 63] W) (fun a W hJ => ?_) ?_
  ·
   obtain ⟨hF, hS⟩ := hJ
   refine sq_val (v_assign hF rfl) hF (by decide) (fun a hF => ?_)
   refine sq_nil ?_
   refine then_n ?_
   refine wp_ret ?_
   obtain rfl := Option.some.inj h
   exact ret1 hF rfl (rv_tmp hF rfl) ⟨_, rfl, rfl, (hS.keep (List.nil_sublist _) (List.Sublist.refl _) trivial)⟩
  ·
   by_cases he6 : x2.2 = true
   ·
    refine sq_yes hF rfl rfl he6 ?_
    refine sq_val (v_fieldAddr hF rfl pf63_0) hF (by decide) (fun a hF => ?_)
    refine sq_yes hF rfl rfl he6 ?_
    refine sq_val (v_load1 hF rfl pa3 (cells_sub (vs := [.int .i64 (y0.Unit)]) (hS.fbc (i := 0) rfl) rfl rfl)) hF (by decide) (fun a hF => ?_)
    refine sq_yes hF rfl rfl he6 ?_
    refine sq_val (v_fieldAddr hF rfl pf63_0) hF (by decide) (fun a hF => ?_)
    refine sq_yes hF rfl rfl he6 ?_
    refine sq_val (v_load1 hF rfl pa3 (cells_sub (vs := [.int .i64 (u0.Unit)]) (hS.bc (i := 1) rfl) rfl rfl)) hF (by decide) (fun a hF => ?_)
    refine sq_yes hF rfl rfl he6 ?_
    refine sq_val (v_eql hF rfl rfl) hF (by decide) (fun a hF => ?_)
    refine sq_val (v_pick_t hF rfl he6 rfl) hF (by decide) (fun a hF => ?_)
    exact sq_nil (then_j ⟨(hF.keep ⟨(boolV (and_t he6)), trivial⟩), hS⟩)
   ·
    have he6 : x2.2 = false := nB he6
    refine sq_no hF rfl rfl he6 (by rintro x ⟨⟩; decide) (fun a hF => ?_)
    refine sq_no hF rfl rfl he6 (by rintro x ⟨⟩; decide) (fun a hF => ?_)
    refine sq_no hF rfl rfl he6 (by rintro x ⟨⟩; decide) (fun a hF => ?_)
    refine sq_no hF rfl rfl he6 (by rintro x ⟨⟩; decide) (fun a hF => ?_)
    refine sq_no hF rfl rfl he6 (by rintro x ⟨⟩; decide) (fun a hF => ?_)
    refine sq_val (v_pick_f hF rfl he6 rfl) hF (by decide) (fun a hF => ?_)
    exact sq_nil (then_j ⟨(hF.keep ⟨(boolV (and_f he6)), trivial⟩), hS⟩)

theorem ok_region_Touch_1 (k : Nat) {M : Nat → Prop} {w0 : World} {u0 : TRegion} {y0 : List TRegion} {b0_ : Nat} {B0_0 : Option Addr} {d0_0 : Nat} {o : Bool} (hS : St M w0 [] [] [fSl k_TRegion B0_0 d0_0 y0, fBox b0_ ([.slice B0_0 ((y0).length) d0_0]) 57] w0) (h : region_Touch_1 k u0 y0 = some o) :
    Calls Try.prog 134 #[.agg (TRegion.enc u0).toArray, .pointer (some (⟨b0_, 0, none⟩))] w0 fun e W' => ∃ v, e = .returned v ∧ (v = .bool (o) ∧ St M w0 [] [] [] W') := by
  unfold region_Touch_1 at h
  refine calls_start (args := [.agg (TRegion.enc u0).toArray, .pointer (some (⟨b0_, 0, none⟩))]) Try.func134 rfl rfl (Nat.le_of_ble_eq_true rfl) (fun a hF => ?_)
  refine wp_seq ?_
  refine wp_reg ?_
  refine sq_box hF hS rfl rfl (by decide) (fun b1 a W hF hS => ?_)
  refine sq_val (v_assign hF rfl) hF (by decide) (fun a hF => ?_)
  refine sq_nil ?_
  refine then_n ?_
  refine wp_seq ?_
  refine wp_reg ?_
  refine sq_val (v_load1 hF rfl pa57 (hS.fbc (i := 1) rfl)) hF (by decide) (fun a hF => ?_)
  have hS := hS.freezeBox (i := 0) rfl
  have hS := hS.addFact (f := fFn1 Try.prog 135 ([.pointer (some (⟨b1, 0, none⟩))]) k_TRegion true (fun (a0 : TRegion) => region_Touch_1_1 k a0 u0) (fun y => .bool y)) ⟨pc135, fun M' W' hs hv cs a0 y hR hp => by obtain rfl := hR; exact fromSt (ok_region_Touch_1_1 k (St.ofAll hv ⟨((fBox b1 (TRegion.enc u0) 63).st (hS.fc (i := 0) rfl) hs), trivial⟩) hp)⟩
  refine sq_val (v_makeFunc (xs := [.tmp 2]) (vs := [.pointer (some (⟨b1, 0, none⟩))]) hF rfl) hF (by decide) (fun a hF => ?_)
  obtain ⟨x2, hx3, h⟩ := bindS h
  refine sq_call hF pc90 rfl (by decide) (ok_slices_ContainsFunc_Region k (hS.enter ⟨⟨2, rfl⟩, ⟨0, rfl⟩, trivial⟩) hx3) (fun v W hR a hF => ?_)
  obtain ⟨rfl, hT4⟩ := hR
  have hS := hS.grow hT4.below
  refine sq_val (v_assign hF rfl) hF (by decide) (fun a hF => ?_)
  refine sq_nil ?_
  refine then_n ?_
  refine wp_ret ?_
  obtain rfl := Option.some.inj h
  exact ret1 hF rfl (rv_tmp hF rfl) ⟨_, rfl, rfl, (hS.keep (List.Sublist.refl _) (List.Sublist.refl _) trivial)⟩

theorem ok_region_Touch (k : Nat) {M : Nat → Prop} {w0 : World} {u0 : List TRegion} {A0_0 : Option Addr} {c0_0 : Nat} {u1 : List TRegion} {A1_0 : Option Addr} {c1_0 : Nat} {o : Bool} (hS : St M w0 [] [] [fSl k_TRegion A0_0 c0_0 u0, fSl k_TRegion A1_0 c1_0 u1] w0) (h : region_Touch k u0 u1 = some o) :
    Calls Try.prog 85 #[.slice A0_0 ((u0).length) c0_0, .slice A1_0 ((u1).length) c1_0] w0 fun e W' => ∃ v, e = .returned v ∧ (v = .bool (o) ∧ St M w0 [] [] [] W') := by
  unfold region_Touch at h
  refine calls_start (args := [.slice A0_0 ((u0).length) c0_0, .slice A1_0 ((u1).length) c1_0]) Try.func85 rfl rfl (Nat.le_of_ble_eq_true rfl) (fun a hF => ?_)
  refine wp_seq ?_
  refine wp_reg ?_
  refine sq_box hF hS rfl rfl (by decide) (fun b1 a W hF hS => ?_)
  refine sq_val (v_assign hF rfl) hF (by decide) (fun a hF => ?_)
  refine sq_nil ?_
  refine then_n ?_
  refine wp_seq ?_
  refine wp_reg ?_
  refine sq_val (v_move hF rfl) hF (by decide) (fun a hF => ?_)
  have hS := hS.freezeBox (i := 0) rfl
  have hS := hS.addFact (f := fFn1 Try.prog 134 ([.pointer (some (⟨b1, 0, none⟩))]) k_TRegion true (fun (a0 : TRegion) => region_Touch_1 k a0 u1) (fun y => .bool y)) ⟨pc134, fun M' W' hs hv cs a0 y hR hp => by obtain rfl := hR; exact fromSt (ok_region_Touch_1 k (St.ofAll hv ⟨((fSl k_TRegion A1_0 c1_0 u1).st (hS.fc (i := 2) rfl) hs), ((fBox b1 ([.slice A1_0 ((u1).length) c1_0]) 57).st (hS.fc (i := 0) rfl) hs), trivial⟩) hp)⟩
  refine sq_val (v_makeFunc (xs := [.tmp 3]) (vs := [.pointer (some (⟨b1, 0, none⟩))]) hF rfl) hF (by decide) (fun a hF => ?_)
  obtain ⟨x2, hx3, h⟩ := bindS h
  refine sq_call hF pc90 rfl (by decide) (ok_slices_ContainsFunc_Region k (hS.enter ⟨⟨2, rfl⟩, ⟨0, rfl⟩, trivial⟩) hx3) (fun v W hR a hF => ?_)
  obtain ⟨rfl, hT4⟩ := hR
  have hS := hS.grow hT4.below
  refine sq_val (v_assign hF rfl) hF (by decide) (fun a hF => ?_)
  refine sq_nil ?_
  refine then_n ?_
  refine wp_ret ?_
  obtain rfl := Option.some.inj h
  exact ret1 hF rfl (rv_tmp hF rfl) ⟨_, rfl, rfl, (hS.keep (List.Sublist.refl _) (List.Sublist.refl _) trivial)⟩

theorem ok_law19_answers (k : Nat) {M : Nat → Prop} {w0 : World}  {o : Bool} (hS : St M w0 [] [] [] w0) (h : law19_answers k = some o) :
    Calls Try.prog 33 #[] w0 fun e W' => ∃ v, e = .returned v ∧ (v = .bool (o) ∧ St M w0 [] [] [] W') := by
  unfold law19_answers at h
  refine calls_start (args := []) Try.func33 rfl rfl (Nat.le_of_ble_eq_true rfl) (fun a hF => ?_)
  refine wp_seq ?_
  refine wp_reg ?_
  refine sq_val (v_assign hF rfl) hF (by decide) (fun a hF => ?_)
  refine sq_nil ?_
  refine then_n ?_
  refine wp_seq ?_
  refine wp_reg ?_
  refine sq_val (v_build (parts := [(0, .const (.int .i64 2))]) (out := TChange.enc ({ Unit := 2, Mod := TMod.zero } : TChange) none 0) hF rfl rfl pz60 rfl pp60 rfl) hF (by decide) (fun a hF => ?_)
  refine sq_val (v_build (parts := [(0, .const (.int .i64 1))]) (out := TChange.enc ({ Unit := 1, Mod := TMod.zero } : TChange) none 0) hF rfl rfl pz60 rfl pp60 rfl) hF (by decide) (fun a hF => ?_)
  refine sq_val (v_build (parts := [(0, .const (.int .i64 2))]) (out := TChange.enc ({ Unit := 2, Mod := TMod.zero } : TChange) none 0) hF rfl rfl pz60 rfl pp60 rfl) hF (by decide) (fun a hF => ?_)
  have hS := hS.addFact (f := fSl k_TAct none 0 []) (SlR.nil _ _ _)
  have hS := hS.addFact (f := fSl k_TAct none 0 []) (SlR.nil _ _ _)
  have hS := hS.addFact (f := fSl k_TAct none 0 []) (SlR.nil _ _ _)
  refine sq_buildSlice (κ := k_TChange) (xs := [.tmp 2, .tmp 3, .tmp 4]) (ys := [({ Unit := 2, Mod := TMod.zero } : TChange), ({ Unit := 1, Mod := TMod.zero } : TChange), ({ Unit := 2, Mod := TMod.zero } : TChange)]) hF hS rfl rfl rfl (Els.cons ⟨none, 0, rfl, (hS.fc (i := 2) rfl)⟩ (Els.cons ⟨none, 0, rfl, (hS.fc (i := 1) rfl)⟩ (Els.cons ⟨none, 0, rfl, (hS.fc (i := 0) rfl)⟩ (Els.nil _ _ _)))) rfl psl56 pz60 rfl (by decide) (by decide) (by decide) (fun A1 c2 a W hF hS => ?_)
  have hS := hS.freeze (i := 0) rfl (posB rfl)
  obtain ⟨x3, hx4, h⟩ := bindS h
  refine sq_call hF pc34 rfl (by decide) (ok_region_Of k (hS.enter ⟨⟨0, rfl⟩, trivial⟩) hx4) (fun v W hR a hF => ?_)
  obtain ⟨A5, c6, rfl, hT7⟩ := hR
  have hS := hS.join hT7
  refine sq_val (v_assign hF rfl) hF (by decide) (fun a hF => ?_)
  refine sq_nil ?_
  refine then_n ?_
  refine wp_seq ?_
  refine wp_reg ?_
  refine sq_val (v_move hF rfl) hF (by decide) (fun a hF => ?_)
  refine sq_val (v_len hF rfl pu57) hF (by decide) (fun a hF => ?_)
  refine sq_val (v_eql hF rfl rfl) hF (by decide) (fun a hF => ?_)
  refine sq_val (v_move hF rfl) hF (by decide) (fun a hF => ?_)
  obtain ⟨x9, h, hk11⟩ := bindS h
  refine sq_cut 6 (fun a W => FH 22 [(1, .slice A5 ((x3).length) c6), (16, .bool x9)] a ∧ St M w0 [] [⟨k_TRegion, 63, A5, c6, x3⟩] [fSl k_TChange A1 c2 ([({ Unit := 2, Mod := TMod.zero } : TChange), ({ Unit := 1, Mod := TMod.zero } : TChange), ({ Unit := 2, Mod := TMod.zero } : TChange)]), fSl k_TAct none 0 [], fSl k_TAct none 0 [], fSl k_TAct none 0 []] W) (fun a W hJ => ?_) ?_
  ·
   have h := hk11
   obtain ⟨hF, hS⟩ := hJ
   refine sq_val (v_move hF rfl) hF (by decide) (fun a hF => ?_)
   obtain ⟨x21, h, hk23⟩ := bindS h
   refine sq_cut 4 (fun a W => FH 22 [(21, .bool x21)] a ∧ St M w0 [] [⟨k_TRegion, 63, A5, c6, x3⟩] [fSl k_TChange A1 c2 ([({ Unit := 2, Mod := TMod.zero } : TChange), ({ Unit := 1, Mod := TMod.zero } : TChange), ({ Unit := 2, Mod := TMod.zero } : TChange)]), fSl k_TAct none 0 [], fSl k_TAct none 0 [], fSl k_TAct none 0 []] W) (fun a W hJ => ?_) ?_
   ·
    have h := hk23
    obtain ⟨hF, hS⟩ := hJ
    refine sq_val (v_assign hF rfl) hF (by decide) (fun a hF => ?_)
    refine sq_nil ?_
    refine then_n ?_
    refine wp_ret ?_
    obtain rfl := Option.some.inj h
    exact ret1 hF rfl (rv_tmp hF rfl) ⟨_, rfl, rfl, (hS.keep (List.Sublist.refl _) (List.nil_sublist _) trivial)⟩
   ·
    by_cases he20 : x9 = true
    ·
     replace h := ifT he20 h
     refine sq_yes hF rfl rfl he20 ?_
     refine sq_val (v_move hF rfl) hF (by decide) (fun a hF => ?_)
     refine sq_yes hF rfl rfl he20 ?_
     refine sq_val (v_move hF rfl) hF (by decide) (fun a hF => ?_)
     refine sq_yes hF rfl rfl he20 ?_
     obtain ⟨x24, hx25, h⟩ := bindS h
     refine sq_call hF pc85 rfl (by decide) (ok_region_Touch k ((hS.freeze (i := 0) rfl (posB rfl)).enter ⟨⟨0, rfl⟩, ⟨0, rfl⟩, trivial⟩) hx25) (fun v W hR a hF => ?_)
     obtain ⟨rfl, hT26⟩ := hR
     have hS := hS.grow hT26.below
     refine sq_val (v_pick_t hF rfl he20 rfl) hF (by decide) (fun a hF => ?_)
     obtain rfl := Option.some.inj h
     exact sq_nil (then_j ⟨(hF.keep ⟨rfl, trivial⟩), hS⟩)
    ·
     have he20 : x9 = false := nB he20
     replace h := ifF he20 h
     refine sq_no hF rfl rfl he20 (by rintro x ⟨⟩; decide) (fun a hF => ?_)
     refine sq_no hF rfl rfl he20 (by rintro x ⟨⟩; decide) (fun a hF => ?_)
     refine sq_no hF rfl rfl he20 (by rintro x ⟨⟩; decide) (fun a hF => ?_)
     refine sq_val (v_pick_f hF rfl he20 rfl) hF (by decide) (fun a hF => ?_)
     obtain rfl := Option.some.inj h
     exact sq_nil (then_j ⟨(hF.keep ⟨rfl, trivial⟩), hS⟩)
  ·
   by_cases he8 : ((x3.length : Int) == 2) = true
   ·
    replace h := ifT he8 h
    refine sq_yes hF rfl rfl he8 ?_
    refine sq_val (v_move hF rfl) hF (by decide) (fun a hF => ?_)
    refine sq_yes hF rfl rfl he8 ?_
    obtain ⟨x12, hx13, h⟩ := bindS h
    obtain ⟨p14, cs15, hA16, hc18, hr19⟩ := Row.ok.at (hS.rw_ (i := 0) rfl) hx13
    obtain rfl : cs15 = TRegion.enc x12 := hr19
    refine sq_val (v_idx hF rfl hA16 rfl psl57 hx13) hF (by decide) (fun a hF => ?_)
    refine sq_yes hF rfl rfl he8 ?_
    refine sq_val (v_fieldAddr hF rfl pf63_0) hF (by decide) (fun a hF => ?_)
    refine sq_yes hF rfl rfl he8 ?_
    refine sq_val (v_load1 hF rfl pa3 (cells_sub (vs := [.int .i64 (x12.Unit)]) hc18 rfl rfl)) hF (by decide) (fun a hF => ?_)
    refine sq_yes hF rfl rfl he8 ?_
    refine sq_val (v_eql hF rfl rfl) hF (by decide) (fun a hF => ?_)
    refine sq_val (v_pick_t hF rfl he8 rfl) hF (by decide) (fun a hF => ?_)
    obtain rfl := Option.some.inj h
    exact sq_nil (then_j ⟨(hF.keep ⟨rfl, rfl, trivial⟩), hS⟩)
   ·
    have he8 : ((x3.length : Int) == 2) = false := nB he8
    replace h := ifF he8 h
    refine sq_no hF rfl rfl he8 (by rintro x ⟨⟩; decide) (fun a hF => ?_)
    refine sq_no hF rfl rfl he8 (by rintro x ⟨⟩; decide) (fun a hF => ?_)
    refine sq_no hF rfl rfl he8 (by rintro x ⟨⟩; decide) (fun a hF => ?_)
    refine sq_no hF rfl rfl he8 (by rintro x ⟨⟩; decide) (fun a hF => ?_)
    refine sq_no hF rfl rfl he8 (by rintro x ⟨⟩; decide) (fun a hF => ?_)
    refine sq_val (v_pick_f hF rfl he8 rfl) hF (by decide) (fun a hF => ?_)
    obtain rfl := Option.some.inj h
    exact sq_nil (then_j ⟨(hF.keep ⟨rfl, rfl, trivial⟩), hS⟩)

theorem ok_ref01_Size {M : Nat → Prop} {w0 : World} {u0 : Int} {o : Int} (hS : St M w0 [] [] [] w0) (h : ref01_Size u0 = some o) :
    Calls Try.prog 110 #[.int .i64 (u0)] w0 fun e W' => ∃ v, e = .returned v ∧ (v = .int .i64 (o) ∧ St M w0 [] [] [] W') := by
  unfold ref01_Size at h
  refine calls_start (args := [.int .i64 (u0)]) Try.func110 rfl rfl (Nat.le_of_ble_eq_true rfl) (fun a hF => ?_)
  refine wp_seq ?_
  refine wp_reg ?_
  refine sq_val (v_assign hF rfl) hF (by decide) (fun a hF => ?_)
  refine sq_nil ?_
  refine then_n ?_
  refine wp_seq ?_
  refine wp_seq ?_
  refine wp_reg ?_
  refine sq_val (v_move hF rfl) hF (by decide) (fun a hF => ?_)
  refine sq_val (v_lss hF rfl rfl) hF (by decide) (fun a hF => ?_)
  refine sq_val (v_move hF rfl) hF (by decide) (fun a hF => ?_)
  refine sq_cut 3 (fun a W => FH 13 [(0, .int .i64 (u0)), (8, .bool ((decide (u0 < 0)) || (decide (11 < u0))))] a ∧ St M w0 [] [] [] W) (fun a W hJ => ?_) ?_
  ·
   obtain ⟨hF, hS⟩ := hJ
   refine sq_nil ?_
   refine then_n ?_
   refine wp_if hF rfl (fun he2 => ?_) (fun he2 => ?_)
   ·
    replace h := ifT he2 h
    refine wp_seq ?_
    refine wp_reg ?_
    refine sq_val (v_assign hF rfl) hF (by decide) (fun a hF => ?_)
    refine sq_nil ?_
    refine then_n ?_
    refine wp_ret ?_
    refine then_r ?_
    obtain rfl := Option.some.inj h
    exact ret1 hF rfl (rv_tmp hF rfl) ⟨_, rfl, rfl, hS⟩
   ·
    replace h := ifF he2 h
    refine wp_skip ?_
    refine then_n ?_
    refine wp_seq ?_
    refine wp_reg ?_
    refine sq_buildSlice (κ := (kInt .i64)) (xs := [.const (.int .i64 16), .const (.int .i64 48), .const (.int .i64 48), .const (.int .i64 16), .const (.int .i64 12), .const (.int .i64 4), .const (.int .i64 32), .const (.int .i64 32), .const (.int .i64 8), .const (.int .i64 8), .const (.int .i64 12), .const (.int .i64 12)]) (ys := [16, 48, 48, 16, 12, 4, 32, 32, 8, 8, 12, 12]) hF hS rfl rfl rfl (Els.cons rfl (Els.cons rfl (Els.cons rfl (Els.cons rfl (Els.cons rfl (Els.cons rfl (Els.cons rfl (Els.cons rfl (Els.cons rfl (Els.cons rfl (Els.cons rfl (Els.cons rfl (Els.nil _ _ _))))))))))))) rfl psl76 pz3 rfl (by decide) (by decide) (by decide) (fun A3 c4 a W hF hS => ?_)
    refine sq_val (v_move hF rfl) hF (by decide) (fun a hF => ?_)
    obtain ⟨x5, hx6, h⟩ := bindS h
    obtain ⟨p7, cs8, hA9, hc11, hr12⟩ := Row.ok.at (hS.rw_ (i := 0) rfl) hx6
    obtain rfl : cs8 = [.int .i64 (x5)] := hr12
    refine sq_val (v_idx hF rfl hA9 rfl psl76 hx6) hF (by decide) (fun a hF => ?_)
    refine sq_val (v_load1 hF rfl pa3 hc11) hF (by decide) (fun a hF => ?_)
    refine sq_val (v_assign hF rfl) hF (by decide) (fun a hF => ?_)
    refine sq_nil ?_
    refine then_n ?_
    refine wp_ret ?_
    obtain rfl := Option.some.inj h
    exact ret1 hF rfl (rv_tmp hF rfl) ⟨_, rfl, rfl, (hS.keep (List.Sublist.refl _) (List.nil_sublist _) trivial)⟩
  ·
   by_cases he1 : (decide (u0 < 0)) = true
   ·
    refine sq_no hF rfl rfl he1 (by rintro x ⟨⟩; decide) (fun a hF => ?_)
    refine sq_no hF rfl rfl he1 (by rintro x ⟨⟩; decide) (fun a hF => ?_)
    refine sq_val (v_pick_t hF rfl he1 rfl) hF (by decide) (fun a hF => ?_)
    exact sq_nil (then_j ⟨(hF.keep ⟨rfl, (boolV (or_t he1)), trivial⟩), hS⟩)
   ·
    have he1 : (decide (u0 < 0)) = false := nB he1
    refine sq_yes hF rfl rfl he1 ?_
    refine sq_val (v_move hF rfl) hF (by decide) (fun a hF => ?_)
    refine sq_yes hF rfl rfl he1 ?_
    refine sq_val (v_gtr hF rfl rfl) hF (by decide) (fun a hF => ?_)
    refine sq_val (v_pick_f hF rfl he1 rfl) hF (by decide) (fun a hF => ?_)
    exact sq_nil (then_j ⟨(hF.keep ⟨rfl, (boolV (or_f he1)), trivial⟩), hS⟩)

theorem ok_ref01_Fits {M : Nat → Prop} {w0 : World} {u0 : Int} {u1 : Int} {o : Bool} (hS : St M w0 [] [] [] w0) (h : ref01_Fits u0 u1 = some o) :
    Calls Try.prog 114 #[.int .u64 (u0), .int .i64 (u1)] w0 fun e W' => ∃ v, e = .returned v ∧ (v = .bool (o) ∧ St M w0 [] [] [] W') := by
  unfold ref01_Fits at h
  refine calls_start (args := [.int .u64 (u0), .int .i64 (u1)]) Try.func114 rfl rfl (Nat.le_of_ble_eq_true rfl) (fun a hF => ?_)
  refine wp_seq ?_
  refine wp_reg ?_
  refine sq_val (v_assign hF rfl) hF (by decide) (fun a hF => ?_)
  refine sq_nil ?_
  refine then_n ?_
  refine wp_seq ?_
  refine wp_reg ?_
  refine sq_val (v_move hF rfl) hF (by decide) (fun a hF => ?_)
  refine sq_val (v_move hF rfl) hF (by decide) (fun a hF => ?_)
  refine sq_val (v_convI hF rfl pu3 pu137) hF (by decide) (fun a hF => ?_)
  obtain ⟨hb1, h⟩ := ifS h
  refine sq_val (v_shl hF rfl rfl hb1) hF (by decide) (fun a hF => ?_)
  refine sq_val (v_lss hF rfl rfl) hF (by decide) (fun a hF => ?_)
  refine sq_val (v_assign hF rfl) hF (by decide) (fun a hF => ?_)
  refine sq_nil ?_
  refine then_n ?_
  refine wp_ret ?_
  obtain rfl := Option.some.inj h
  exact ret1 hF rfl (rv_tmp hF rfl) ⟨_, rfl, rfl, hS⟩

theorem ok_ref01_Head (k : Nat) {M : Nat → Prop} {w0 : World} {u0 : Arr 12} {o : Bool} (hS : St M w0 [] [] [] w0) (h : ref01_Head k u0 = some o) :
    Calls Try.prog 61 #[.agg (A12u64.enc u0).toArray] w0 fun e W' => ∃ v, e = .returned v ∧ (v = .bool (o) ∧ St M w0 [] [] [] W') := by
  unfold ref01_Head at h
  refine calls_start (args := [.agg (A12u64.enc u0).toArray]) Try.func61 rfl rfl (Nat.le_of_ble_eq_true rfl) (fun a hF => ?_)
  refine wp_seq ?_
  refine wp_reg ?_
  refine sq_box hF hS rfl rfl (by decide) (fun b1 a W hF hS => ?_)
  refine sq_val (v_assign hF rfl) hF (by decide) (fun a hF => ?_)
  refine sq_nil ?_
  refine then_n ?_
  refine wp_seq ?_
  refine wp_seq ?_
  refine wp_reg ?_
  refine sq_val (v_assign hF rfl) hF (by decide) (fun a hF => ?_)
  refine sq_nil ?_
  refine then_n ?_
  obtain ⟨o4, h, hk5⟩ := bindS h
  refine wp_join (fun a W => Lo.brk () = o4 ∧ FH 15 [] a ∧ St M w0 [] [] [] W) (fun a W hJ => ?_) ?_
  ·
   obtain ⟨rfl, hF, hS⟩ := hJ
   have h := hk5
   dsimp only at h
   refine then_n ?_
   refine wp_seq ?_
   refine wp_reg ?_
   refine sq_val (v_assign hF rfl) hF (by decide) (fun a hF => ?_)
   refine sq_nil ?_
   refine then_n ?_
   refine wp_ret ?_
   obtain rfl := Option.some.inj h
   exact ret1 hF rfl (rv_tmp hF rfl) ⟨_, rfl, rfl, hS⟩
  ·
   refine wp_block ?_
   refine wp_loop_fuel (I := fun m a W => ∃ (x3 : Int), FH 15 [(1, .pointer (some (⟨b1, 0, none⟩))), (3, .int .i64 (x3))] a ∧ St M w0 [⟨b1, A12u64.enc u0, 24⟩] [] [] W ∧ (ref01_Head.l0 k u0 m x3) = some o4) ?_ (k := k) ⟨0, (hF.keep ⟨rfl, rfl, trivial⟩), hS, h⟩
   rintro m6 a W ⟨x3, hF, hS, h⟩
   cases m6 with
   | zero => cases h
   | succ m6 =>
    rw [ref01_Head.l0] at h
    refine wp_seq ?_
    refine wp_seq ?_
    refine wp_reg ?_
    refine sq_val (v_move hF rfl) hF (by decide) (fun a hF => ?_)
    refine sq_val (v_lss hF rfl rfl) hF (by decide) (fun a hF => ?_)
    refine sq_nil ?_
    refine then_n ?_
    refine wp_if hF rfl (fun he7 => ?_) (fun he7 => ?_)
    ·
     replace h := ifT he7 h
     refine wp_skip ?_
     refine then_n ?_
     refine wp_seq ?_
     refine wp_block ?_
     refine wp_seq ?_
     refine wp_quiet rfl (by kernel_rfl) hS ?_
     refine qt_val (fun W hC => (v_move hF rfl)) hF (by decide) (fun a hF => ?_)
     obtain ⟨hb8, h⟩ := ifS h
     refine qt_val (fun W hC => (v_indexAddr hF rfl rfl par24 hb8.1 hb8.2)) hF (by decide) (fun a hF => ?_)
     refine qt_val (fun W hC => (v_load1 hF rfl pa22 (cells_sub (vs := [.int .u64 ((u0.at x3))]) (hC.2.bc (i := 0) rfl) rfl (A12u64.get u0 x3 hb8.1 hb8.2)))) hF (by decide) (fun a hF => ?_)
     refine qt_val (fun W hC => (v_move hF rfl)) hF (by decide) (fun a hF => ?_)
     obtain ⟨x9, hx10, h⟩ := bindS h
     refine qt_call hF pc110 rfl (by decide) (fun W hC => q_of hC (ok_ref01_Size (hC.2.enter trivial) hx10)) (fun a hF => ?_)
     obtain ⟨x11, hx12, h⟩ := bindS h
     refine qt_call hF pc114 rfl (by decide) (fun W hC => q_of hC (ok_ref01_Fits (hC.2.enter trivial) hx12)) (fun a hF => ?_)
     refine qt_val (fun W hC => (v_not hF rfl)) hF (by decide) (fun a hF => ?_)
     refine qt_nil ?_
     intro W hC
     have hS := hC.2
     refine then_n ?_
     refine wp_if hF rfl (fun he13 => ?_) (fun he13 => ?_)
     ·
      replace h := ifT he13 h
      refine wp_seq ?_
      refine wp_reg ?_
      refine sq_val (v_assign hF rfl) hF (by decide) (fun a hF => ?_)
      refine sq_nil ?_
      refine then_n ?_
      refine wp_ret ?_
      refine blk_r ?_
      refine then_r ?_
      refine then_r ?_
      refine blk_r ?_
      refine then_r ?_
      refine then_r ?_
      obtain rfl := Option.some.inj h
      have h := hk5
      dsimp only at h
      obtain rfl := Option.some.inj h
      exact ret1 hF rfl (rv_tmp hF rfl) ⟨_, rfl, rfl, (hS.keep (List.nil_sublist _) (List.Sublist.refl _) trivial)⟩
     ·
      replace h := ifF he13 h
      refine wp_skip ?_
      refine blk_n ?_
      refine then_n ?_
      refine wp_reg ?_
      refine sq_val (v_move hF rfl) hF (by decide) (fun a hF => ?_)
      refine sq_val (v_add hF rfl rfl) hF (by decide) (fun a hF => ?_)
      refine sq_val (v_assign hF rfl) hF (by decide) (fun a hF => ?_)
      refine sq_nil ?_
      exact then_j ⟨m6, Nat.lt_succ_self _, (IntKind.i64.wrap (x3 + 1)), (hF.keep ⟨rfl, rfl, trivial⟩), hS, h⟩
    ·
     replace h := ifF he7 h
     refine wp_exit ?_
     refine then_x ?_
     refine then_x ?_
     refine blk_hit ?_
     obtain rfl := Option.some.inj h
     exact then_j ⟨rfl, (hF.keep trivial), (hS.keep (List.nil_sublist _) (List.Sublist.refl _) trivial)⟩

theorem ok_ref01_Bits (k : Nat) {M : Nat → Prop} {w0 : World} {u0 : Int} {u1 : Int} {o : (List Bool)} (hS : St M w0 [] [] [] w0) (h : ref01_Bits k u0 u1 = some o) :
    Calls Try.prog 109 #[.int .u64 (u0), .int .i64 (u1)] w0 fun e W' => ∃ v, e = .returned v ∧ (∃ (A23 : Option Addr) (c24 : Nat), v = .slice A23 ((o).length) c24 ∧ St M w0 [] [⟨kBool, 4, A23, c24, o⟩] [] W') := by
  unfold ref01_Bits at h
  refine calls_start (args := [.int .u64 (u0), .int .i64 (u1)]) Try.func109 rfl rfl (Nat.le_of_ble_eq_true rfl) (fun a hF => ?_)
  refine wp_seq ?_
  refine wp_reg ?_
  refine sq_val (v_assign hF rfl) hF (by decide) (fun a hF => ?_)
  refine sq_nil ?_
  refine then_n ?_
  refine wp_seq ?_
  refine wp_reg ?_
  refine sq_val (v_assign hF rfl) hF (by decide) (fun a hF => ?_)
  refine sq_nil ?_
  refine then_n ?_
  refine wp_seq ?_
  refine wp_seq ?_
  refine wp_reg ?_
  refine sq_val (v_move hF rfl) hF (by decide) (fun a hF => ?_)
  refine sq_val (v_sub hF rfl rfl) hF (by decide) (fun a hF => ?_)
  refine sq_val (v_assign hF rfl) hF (by decide) (fun a hF => ?_)
  refine sq_nil ?_
  refine then_n ?_
  obtain ⟨o12, h, hk13⟩ := bindS h
  refine wp_join (fun a W => ∃ (x9 : List Bool) (A10 : Option Addr) (c11 : Nat), x9 = o12 ∧ FH 23 [(5, .slice A10 ((x9).length) c11)] a ∧ St M w0 [] [⟨kBool, 4, A10, c11, x9⟩] [] W) (fun a W hJ => ?_) ?_
  ·
   obtain ⟨x9, A10, c11, rfl, hF, hS⟩ := hJ
   have h := hk13
   refine then_n ?_
   refine wp_seq ?_
   refine wp_reg ?_
   refine sq_val (v_move hF rfl) hF (by decide) (fun a hF => ?_)
   refine sq_val (v_assign hF rfl) hF (by decide) (fun a hF => ?_)
   refine sq_nil ?_
   refine then_n ?_
   refine wp_ret ?_
   obtain rfl := Option.some.inj h
   exact ret1 hF rfl (rv_tmp hF rfl) ⟨_, rfl, A10, c11, rfl, hS⟩
  ·
   have hS := hS.addNil kBool 4
   refine wp_block ?_
   refine wp_loop_fuel (I := fun m a W => ∃ (x5 : List Bool) (x8 : Int) (A6 : Option Addr) (c7 : Nat), FH 23 [(0, .int .u64 (u0)), (5, .slice A6 ((x5).length) c7), (6, .int .i64 (x8))] a ∧ St M w0 [] [⟨kBool, 4, A6, c7, x5⟩] [] W ∧ (ref01_Bits.l0 k u0 m x5 x8) = some o12) ?_ (k := k) ⟨([]), (IntKind.i64.wrap (u1 - 1)), none, 0, (hF.keep ⟨rfl, rfl, rfl, trivial⟩), hS, h⟩
   rintro m14 a W ⟨x5, x8, A6, c7, hF, hS, h⟩
   cases m14 with
   | zero => cases h
   | succ m14 =>
    rw [ref01_Bits.l0] at h
    refine wp_seq ?_
    refine wp_seq ?_
    refine wp_reg ?_
    refine sq_val (v_move hF rfl) hF (by decide) (fun a hF => ?_)
    refine sq_val (v_geq hF rfl rfl) hF (by decide) (fun a hF => ?_)
    refine sq_nil ?_
    refine then_n ?_
    refine wp_if hF rfl (fun he15 => ?_) (fun he15 => ?_)
    ·
     replace h := ifT he15 h
     refine wp_skip ?_
     refine then_n ?_
     refine wp_seq ?_
     refine wp_block ?_
     refine wp_reg ?_
     refine sq_val (v_move hF rfl) hF (by decide) (fun a hF => ?_)
     refine sq_val (v_move hF rfl) hF (by decide) (fun a hF => ?_)
     refine sq_val (v_move hF rfl) hF (by decide) (fun a hF => ?_)
     refine sq_val (v_convI hF rfl pu3 pu137) hF (by decide) (fun a hF => ?_)
     obtain ⟨hb16, h⟩ := ifS h
     refine sq_val (v_shr hF rfl rfl hb16) hF (by decide) (fun a hF => ?_)
     refine sq_val (v_and hF rfl rfl) hF (by decide) (fun a hF => ?_)
     refine sq_val (v_eql hF rfl rfl) hF (by decide) (fun a hF => ?_)
     refine sq_buildSlice (κ := kBool) (xs := [.tmp 19]) (ys := [((bAnd .u64 (bShr .u64 u0 (IntKind.u64.wrap x8)) 1) == 1)]) hF hS rfl rfl rfl (Els.cons rfl (Els.nil _ _ _)) rfl psl116 pz4 rfl (by decide) (by decide) (by decide) (fun A17 c18 a W hF hS => ?_)
     obtain ⟨x21, hx22, h⟩ := bindS h
     refine sq_append (ys := ([((bAnd .u64 (bShr .u64 u0 (IntKind.u64.wrap x8)) 1) == 1)])) hF hS (i := 1) rfl rfl rfl (hS.rw_ (i := 0) rfl).src psl116 pb4 pz4 rfl (by decide) (by decide) hx22 (by decide) (fun A19 c20 a W hF hS => ?_)
     refine sq_val (v_assign hF rfl) hF (by decide) (fun a hF => ?_)
     refine sq_nil ?_
     refine blk_n ?_
     refine then_n ?_
     refine wp_reg ?_
     refine sq_val (v_move hF rfl) hF (by decide) (fun a hF => ?_)
     refine sq_val (v_sub hF rfl rfl) hF (by decide) (fun a hF => ?_)
     refine sq_val (v_assign hF rfl) hF (by decide) (fun a hF => ?_)
     refine sq_nil ?_
     exact then_j ⟨m14, Nat.lt_succ_self _, x21, (IntKind.i64.wrap (x8 - 1)), A19, c20, (hF.keep ⟨rfl, rfl, rfl, trivial⟩), (hS.keep (List.Sublist.refl _) (.cons _ (List.Sublist.refl _)) trivial), h⟩
    ·
     replace h := ifF he15 h
     refine wp_exit ?_
     refine then_x ?_
     refine then_x ?_
     refine blk_hit ?_
     obtain rfl := Option.some.inj h
     exact then_j ⟨x5, A6, c7, rfl, (hF.keep ⟨rfl, trivial⟩), hS⟩
end Go.Proofs.Ytangebngeeamoaa
