/- What calls of the Go functions come to. -/
import Derived.Test.YtangebngeeamoaaW0
set_option linter.unusedVariables false
set_option linter.unusedSimpArgs false
set_option maxRecDepth 100000
set_option maxHeartbeats 4000000
namespace Go.Proofs.Ytangebngeeamoaa
open Go.RowKit Go.Pod
theorem ok_slices_CompareFunc_uint64 (k : Nat) {M : Nat → Prop} {w0 : World} {u0 : List Int} {A0_0 : Option Addr} {c0_0 : Nat} {u1 : List Int} {A1_0 : Option Addr} {c1_0 : Nat} {F2 : FuncId} {caps2 : List Value} {u2 : Int → Int → Option Int} {o : Int} (hS : St M w0 [] [] [fSl (kInt .u64) A0_0 c0_0 u0, fSl (kInt .u64) A1_0 c1_0 u1, fFn2 Try.prog F2 caps2 (kInt .u64) false (kInt .u64) false u2 (fun y => .int .i64 y)] w0) (h : slices_CompareFunc_uint64 k u0 u1 u2 = some o) :
    Calls Try.prog 172 #[.slice A0_0 ((u0).length) c0_0, .slice A1_0 ((u1).length) c1_0, .func (.func F2) #[] caps2.toArray] w0 fun e W' => ∃ v, e = .returned v ∧ (v = .int .i64 (o) ∧ St M w0 [] [] [] W') := by
  unfold slices_CompareFunc_uint64 at h
  refine calls_start (args := [.slice A0_0 ((u0).length) c0_0, .slice A1_0 ((u1).length) c1_0, .func (.func F2) #[] caps2.toArray]) Try.func172 rfl rfl (Nat.le_of_ble_eq_true rfl) (fun a hF => ?_)
  refine wp_seq ?_
  refine wp_reg ?_
  refine sq_val (v_assign hF rfl) hF (by decide) (fun a hF => ?_)
  refine sq_nil ?_
  refine then_n ?_
  refine wp_seq ?_
  refine wp_seq ?_
  refine wp_reg ?_
  refine sq_val (v_move hF rfl) hF (by decide) (fun a hF => ?_)
  refine sq_val (v_len hF rfl pu166) hF (by decide) (fun a hF => ?_)
  refine sq_val (v_move hF rfl) hF (by decide) (fun a hF => ?_)
  refine sq_nil ?_
  refine then_n ?_
  obtain ⟨o3, h, hk4⟩ := bindS h
  refine wp_join (fun a W => Lo.brk () = o3 ∧ FH 39 [(0, .slice A0_0 ((u0).length) c0_0), (1, .slice A1_0 ((u1).length) c1_0)] a ∧ St M w0 [] [] [fSl (kInt .u64) A0_0 c0_0 u0, fSl (kInt .u64) A1_0 c1_0 u1] W) (fun a W hJ => ?_) ?_
  ·
    obtain ⟨rfl, hF, hS⟩ := hJ
    have h := hk4
    dsimp only at h
    refine then_n ?_
    refine wp_seq ?_
    refine wp_seq ?_
    refine wp_reg ?_
    refine sq_val (v_move hF rfl) hF (by decide) (fun a hF => ?_)
    refine sq_val (v_len hF rfl pu166) hF (by decide) (fun a hF => ?_)
    refine sq_val (v_move hF rfl) hF (by decide) (fun a hF => ?_)
    refine sq_val (v_len hF rfl pu166) hF (by decide) (fun a hF => ?_)
    refine sq_val (v_lss hF rfl rfl) hF (by decide) (fun a hF => ?_)
    refine sq_nil ?_
    refine then_n ?_
    refine wp_if hF rfl (fun he5 => ?_) (fun he5 => ?_)
    ·
      replace h := ifT he5 h
      refine wp_seq ?_
      refine wp_reg ?_
      refine sq_val (v_assign hF rfl) hF (by decide) (fun a hF => ?_)
      refine sq_nil ?_
      refine then_n ?_
      refine wp_ret ?_
      refine then_r ?_
      obtain rfl := Option.some.inj h
      exact ret1 hF rfl (rv_tmp hF rfl) ⟨_, rfl, rfl, (hS.keep (List.Sublist.refl _) (List.Sublist.refl _) trivial)⟩
    ·
      replace h := ifF he5 h
      refine wp_skip ?_
      refine then_n ?_
      refine wp_seq ?_
      refine wp_reg ?_
      refine sq_val (v_assign hF rfl) hF (by decide) (fun a hF => ?_)
      refine sq_nil ?_
      refine then_n ?_
      refine wp_ret ?_
      obtain rfl := Option.some.inj h
      exact ret1 hF rfl (rv_tmp hF rfl) ⟨_, rfl, rfl, (hS.keep (List.Sublist.refl _) (List.Sublist.refl _) trivial)⟩
  ·
    refine wp_block ?_
    refine wp_loop_fuel (I := fun m a W => ∃ (x2 : Int), FH 39 [(0, .slice A0_0 ((u0).length) c0_0), (1, .slice A1_0 ((u1).length) c1_0), (2, .func (.func F2) #[] caps2.toArray), (11, .slice A0_0 ((u0).length) c0_0), (12, .int .i64 ((u0.length : Int))), (13, .int .i64 (x2))] a ∧ St M w0 [] [] [fSl (kInt .u64) A0_0 c0_0 u0, fSl (kInt .u64) A1_0 c1_0 u1, fFn2 Try.prog F2 caps2 (kInt .u64) false (kInt .u64) false u2 (fun y => .int .i64 y)] W ∧ (slices_CompareFunc_uint64.l0 k u0 u1 u2 m x2) = some o3) ?_ (k := k) ⟨0, (hF.keep ⟨rfl, rfl, rfl, rfl, rfl, rfl, trivial⟩), hS, h⟩
    rintro m6 a W ⟨x2, hF, hS, h⟩
    cases m6 with
    | zero => cases h
    | succ m6 =>
      rw [slices_CompareFunc_uint64.l0] at h
      refine wp_seq ?_
      refine wp_reg ?_
      refine sq_val (v_lss hF rfl rfl) hF (by decide) (fun a hF => ?_)
      refine sq_nil ?_
      refine then_n ?_
      refine wp_seq ?_
      refine wp_if hF rfl (fun he7 => ?_) (fun he7 => ?_)
      ·
        replace h := ifT he7 h
        refine wp_skip ?_
        refine then_n ?_
        refine wp_seq ?_
        refine wp_block ?_
        refine wp_seq ?_
        refine wp_reg ?_
        refine sq_val (v_move hF rfl) hF (by decide) (fun a hF => ?_)
        obtain ⟨x8, hx9, h⟩ := bindS h
        obtain ⟨p10, cs11, hA12, hat13⟩ := SlR.at (hS.fc (i := 0) rfl) hx9
        obtain rfl : cs11 = [.int .u64 (x8)] := hat13.2.2.2
        have hS := hS.addFact (f := fAt (kInt .u64) (p10.add (x2.toNat * 1)) ([.int .u64 (x8)]) x8) hat13
        refine sq_val (v_idx hF rfl hA12 rfl psl166 hx9) hF (by decide) (fun a hF => ?_)
        refine sq_val (v_load1 hF rfl pa22 (hS.pc (i := 0) rfl)) hF (by decide) (fun a hF => ?_)
        refine sq_val (v_assign hF rfl) hF (by decide) (fun a hF => ?_)
        refine sq_val (v_assign hF rfl) hF (by decide) (fun a hF => ?_)
        refine sq_nil ?_
        refine then_n ?_
        refine wp_seq ?_
        refine wp_seq ?_
        refine wp_reg ?_
        refine sq_val (v_move hF rfl) hF (by decide) (fun a hF => ?_)
        refine sq_val (v_move hF rfl) hF (by decide) (fun a hF => ?_)
        refine sq_val (v_len hF rfl pu166) hF (by decide) (fun a hF => ?_)
        refine sq_val (v_geq hF rfl rfl) hF (by decide) (fun a hF => ?_)
        refine sq_nil ?_
        refine then_n ?_
        refine wp_if hF rfl (fun he14 => ?_) (fun he14 => ?_)
        ·
          replace h := ifT he14 h
          refine wp_seq ?_
          refine wp_reg ?_
          refine sq_val (v_assign hF rfl) hF (by decide) (fun a hF => ?_)
          refine sq_nil ?_
          refine then_n ?_
          refine wp_ret ?_
          refine then_r ?_
          refine blk_r ?_
          refine then_r ?_
          refine then_r ?_
          refine blk_r ?_
          refine then_r ?_
          refine then_r ?_
          obtain rfl := Option.some.inj h
          have h := hk4
          dsimp only at h
          obtain rfl := Option.some.inj h
          exact ret1 hF rfl (rv_tmp hF rfl) ⟨_, rfl, rfl, (hS.keep (List.Sublist.refl _) (List.Sublist.refl _) trivial)⟩
        ·
          replace h := ifF he14 h
          refine wp_skip ?_
          refine then_n ?_
          refine wp_seq ?_
          refine wp_reg ?_
          refine sq_val (v_move hF rfl) hF (by decide) (fun a hF => ?_)
          refine sq_val (v_move hF rfl) hF (by decide) (fun a hF => ?_)
          obtain ⟨x15, hx16, h⟩ := bindS h
          obtain ⟨p17, cs18, hA19, hat20⟩ := SlR.at (hS.fc (i := 2) rfl) hx16
          obtain rfl : cs18 = [.int .u64 (x15)] := hat20.2.2.2
          have hS := hS.addFact (f := fAt (kInt .u64) (p17.add (x2.toNat * 1)) ([.int .u64 (x15)]) x15) hat20
          refine sq_val (v_idx hF rfl hA19 rfl psl166 hx16) hF (by decide) (fun a hF => ?_)
          refine sq_val (v_load1 hF rfl pa22 (hS.pc (i := 0) rfl)) hF (by decide) (fun a hF => ?_)
          refine sq_val (v_assign hF rfl) hF (by decide) (fun a hF => ?_)
          refine sq_nil ?_
          refine then_n ?_
          refine wp_seq ?_
          refine wp_reg ?_
          refine sq_val (v_move hF rfl) hF (by decide) (fun a hF => ?_)
          refine sq_val (v_move hF rfl) hF (by decide) (fun a hF => ?_)
          refine sq_val (v_move hF rfl) hF (by decide) (fun a hF => ?_)
          obtain ⟨x21, hx22, h⟩ := bindS h
          refine sq_callv hF (hS.fc (i := 4) rfl).1 rfl rfl (by decide) (call2 (hS.fc (i := 4) rfl) hS rfl rfl hx22) (fun v W hR a hF => ?_)
          obtain ⟨rfl, hT23⟩ := hR
          have hS := hS.grow hT23
          refine sq_val (v_assign hF rfl) hF (by decide) (fun a hF => ?_)
          refine sq_nil ?_
          refine then_n ?_
          refine wp_seq ?_
          refine wp_reg ?_
          refine sq_val (v_move hF rfl) hF (by decide) (fun a hF => ?_)
          refine sq_val (v_neq hF rfl rfl) hF (by decide) (fun a hF => ?_)
          refine sq_nil ?_
          refine then_n ?_
          refine wp_if hF rfl (fun he24 => ?_) (fun he24 => ?_)
          ·
            replace h := ifT he24 h
            refine wp_seq ?_
            refine wp_reg ?_
            refine sq_val (v_move hF rfl) hF (by decide) (fun a hF => ?_)
            refine sq_val (v_assign hF rfl) hF (by decide) (fun a hF => ?_)
            refine sq_nil ?_
            refine then_n ?_
            refine wp_ret ?_
            refine blk_r ?_
            refine then_r ?_
            refine then_r ?_
            refine blk_r ?_
            refine then_r ?_
            refine then_r ?_
            obtain rfl := Option.some.inj h
            have h := hk4
            dsimp only at h
            obtain rfl := Option.some.inj h
            exact ret1 hF rfl (rv_tmp hF rfl) ⟨_, rfl, rfl, (hS.keep (List.Sublist.refl _) (List.Sublist.refl _) trivial)⟩
          ·
            replace h := ifF he24 h
            refine wp_skip ?_
            refine blk_n ?_
            refine then_n ?_
            refine wp_reg ?_
            refine sq_val (v_add hF rfl rfl) hF (by decide) (fun a hF => ?_)
            refine sq_val (v_move hF rfl) hF (by decide) (fun a hF => ?_)
            refine sq_nil ?_
            exact then_j ⟨m6, Nat.lt_succ_self _, (IntKind.i64.wrap (x2 + 1)), (hF.keep ⟨rfl, rfl, rfl, rfl, rfl, rfl, trivial⟩), (hS.keep (List.Sublist.refl _) (List.Sublist.refl _) ⟨⟨2, rfl⟩, ⟨3, rfl⟩, ⟨4, rfl⟩, trivial⟩), h⟩
      ·
        replace h := ifF he7 h
        refine wp_exit ?_
        refine then_x ?_
        refine then_x ?_
        refine blk_hit ?_
        obtain rfl := Option.some.inj h
        exact then_j ⟨rfl, (hF.keep ⟨rfl, rfl, trivial⟩), (hS.keep (List.Sublist.refl _) (List.Sublist.refl _) ⟨⟨0, rfl⟩, ⟨1, rfl⟩, trivial⟩)⟩

theorem ok_cmp_isNaN_uint64 {M : Nat → Prop} {w0 : World} {u0 : Int} {o : Bool} (hS : St M w0 [] [] [] w0) (h : cmp_isNaN_uint64 u0 = some o) :
    Calls Try.prog 194 #[.int .u64 (u0)] w0 fun e W' => ∃ v, e = .returned v ∧ (v = .bool (o) ∧ St M w0 [] [] [] W') := by
  unfold cmp_isNaN_uint64 at h
  refine calls_start (args := [.int .u64 (u0)]) Try.func194 rfl rfl (Nat.le_of_ble_eq_true rfl) (fun a hF => ?_)
  refine wp_seq ?_
  refine wp_reg ?_
  refine sq_val (v_assign hF rfl) hF (by decide) (fun a hF => ?_)
  refine sq_nil ?_
  refine then_n ?_
  refine wp_seq ?_
  refine wp_reg ?_
  refine sq_val (v_move hF rfl) hF (by decide) (fun a hF => ?_)
  refine sq_val (v_move hF rfl) hF (by decide) (fun a hF => ?_)
  refine sq_val (v_neq hF rfl rfl) hF (by decide) (fun a hF => ?_)
  refine sq_val (v_assign hF rfl) hF (by decide) (fun a hF => ?_)
  refine sq_nil ?_
  refine then_n ?_
  refine wp_ret ?_
  obtain rfl := Option.some.inj h
  exact ret1 hF rfl (rv_tmp hF rfl) ⟨_, rfl, rfl, hS⟩

theorem ok_cmp_Compare_uint64 {M : Nat → Prop} {w0 : World} {u0 : Int} {u1 : Int} {o : Int} (hS : St M w0 [] [] [] w0) (h : cmp_Compare_uint64 u0 u1 = some o) :
    Calls Try.prog 173 #[.int .u64 (u0), .int .u64 (u1)] w0 fun e W' => ∃ v, e = .returned v ∧ (v = .int .i64 (o) ∧ St M w0 [] [] [] W') := by
  unfold cmp_Compare_uint64 at h
  refine calls_start (args := [.int .u64 (u0), .int .u64 (u1)]) Try.func173 rfl rfl (Nat.le_of_ble_eq_true rfl) (fun a hF => ?_)
  refine wp_seq ?_
  refine wp_reg ?_
  refine sq_val (v_assign hF rfl) hF (by decide) (fun a hF => ?_)
  refine sq_nil ?_
  refine then_n ?_
  refine wp_seq ?_
  refine wp_reg ?_
  refine sq_val (v_move hF rfl) hF (by decide) (fun a hF => ?_)
  obtain ⟨x1, hx2, h⟩ := bindS h
  refine sq_call hF pc194 rfl (by decide) (ok_cmp_isNaN_uint64 (hS.enter trivial) hx2) (fun v W hR a hF => ?_)
  obtain ⟨rfl, hT3⟩ := hR
  have hS := hS.grow hT3.below
  refine sq_val (v_assign hF rfl) hF (by decide) (fun a hF => ?_)
  refine sq_nil ?_
  refine then_n ?_
  refine wp_seq ?_
  refine wp_reg ?_
  refine sq_val (v_move hF rfl) hF (by decide) (fun a hF => ?_)
  obtain ⟨x4, hx5, h⟩ := bindS h
  refine sq_call hF pc194 rfl (by decide) (ok_cmp_isNaN_uint64 (hS.enter trivial) hx5) (fun v W hR a hF => ?_)
  obtain ⟨rfl, hT6⟩ := hR
  have hS := hS.grow hT6.below
  refine sq_val (v_assign hF rfl) hF (by decide) (fun a hF => ?_)
  refine sq_nil ?_
  refine then_n ?_
  refine wp_seq ?_
  refine wp_seq ?_
  refine wp_reg ?_
  refine sq_val (v_move hF rfl) hF (by decide) (fun a hF => ?_)
  refine sq_nil ?_
  refine then_n ?_
  refine wp_if hF rfl (fun he7 => ?_) (fun he7 => ?_)
  ·
    replace h := ifT he7 h
    refine wp_seq ?_
    refine wp_seq ?_
    refine wp_reg ?_
    refine sq_val (v_move hF rfl) hF (by decide) (fun a hF => ?_)
    refine sq_nil ?_
    refine then_n ?_
    refine wp_if hF rfl (fun he8 => ?_) (fun he8 => ?_)
    ·
      replace h := ifT he8 h
      refine wp_seq ?_
      refine wp_reg ?_
      refine sq_val (v_assign hF rfl) hF (by decide) (fun a hF => ?_)
      refine sq_nil ?_
      refine then_n ?_
      refine wp_ret ?_
      refine then_r ?_
      refine then_r ?_
      obtain rfl := Option.some.inj h
      exact ret1 hF rfl (rv_tmp hF rfl) ⟨_, rfl, rfl, hS⟩
    ·
      replace h := ifF he8 h
      refine wp_skip ?_
      refine then_n ?_
      refine wp_seq ?_
      refine wp_reg ?_
      refine sq_val (v_assign hF rfl) hF (by decide) (fun a hF => ?_)
      refine sq_nil ?_
      refine then_n ?_
      refine wp_ret ?_
      refine then_r ?_
      obtain rfl := Option.some.inj h
      exact ret1 hF rfl (rv_tmp hF rfl) ⟨_, rfl, rfl, hS⟩
  ·
    replace h := ifF he7 h
    refine wp_skip ?_
    refine then_n ?_
    refine wp_seq ?_
    refine wp_seq ?_
    refine wp_reg ?_
    refine sq_val (v_move hF rfl) hF (by decide) (fun a hF => ?_)
    refine sq_nil ?_
    refine then_n ?_
    refine wp_if hF rfl (fun he9 => ?_) (fun he9 => ?_)
    ·
      replace h := ifT he9 h
      refine wp_seq ?_
      refine wp_reg ?_
      refine sq_val (v_assign hF rfl) hF (by decide) (fun a hF => ?_)
      refine sq_nil ?_
      refine then_n ?_
      refine wp_ret ?_
      refine then_r ?_
      obtain rfl := Option.some.inj h
      exact ret1 hF rfl (rv_tmp hF rfl) ⟨_, rfl, rfl, hS⟩
    ·
      replace h := ifF he9 h
      refine wp_skip ?_
      refine then_n ?_
      refine wp_seq ?_
      refine wp_seq ?_
      refine wp_reg ?_
      refine sq_val (v_move hF rfl) hF (by decide) (fun a hF => ?_)
      refine sq_val (v_move hF rfl) hF (by decide) (fun a hF => ?_)
      refine sq_val (v_lss hF rfl rfl) hF (by decide) (fun a hF => ?_)
      refine sq_nil ?_
      refine then_n ?_
      refine wp_if hF rfl (fun he10 => ?_) (fun he10 => ?_)
      ·
        replace h := ifT he10 h
        refine wp_seq ?_
        refine wp_reg ?_
        refine sq_val (v_assign hF rfl) hF (by decide) (fun a hF => ?_)
        refine sq_nil ?_
        refine then_n ?_
        refine wp_ret ?_
        refine then_r ?_
        obtain rfl := Option.some.inj h
        exact ret1 hF rfl (rv_tmp hF rfl) ⟨_, rfl, rfl, hS⟩
      ·
        replace h := ifF he10 h
        refine wp_skip ?_
        refine then_n ?_
        refine wp_seq ?_
        refine wp_seq ?_
        refine wp_reg ?_
        refine sq_val (v_move hF rfl) hF (by decide) (fun a hF => ?_)
        refine sq_val (v_move hF rfl) hF (by decide) (fun a hF => ?_)
        refine sq_val (v_gtr hF rfl rfl) hF (by decide) (fun a hF => ?_)
        refine sq_nil ?_
        refine then_n ?_
        refine wp_if hF rfl (fun he11 => ?_) (fun he11 => ?_)
        ·
          replace h := ifT he11 h
          refine wp_seq ?_
          refine wp_reg ?_
          refine sq_val (v_assign hF rfl) hF (by decide) (fun a hF => ?_)
          refine sq_nil ?_
          refine then_n ?_
          refine wp_ret ?_
          refine then_r ?_
          obtain rfl := Option.some.inj h
          exact ret1 hF rfl (rv_tmp hF rfl) ⟨_, rfl, rfl, hS⟩
        ·
          replace h := ifF he11 h
          refine wp_skip ?_
          refine then_n ?_
          refine wp_seq ?_
          refine wp_reg ?_
          refine sq_val (v_assign hF rfl) hF (by decide) (fun a hF => ?_)
          refine sq_nil ?_
          refine then_n ?_
          refine wp_ret ?_
          obtain rfl := Option.some.inj h
          exact ret1 hF rfl (rv_tmp hF rfl) ⟨_, rfl, rfl, hS⟩

theorem ok_head_Compare (k : Nat) {M : Nat → Prop} {w0 : World} {u0 : Arr 12} {u1 : Arr 12} {o : Int} (hS : St M w0 [] [] [] w0) (h : head_Compare k u0 u1 = some o) :
    Calls Try.prog 143 #[.agg (A12u64.enc u0).toArray, .agg (A12u64.enc u1).toArray] w0 fun e W' => ∃ v, e = .returned v ∧ (v = .int .i64 (o) ∧ St M w0 [] [] [] W') := by
  unfold head_Compare at h
  refine calls_start (args := [.agg (A12u64.enc u0).toArray, .agg (A12u64.enc u1).toArray]) Try.func143 rfl rfl (Nat.le_of_ble_eq_true rfl) (fun a hF => ?_)
  refine wp_seq ?_
  refine wp_reg ?_
  refine sq_box hF hS rfl rfl (by decide) (fun b1 a W hF hS => ?_)
  refine sq_box hF hS rfl rfl (by decide) (fun b2 a W hF hS => ?_)
  refine sq_val (v_assign hF rfl) hF (by decide) (fun a hF => ?_)
  refine sq_nil ?_
  refine then_n ?_
  refine wp_seq ?_
  have hS := hS.freezeBox (i := 1) rfl
  have hS := hS.addFact (f := fSl (kInt .u64) (some (⟨b1, 0, none⟩)) 12 (A12u64.list u0)) (fBox_sl (xs := (A12u64.list u0)) (hS.fc (i := 0) rfl) rfl (by show 12 ≤ maxLen; decide))
  have hS := hS.freezeBox (i := 0) rfl
  have hS := hS.addFact (f := fSl (kInt .u64) (some (⟨b2, 0, none⟩)) 12 (A12u64.list u1)) (fBox_sl (xs := (A12u64.list u1)) (hS.fc (i := 0) rfl) rfl (by show 12 ≤ maxLen; decide))
  refine wp_drawn (QC M w0 [] [] [fSl (kInt .u64) (some (⟨b2, 0, none⟩)) 12 (A12u64.list u1), fBox b2 (A12u64.enc u1) 24, fSl (kInt .u64) (some (⟨b1, 0, none⟩)) 12 (A12u64.list u0), fBox b1 (A12u64.enc u0) 24]) (fun _ => false) rfl hS (fun W hB0 hR0 => ?_)
  have hS := hR0
  have hQC : (QC M w0 [] [] [fSl (kInt .u64) (some (⟨b2, 0, none⟩)) 12 (A12u64.list u1), fBox b2 (A12u64.enc u1) 24, fSl (kInt .u64) (some (⟨b1, 0, none⟩)) 12 (A12u64.list u0), fBox b1 (A12u64.enc u0) 24]) W W := ⟨Bl.refl _ _, hS⟩
  refine e_val (listed' := #[true, false, false, false]) 0 rfl (by kernel_rfl) (by kernel_rfl) (fun _ _ _ h => h) (fun W => (v_sliceArr hF rfl par24)) hF (by decide) (fun a hF => ?_)
  refine e_val (listed' := #[true, true, false, false]) 1 rfl (by kernel_rfl) (by kernel_rfl) (fun _ _ _ h => h) (fun W => (v_sliceArr hF rfl par24)) hF (by decide) (fun a hF => ?_)
  refine e_one (listed' := #[true, true, true, false]) 2 rfl (by kernel_rfl) (by kernel_rfl) ?_
  have hS := hS.addFact (f := fFn2 Try.prog 173 ([]) (kInt .u64) false (kInt .u64) false (fun (a0 : Int) (a1 : Int) => cmp_Compare_uint64 a0 a1) (fun y => .int .i64 y)) ⟨pc173, fun M' W' hs hv cs a0 cs2 a1 y hR hR2 hp => by obtain rfl := hR; obtain rfl := hR2; exact fromSt (ok_cmp_Compare_uint64 (St.ofAll hv trivial) hp)⟩
  obtain ⟨x3, hx4, h⟩ := bindS h
  refine sq_call hF pc172 rfl (by decide) (ok_slices_CompareFunc_uint64 k (u0 := (A12u64.list u0)) (A0_0 := (some (⟨b1, 0, none⟩))) (c0_0 := 12) (u1 := (A12u64.list u1)) (A1_0 := (some (⟨b2, 0, none⟩))) (c1_0 := 12) (hS.enter ⟨⟨3, rfl⟩, ⟨1, rfl⟩, ⟨0, rfl⟩, trivial⟩) hx4) (fun v W hR a hF => ?_)
  obtain ⟨rfl, hT5⟩ := hR
  have hS := hS.grow hT5.below
  refine sq_nil (then_j ⟨?_, ?_⟩)
  · exact fun hQ0 _ => hQ0.next hT5.below
  ·
    have hQC := hQC.next hT5.below
    refine e_val (listed' := #[true, true, true, true]) 3 rfl (by kernel_rfl) (by kernel_rfl) (fun _ _ _ h => h) (fun W => (v_assign hF rfl)) hF (by decide) (fun a hF => ?_)
    refine e_done (by kernel_rfl) ?_ _
    refine then_n ?_
    refine wp_ret ?_
    obtain rfl := Option.some.inj h
    exact ret1 hF rfl (rv_tmp hF rfl) ⟨_, rfl, rfl, (hS.keep (List.Sublist.refl _) (List.Sublist.refl _) trivial)⟩

theorem ok_cmp_Or_int (k : Nat) {M : Nat → Prop} {w0 : World} {u0 : List Int} {A0_0 : Option Addr} {c0_0 : Nat} {o : Int} (hS : St M w0 [] [] [fSl (kInt .i64) A0_0 c0_0 u0] w0) (h : cmp_Or_int k u0 = some o) :
    Calls Try.prog 138 #[.slice A0_0 ((u0).length) c0_0] w0 fun e W' => ∃ v, e = .returned v ∧ (v = .int .i64 (o) ∧ St M w0 [] [] [] W') := by
  unfold cmp_Or_int at h
  refine calls_start (args := [.slice A0_0 ((u0).length) c0_0]) Try.func138 rfl rfl (Nat.le_of_ble_eq_true rfl) (fun a hF => ?_)
  refine wp_seq ?_
  refine wp_reg ?_
  refine sq_val (v_assign hF rfl) hF (by decide) (fun a hF => ?_)
  refine sq_nil ?_
  refine then_n ?_
  refine wp_seq ?_
  refine wp_reg ?_
  refine sq_val (v_assign hF rfl) hF (by decide) (fun a hF => ?_)
  refine sq_nil ?_
  refine then_n ?_
  refine wp_seq ?_
  refine wp_seq ?_
  refine wp_reg ?_
  refine sq_val (v_move hF rfl) hF (by decide) (fun a hF => ?_)
  refine sq_val (v_len hF rfl pu76) hF (by decide) (fun a hF => ?_)
  refine sq_val (v_move hF rfl) hF (by decide) (fun a hF => ?_)
  refine sq_nil ?_
  refine then_n ?_
  obtain ⟨o3, h, hk4⟩ := bindS h
  refine wp_join (fun a W => Lo.brk () = o3 ∧ FH 18 [(3, .int .i64 (0))] a ∧ St M w0 [] [] [] W) (fun a W hJ => ?_) ?_
  ·
    obtain ⟨rfl, hF, hS⟩ := hJ
    have h := hk4
    dsimp only at h
    refine then_n ?_
    refine wp_seq ?_
    refine wp_reg ?_
    refine sq_val (v_move hF rfl) hF (by decide) (fun a hF => ?_)
    refine sq_val (v_assign hF rfl) hF (by decide) (fun a hF => ?_)
    refine sq_nil ?_
    refine then_n ?_
    refine wp_ret ?_
    obtain rfl := Option.some.inj h
    exact ret1 hF rfl (rv_tmp hF rfl) ⟨_, rfl, rfl, hS⟩
  ·
    refine wp_block ?_
    refine wp_loop_fuel (I := fun m a W => ∃ (x2 : Int), FH 18 [(3, .int .i64 (0)), (6, .slice A0_0 ((u0).length) c0_0), (7, .int .i64 ((u0.length : Int))), (8, .int .i64 (x2))] a ∧ St M w0 [] [] [fSl (kInt .i64) A0_0 c0_0 u0] W ∧ (cmp_Or_int.l0 k u0 m x2) = some o3) ?_ (k := k) ⟨0, (hF.keep ⟨rfl, rfl, rfl, rfl, trivial⟩), hS, h⟩
    rintro m5 a W ⟨x2, hF, hS, h⟩
    cases m5 with
    | zero => cases h
    | succ m5 =>
      rw [cmp_Or_int.l0] at h
      refine wp_seq ?_
      refine wp_reg ?_
      refine sq_val (v_lss hF rfl rfl) hF (by decide) (fun a hF => ?_)
      refine sq_nil ?_
      refine then_n ?_
      refine wp_seq ?_
      refine wp_if hF rfl (fun he6 => ?_) (fun he6 => ?_)
      ·
        replace h := ifT he6 h
        refine wp_skip ?_
        refine then_n ?_
        refine wp_seq ?_
        refine wp_block ?_
        refine wp_seq ?_
        refine wp_reg ?_
        obtain ⟨x7, hx8, h⟩ := bindS h
        obtain ⟨p9, cs10, hA11, hat12⟩ := SlR.at (hS.fc (i := 0) rfl) hx8
        obtain rfl : cs10 = [.int .i64 (x7)] := hat12.2.2.2
        have hS := hS.addFact (f := fAt (kInt .i64) (p9.add (x2.toNat * 1)) ([.int .i64 (x7)]) x7) hat12
        refine sq_val (v_idx hF rfl hA11 rfl psl76 hx8) hF (by decide) (fun a hF => ?_)
        refine sq_val (v_load1 hF rfl pa3 (hS.pc (i := 0) rfl)) hF (by decide) (fun a hF => ?_)
        refine sq_val (v_assign hF rfl) hF (by decide) (fun a hF => ?_)
        refine sq_nil ?_
        refine then_n ?_
        refine wp_seq ?_
        refine wp_reg ?_
        refine sq_val (v_move hF rfl) hF (by decide) (fun a hF => ?_)
        refine sq_val (v_move hF rfl) hF (by decide) (fun a hF => ?_)
        refine sq_val (v_neq hF rfl rfl) hF (by decide) (fun a hF => ?_)
        refine sq_nil ?_
        refine then_n ?_
        refine wp_if hF rfl (fun he13 => ?_) (fun he13 => ?_)
        ·
          replace h := ifT he13 h
          refine wp_seq ?_
          refine wp_reg ?_
          refine sq_val (v_move hF rfl) hF (by decide) (fun a hF => ?_)
          refine sq_val (v_assign hF rfl) hF (by decide) (fun a hF => ?_)
          refine sq_nil ?_
          refine then_n ?_
          refine wp_ret ?_
          refine blk_r ?_
          refine then_r ?_
          refine then_r ?_
          refine blk_r ?_
          refine then_r ?_
          refine then_r ?_
          obtain rfl := Option.some.inj h
          have h := hk4
          dsimp only at h
          obtain rfl := Option.some.inj h
          exact ret1 hF rfl (rv_tmp hF rfl) ⟨_, rfl, rfl, (hS.keep (List.Sublist.refl _) (List.Sublist.refl _) trivial)⟩
        ·
          replace h := ifF he13 h
          refine wp_skip ?_
          refine blk_n ?_
          refine then_n ?_
          refine wp_reg ?_
          refine sq_val (v_add hF rfl rfl) hF (by decide) (fun a hF => ?_)
          refine sq_val (v_move hF rfl) hF (by decide) (fun a hF => ?_)
          refine sq_nil ?_
          exact then_j ⟨m5, Nat.lt_succ_self _, (IntKind.i64.wrap (x2 + 1)), (hF.keep ⟨rfl, rfl, rfl, rfl, trivial⟩), (hS.keep (List.Sublist.refl _) (List.Sublist.refl _) ⟨⟨1, rfl⟩, trivial⟩), h⟩
      ·
        replace h := ifF he6 h
        refine wp_exit ?_
        refine then_x ?_
        refine then_x ?_
        refine blk_hit ?_
        obtain rfl := Option.some.inj h
        exact then_j ⟨rfl, (hF.keep ⟨rfl, trivial⟩), (hS.keep (List.Sublist.refl _) (List.Sublist.refl _) trivial)⟩

theorem ok_cube_Compare (k : Nat) {M : Nat → Prop} {w0 : World} {u0 : TCube} {u1 : TCube} {o : Int} (hS : St M w0 [] [] [] w0) (h : cube_Compare k u0 u1 = some o) :
    Calls Try.prog 95 #[.agg (TCube.enc u0).toArray, .agg (TCube.enc u1).toArray] w0 fun e W' => ∃ v, e = .returned v ∧ (v = .int .i64 (o) ∧ St M w0 [] [] [] W') := by
  unfold cube_Compare at h
  refine calls_start (args := [.agg (TCube.enc u0).toArray, .agg (TCube.enc u1).toArray]) Try.func95 rfl rfl (Nat.le_of_ble_eq_true rfl) (fun a hF => ?_)
  refine wp_seq ?_
  refine wp_reg ?_
  refine sq_box hF hS rfl rfl (by decide) (fun b1 a W hF hS => ?_)
  refine sq_box hF hS rfl rfl (by decide) (fun b2 a W hF hS => ?_)
  refine sq_val (v_assign hF rfl) hF (by decide) (fun a hF => ?_)
  refine sq_nil ?_
  refine then_n ?_
  refine wp_seq ?_
  refine wp_drawn (fun _ => St M w0 [⟨b2, TCube.enc u1, 26⟩, ⟨b1, TCube.enc u0, 26⟩] [] []) (fun _ => false) rfl hS (fun W hB0 hR0 => ?_)
  have hS := hR0
  have hQC : (fun _ => St M w0 [⟨b2, TCube.enc u1, 26⟩, ⟨b1, TCube.enc u0, 26⟩] [] []) W W := hS
  refine e_val (listed' := #[true, false, false, false, false, false, false, false, false, false, false, false, false]) 0 rfl (by kernel_rfl) (by kernel_rfl) (fun _ _ _ h => h) (fun W => (v_fieldAddr hF rfl pf26_1)) hF (by decide) (fun a hF => ?_)
  refine e_valS (listed' := #[true, true, false, false, false, false, false, false, false, false, false, false, false]) 1 rfl (by kernel_rfl) (by kernel_rfl) (fun _ _ _ h => h) (fun W hC => (v_load (cs := A12u64.enc u0.Care) hF rfl pa24 ps24 (cells_sub (vs := A12u64.enc u0.Care) (hC.bc (i := 1) rfl) rfl rfl))) hQC (by kernel_rfl) hF (by decide) (fun a hF => ?_)
  refine e_val (listed' := #[true, true, true, false, false, false, false, false, false, false, false, false, false]) 2 rfl (by kernel_rfl) (by kernel_rfl) (fun _ _ _ h => h) (fun W => (v_fieldAddr hF rfl pf26_1)) hF (by decide) (fun a hF => ?_)
  refine e_valS (listed' := #[true, true, true, true, false, false, false, false, false, false, false, false, false]) 3 rfl (by kernel_rfl) (by kernel_rfl) (fun _ _ _ h => h) (fun W hC => (v_load (cs := A12u64.enc u1.Care) hF rfl pa24 ps24 (cells_sub (vs := A12u64.enc u1.Care) (hC.bc (i := 0) rfl) rfl rfl))) hQC (by kernel_rfl) hF (by decide) (fun a hF => ?_)
  refine e_val (listed' := #[true, true, true, true, false, true, false, false, false, false, false, false, false]) 5 rfl (by kernel_rfl) (by kernel_rfl) (fun _ _ _ h => h) (fun W => (v_fieldAddr hF rfl pf26_0)) hF (by decide) (fun a hF => ?_)
  refine e_valS (listed' := #[true, true, true, true, false, true, true, false, false, false, false, false, false]) 6 rfl (by kernel_rfl) (by kernel_rfl) (fun _ _ _ h => h) (fun W hC => (v_load (cs := A12u64.enc u0.Value) hF rfl pa24 ps24 (cells_sub (vs := A12u64.enc u0.Value) (hC.bc (i := 1) rfl) rfl rfl))) hQC (by kernel_rfl) hF (by decide) (fun a hF => ?_)
  refine e_val (listed' := #[true, true, true, true, false, true, true, true, false, false, false, false, false]) 7 rfl (by kernel_rfl) (by kernel_rfl) (fun _ _ _ h => h) (fun W => (v_fieldAddr hF rfl pf26_0)) hF (by decide) (fun a hF => ?_)
  refine e_valS (listed' := #[true, true, true, true, false, true, true, true, true, false, false, false, false]) 8 rfl (by kernel_rfl) (by kernel_rfl) (fun _ _ _ h => h) (fun W hC => (v_load (cs := A12u64.enc u1.Value) hF rfl pa24 ps24 (cells_sub (vs := A12u64.enc u1.Value) (hC.bc (i := 0) rfl) rfl rfl))) hQC (by kernel_rfl) hF (by decide) (fun a hF => ?_)
  refine e_one (listed' := #[true, true, true, true, true, true, true, true, true, false, false, false, false]) 4 rfl (by kernel_rfl) (by kernel_rfl) ?_
  obtain ⟨x3, hx4, h⟩ := bindS h
  refine sq_call hF pc143 rfl (by decide) (ok_head_Compare k (hS.enter trivial) hx4) (fun v W hR a hF => ?_)
  obtain ⟨rfl, hT5⟩ := hR
  have hS := hS.grow hT5.below
  refine sq_nil (then_j ⟨?_, ?_⟩)
  · exact fun _ _ => hS
  ·
    have hQC : (fun _ => St M w0 [⟨b2, TCube.enc u1, 26⟩, ⟨b1, TCube.enc u0, 26⟩] [] []) W W := hS
    refine e_one (listed' := #[true, true, true, true, true, true, true, true, true, true, false, false, false]) 9 rfl (by kernel_rfl) (by kernel_rfl) ?_
    obtain ⟨x6, hx7, h⟩ := bindS h
    refine sq_call hF pc143 rfl (by decide) (ok_head_Compare k (hS.enter trivial) hx7) (fun v W hR a hF => ?_)
    obtain ⟨rfl, hT8⟩ := hR
    have hS := hS.grow hT8.below
    refine sq_nil (then_j ⟨?_, ?_⟩)
    · exact fun _ _ => hS
    ·
      have hQC : (fun _ => St M w0 [⟨b2, TCube.enc u1, 26⟩, ⟨b1, TCube.enc u0, 26⟩] [] []) W W := hS
      refine e_one (listed' := #[true, true, true, true, true, true, true, true, true, true, true, false, false]) 10 rfl (by kernel_rfl) (by kernel_rfl) ?_
      refine sq_buildSlice (κ := (kInt .i64)) (xs := [.tmp 9, .tmp 14]) (ys := [x3, x6]) hF hS rfl rfl rfl (Els.cons rfl (Els.cons rfl (Els.nil _ _ _))) rfl psl76 pz3 rfl (by decide) (by decide) (by decide) (fun A9 c10 a W hF hS => ?_)
      refine sq_nil (then_j ⟨?_, ?_⟩)
      · exact fun _ _ => (hS.keep (List.Sublist.refl _) (List.nil_sublist _) trivial)
      ·
        have hQC : (fun _ => St M w0 [⟨b2, TCube.enc u1, 26⟩, ⟨b1, TCube.enc u0, 26⟩] [] []) W W := (hS.keep (List.Sublist.refl _) (List.nil_sublist _) trivial)
        refine e_one (listed' := #[true, true, true, true, true, true, true, true, true, true, true, true, false]) 11 rfl (by kernel_rfl) (by kernel_rfl) ?_
        obtain ⟨x11, hx12, h⟩ := bindS h
        refine sq_call hF pc138 rfl (by decide) (ok_cmp_Or_int k ((hS.freeze (i := 0) rfl (posB rfl)).enter ⟨⟨0, rfl⟩, trivial⟩) hx12) (fun v W hR a hF => ?_)
        obtain ⟨rfl, hT13⟩ := hR
        have hS := hS.grow hT13.below
        refine sq_nil (then_j ⟨?_, ?_⟩)
        · exact fun _ _ => (hS.keep (List.Sublist.refl _) (List.nil_sublist _) trivial)
        ·
          have hQC : (fun _ => St M w0 [⟨b2, TCube.enc u1, 26⟩, ⟨b1, TCube.enc u0, 26⟩] [] []) W W := (hS.keep (List.Sublist.refl _) (List.nil_sublist _) trivial)
          refine e_val (listed' := #[true, true, true, true, true, true, true, true, true, true, true, true, true]) 12 rfl (by kernel_rfl) (by kernel_rfl) (fun _ _ _ h => h) (fun W => (v_assign hF rfl)) hF (by decide) (fun a hF => ?_)
          refine e_done (by kernel_rfl) ?_ _
          refine then_n ?_
          refine wp_ret ?_
          obtain rfl := Option.some.inj h
          exact ret1 hF rfl (rv_tmp hF rfl) ⟨_, rfl, rfl, (hS.keep (List.nil_sublist _) (List.nil_sublist _) trivial)⟩

theorem ok_slices_Compact_Cube (k : Nat) {M : Nat → Prop} {w0 : World} {bs : List Box} {rs : List Row} {fs : List Fact} {W0 : World} {u0 : List TCube} {A0_0 : Option Addr} {c0_0 : Nat} {o : List TCube} (hS : St M w0 (bs) (⟨k_TCube, 26, A0_0, c0_0, u0⟩ :: rs) (fs) W0) (h : slices_Compact_Cube k u0 = some o) :
    Calls Try.prog 96 #[.slice A0_0 ((u0).length) c0_0] W0 fun e W' => ∃ v, e = .returned v ∧ (∃ (A81 : Option Addr) (c82 : Nat), v = .slice A81 ((o).length) c82 ∧ St M w0 (bs) (⟨k_TCube, 26, A81, c82, o⟩ :: rs) (fs) W') := by
  unfold slices_Compact_Cube at h
  refine calls_start (args := [.slice A0_0 ((u0).length) c0_0]) Try.func96 rfl rfl (Nat.le_of_ble_eq_true rfl) (fun a hF => ?_)
  refine wp_seq ?_
  refine wp_reg ?_
  refine sq_val (v_assign hF rfl) hF (by decide) (fun a hF => ?_)
  refine sq_nil ?_
  refine then_n ?_
  refine wp_seq ?_
  refine wp_seq ?_
  refine wp_reg ?_
  refine sq_val (v_move hF rfl) hF (by decide) (fun a hF => ?_)
  refine sq_val (v_len hF rfl pu29) hF (by decide) (fun a hF => ?_)
  refine sq_val (v_lss hF rfl rfl) hF (by decide) (fun a hF => ?_)
  refine sq_nil ?_
  refine then_n ?_
  refine wp_if hF rfl (fun he1 => ?_) (fun he1 => ?_)
  ·
    replace h := ifT he1 h
    refine wp_seq ?_
    refine wp_reg ?_
    refine sq_val (v_move hF rfl) hF (by decide) (fun a hF => ?_)
    refine sq_val (v_assign hF rfl) hF (by decide) (fun a hF => ?_)
    refine sq_nil ?_
    refine then_n ?_
    refine wp_ret ?_
    refine then_r ?_
    obtain rfl := Option.some.inj h
    exact ret1 hF rfl (rv_tmp hF rfl) ⟨_, rfl, A0_0, c0_0, rfl, hS⟩
  ·
    replace h := ifF he1 h
    refine wp_skip ?_
    refine then_n ?_
    refine wp_seq ?_
    refine wp_seq ?_
    refine wp_reg ?_
    refine sq_val (v_assign hF rfl) hF (by decide) (fun a hF => ?_)
    refine sq_nil ?_
    refine then_n ?_
    obtain ⟨o4, h, hk5⟩ := bindS h
    refine wp_join (fun a W => Lo.brk () = o4 ∧ FH 61 [(0, .slice A0_0 ((u0).length) c0_0)] a ∧ St M w0 (bs) (⟨k_TCube, 26, A0_0, c0_0, u0⟩ :: rs) (fs) W) (fun a W hJ => ?_) ?_
    ·
      obtain ⟨rfl, hF, hS⟩ := hJ
      have h := hk5
      dsimp only at h
      refine then_n ?_
      refine wp_seq ?_
      refine wp_reg ?_
      refine sq_val (v_move hF rfl) hF (by decide) (fun a hF => ?_)
      refine sq_val (v_assign hF rfl) hF (by decide) (fun a hF => ?_)
      refine sq_nil ?_
      refine then_n ?_
      refine wp_ret ?_
      obtain rfl := Option.some.inj h
      exact ret1 hF rfl (rv_tmp hF rfl) ⟨_, rfl, A0_0, c0_0, rfl, hS⟩
    ·
      refine wp_block ?_
      refine wp_loop_fuel (I := fun m a W => ∃ (x3 : Int), FH 61 [(0, .slice A0_0 ((u0).length) c0_0), (3, .int .i64 (x3))] a ∧ St M w0 (bs) (⟨k_TCube, 26, A0_0, c0_0, u0⟩ :: rs) (fs) W ∧ (slices_Compact_Cube.l0 k u0 m x3) = some o4) ?_ (k := k) ⟨1, (hF.keep ⟨rfl, rfl, trivial⟩), hS, h⟩
      rintro m6 a W ⟨x3, hF, hS, h⟩
      cases m6 with
      | zero => cases h
      | succ m6 =>
        rw [slices_Compact_Cube.l0] at h
        refine wp_seq ?_
        refine wp_seq ?_
        refine wp_reg ?_
        refine sq_val (v_move hF rfl) hF (by decide) (fun a hF => ?_)
        refine sq_val (v_move hF rfl) hF (by decide) (fun a hF => ?_)
        refine sq_val (v_len hF rfl pu29) hF (by decide) (fun a hF => ?_)
        refine sq_val (v_lss hF rfl rfl) hF (by decide) (fun a hF => ?_)
        refine sq_nil ?_
        refine then_n ?_
        refine wp_if hF rfl (fun he7 => ?_) (fun he7 => ?_)
        ·
          replace h := ifT he7 h
          refine wp_skip ?_
          refine then_n ?_
          refine wp_seq ?_
          refine wp_block ?_
          refine wp_seq ?_
          refine wp_quiet rfl (by kernel_rfl) hS ?_
          refine qt_val (fun W hC => (v_move hF rfl)) hF (by decide) (fun a hF => ?_)
          refine qt_val (fun W hC => (v_move hF rfl)) hF (by decide) (fun a hF => ?_)
          obtain ⟨x8, hx9, h⟩ := bindS h
          obtain ⟨p10, cs11, hA12, hc14, hr15⟩ := Row.ok.at (hS.rw_ (i := 0) rfl) hx9
          obtain rfl : cs11 = TCube.enc x8 := hr15
          refine qt_val (fun W hC => (v_idx hF rfl hA12 rfl psl29 hx9)) hF (by decide) (fun a hF => ?_)
          refine qt_val (fun W hC => (v_load (cs := TCube.enc x8) hF rfl pa26 ps26 (hc14.grow hC.1))) hF (by decide) (fun a hF => ?_)
          refine qt_val (fun W hC => (v_move hF rfl)) hF (by decide) (fun a hF => ?_)
          refine qt_val (fun W hC => (v_move hF rfl)) hF (by decide) (fun a hF => ?_)
          refine qt_val (fun W hC => (v_sub hF rfl rfl)) hF (by decide) (fun a hF => ?_)
          obtain ⟨x16, hx17, h⟩ := bindS h
          obtain ⟨p18, cs19, hA20, hc22, hr23⟩ := Row.ok.at (hS.rw_ (i := 0) rfl) hx17
          obtain rfl : cs19 = TCube.enc x16 := hr23
          refine qt_val (fun W hC => (v_idx hF rfl hA20 rfl psl29 hx17)) hF (by decide) (fun a hF => ?_)
          refine qt_val (fun W hC => (v_load (cs := TCube.enc x16) hF rfl pa26 ps26 (hc22.grow hC.1))) hF (by decide) (fun a hF => ?_)
          refine qt_val (fun W hC => (eq26 hF rfl rfl).1) hF (by decide) (fun a hF => ?_)
          refine qt_nil ?_
          intro W hC
          have hS := hC.2
          refine then_n ?_
          refine wp_if hF rfl (fun he24 => ?_) (fun he24 => ?_)
          ·
            replace h := ifT he24 h
            refine wp_seq ?_
            refine wp_reg ?_
            refine sq_val (v_move hF rfl) hF (by decide) (fun a hF => ?_)
            refine sq_val (v_move hF rfl) hF (by decide) (fun a hF => ?_)
            obtain ⟨hb25, h⟩ := ifS h
            refine sq_val (v_view (κ := k_TCube) (lo := x3.toNat) (xs := u0) hF rfl rfl psl29 (.inr ⟨_, _, rfl, by omega, rfl⟩) (by omega) (hS.rw_ (i := 0) rfl).cap) hF (by decide) (fun a hF => ?_)
            refine sq_val (v_assign hF rfl) hF (by decide) (fun a hF => ?_)
            refine sq_nil ?_
            refine then_n ?_
            refine wp_seq ?_
            refine wp_seq ?_
            refine wp_reg ?_
            refine sq_val (v_assign hF rfl) hF (by decide) (fun a hF => ?_)
            refine sq_nil ?_
            refine then_n ?_
            obtain ⟨o36, h, hk37⟩ := bindS h
            refine wp_join (fun a W => ∃ (x34 : List TCube) (x35 : Int), (x34, x35) = o36 ∧ FH 61 [(0, .slice A0_0 ((x34).length) c0_0), (3, .int .i64 (x35))] a ∧ St M w0 (bs) (⟨k_TCube, 26, A0_0, c0_0, x34⟩ :: rs) (fs) W) (fun a W hJ => ?_) ?_
            ·
              obtain ⟨x34, x35, rfl, hF, hS⟩ := hJ
              have h := hk37
              dsimp only at h
              refine then_n ?_
              refine wp_seq ?_
              refine wp_reg ?_
              refine sq_val (v_move hF rfl) hF (by decide) (fun a hF => ?_)
              refine sq_val (v_move hF rfl) hF (by decide) (fun a hF => ?_)
              obtain ⟨hb38, h⟩ := ifS h
              refine sq_val (v_view (κ := k_TCube) (lo := x35.toNat) (xs := x34) hF rfl rfl psl29 (.inr ⟨_, _, rfl, by omega, rfl⟩) (by omega) (hS.rw_ (i := 0) rfl).cap) hF (by decide) (fun a hF => ?_)
              have hcap39 := (hS.rw_ (i := 0) rfl).cap
              refine sq_clearV (lo := x35.toNat) hF hS (i := 0) rfl rfl rfl (by omega) psl29 pz26 rfl (TCube.enc_one _) (posB rfl) (fun W hS => ?_)
              refine sq_nil ?_
              refine then_n ?_
              refine wp_seq ?_
              refine wp_reg ?_
              refine sq_val (v_move hF rfl) hF (by decide) (fun a hF => ?_)
              refine sq_val (v_move hF rfl) hF (by decide) (fun a hF => ?_)
              refine sq_val (v_cutL (κ := k_TCube) (ys := (x34.take x35.toNat)) (k := x35.toNat) hF rfl rfl psl29 (.inr ⟨_, _, rfl, by omega, rfl⟩) (by omega) hcap39 (by rw [List.length_take]; omega)) hF (by decide) (fun a hF => ?_)
              refine sq_val (v_assign hF rfl) hF (by decide) (fun a hF => ?_)
              refine sq_nil ?_
              refine then_n ?_
              refine wp_ret ?_
              refine blk_r ?_
              refine then_r ?_
              refine then_r ?_
              refine blk_r ?_
              refine then_r ?_
              refine then_r ?_
              obtain rfl := Option.some.inj h
              have h := hk5
              dsimp only at h
              obtain rfl := Option.some.inj h
              exact ret1 hF rfl (rv_tmp hF rfl) ⟨_, rfl, A0_0, c0_0, rfl, hS⟩
            ·
              refine wp_block ?_
              refine wp_loop_fuel (I := fun m a W => ∃ (x31 : List TCube) (x32 : Int) (x33 : Int), FH 61 [(0, .slice A0_0 ((x31).length) c0_0), (3, .int .i64 (x32)), (4, .slice (vw A0_0 c0_0 x3.toNat 24) (x31.length - x3.toNat) (c0_0 - x3.toNat)), (5, .int .i64 (x33))] a ∧ St M w0 (bs) (⟨k_TCube, 26, A0_0, c0_0, x31⟩ :: rs) (fs) W ∧ (slices_Compact_Cube.l1 k x3 m x31 x32 x33) = some o36) ?_ (k := k) ⟨u0, x3, 1, (hF.keep ⟨rfl, rfl, rfl, rfl, trivial⟩), hS, h⟩
              rintro m40 a W ⟨x31, x32, x33, hF, hS, h⟩
              cases m40 with
              | zero => cases h
              | succ m40 =>
                rw [slices_Compact_Cube.l1] at h
                refine wp_seq ?_
                refine wp_seq ?_
                refine wp_reg ?_
                refine sq_val (v_move hF rfl) hF (by decide) (fun a hF => ?_)
                refine sq_val (v_move hF rfl) hF (by decide) (fun a hF => ?_)
                refine sq_val (v_len hF rfl pu29) hF (by decide) (fun a hF => ?_)
                refine sq_val (v_lss hF rfl rfl) hF (by decide) (fun a hF => ?_)
                refine sq_nil ?_
                refine then_n ?_
                refine wp_if hF rfl (fun he41 => ?_) (fun he41 => ?_)
                ·
                  replace h := ifT he41 h
                  refine wp_skip ?_
                  refine then_n ?_
                  refine wp_seq ?_
                  obtain ⟨o44, h, hk45⟩ := bindS h
                  refine wp_join (fun a W => ∃ (x42 : List TCube) (x43 : Int), (x42, x43) = o44 ∧ FH 61 [(0, .slice A0_0 ((x42).length) c0_0), (3, .int .i64 (x43)), (4, .slice (vw A0_0 c0_0 x3.toNat 24) (x42.length - x3.toNat) (c0_0 - x3.toNat)), (5, .int .i64 (x33))] a ∧ St M w0 (bs) (⟨k_TCube, 26, A0_0, c0_0, x42⟩ :: rs) (fs) W) (fun a W hJ => ?_) ?_
                  ·
                    obtain ⟨x42, x43, rfl, hF, hS⟩ := hJ
                    have h := hk45
                    dsimp only at h
                    refine then_n ?_
                    refine wp_reg ?_
                    refine sq_val (v_move hF rfl) hF (by decide) (fun a hF => ?_)
                    refine sq_val (v_add hF rfl rfl) hF (by decide) (fun a hF => ?_)
                    refine sq_val (v_assign hF rfl) hF (by decide) (fun a hF => ?_)
                    refine sq_nil ?_
                    exact then_j ⟨m40, Nat.lt_succ_self _, x42, x43, (IntKind.i64.wrap (x33 + 1)), (hF.keep ⟨rfl, rfl, rfl, rfl, trivial⟩), hS, h⟩
                  ·
                    refine wp_block ?_
                    refine wp_seq ?_
                    refine wp_quiet rfl (by kernel_rfl) hS ?_
                    refine qt_val (fun W hC => (v_move hF rfl)) hF (by decide) (fun a hF => ?_)
                    refine qt_val (fun W hC => (v_move hF rfl)) hF (by decide) (fun a hF => ?_)
                    obtain ⟨x46, hx47, h⟩ := bindS h
                    obtain ⟨p48, cs49, hA50, hc52, hr53⟩ := Row.ok.at (hS.rw_ (i := 0) rfl) (idx_drop hx47)
                    obtain rfl : cs49 = TCube.enc x46 := hr53
                    refine qt_val (fun W hC => (v_idxV hF rfl hA50 rfl psl29 hx47 rfl (hS.rw_ (i := 0) rfl).cap)) hF (by decide) (fun a hF => ?_)
                    refine qt_val (fun W hC => (v_load (cs := TCube.enc x46) hF rfl pa26 ps26 (hc52.grow hC.1))) hF (by decide) (fun a hF => ?_)
                    refine qt_val (fun W hC => (v_move hF rfl)) hF (by decide) (fun a hF => ?_)
                    refine qt_val (fun W hC => (v_move hF rfl)) hF (by decide) (fun a hF => ?_)
                    refine qt_val (fun W hC => (v_sub hF rfl rfl)) hF (by decide) (fun a hF => ?_)
                    obtain ⟨x54, hx55, h⟩ := bindS h
                    obtain ⟨p56, cs57, hA58, hc60, hr61⟩ := Row.ok.at (hS.rw_ (i := 0) rfl) (idx_drop hx55)
                    obtain rfl : cs57 = TCube.enc x54 := hr61
                    refine qt_val (fun W hC => (v_idxV hF rfl hA58 rfl psl29 hx55 rfl (hS.rw_ (i := 0) rfl).cap)) hF (by decide) (fun a hF => ?_)
                    refine qt_val (fun W hC => (v_load (cs := TCube.enc x54) hF rfl pa26 ps26 (hc60.grow hC.1))) hF (by decide) (fun a hF => ?_)
                    refine qt_val (fun W hC => (eq26 hF rfl rfl).2) hF (by decide) (fun a hF => ?_)
                    refine qt_nil ?_
                    intro W hC
                    have hS := hC.2
                    refine then_n ?_
                    obtain ⟨o64, h, hk65⟩ := bindS h
                    refine wp_join (fun a W => ∃ (x62 : List TCube) (x63 : Int), (x62, x63) = o64 ∧ FH 61 [(0, .slice A0_0 ((x62).length) c0_0), (3, .int .i64 (x63)), (4, .slice (vw A0_0 c0_0 x3.toNat 24) (x62.length - x3.toNat) (c0_0 - x3.toNat)), (5, .int .i64 (x33))] a ∧ St M w0 (bs) (⟨k_TCube, 26, A0_0, c0_0, x62⟩ :: rs) (fs) W) (fun a W hJ => ?_) ?_
                    ·
                      obtain ⟨x62, x63, rfl, hF, hS⟩ := hJ
                      have h := hk65
                      dsimp only at h
                      refine blk_n ?_
                      obtain rfl := Option.some.inj h
                      exact then_j ⟨x62, x63, rfl, (hF.keep ⟨rfl, rfl, rfl, rfl, trivial⟩), hS⟩
                    ·
                      refine wp_if hF rfl (fun he66 => ?_) (fun he66 => ?_)
                      ·
                        replace h := ifT he66 h
                        refine wp_seq ?_
                        refine wp_reg ?_
                        refine sq_val (v_move hF rfl) hF (by decide) (fun a hF => ?_)
                        refine sq_val (v_move hF rfl) hF (by decide) (fun a hF => ?_)
                        refine sq_val (v_move hF rfl) hF (by decide) (fun a hF => ?_)
                        refine sq_val (v_move hF rfl) hF (by decide) (fun a hF => ?_)
                        obtain ⟨p67, cs68, hA69, hc71, hr72⟩ := Row.ok.at (hS.rw_ (i := 0) rfl) (idx_drop hx47)
                        obtain rfl : cs68 = TCube.enc x46 := hr72
                        refine sq_val (v_idxV hF rfl hA69 rfl psl29 hx47 rfl (hS.rw_ (i := 0) rfl).cap) hF (by decide) (fun a hF => ?_)
                        refine sq_val (v_load (cs := TCube.enc x46) hF rfl pa26 ps26 hc71) hF (by decide) (fun a hF => ?_)
                        obtain ⟨x73, hx74, h⟩ := bindS h
                        obtain ⟨p75, cs76, hA77, hc79, hr80⟩ := Row.ok.at (hS.rw_ (i := 0) rfl) hx74
                        obtain rfl : cs76 = TCube.enc x73 := hr80
                        refine sq_val (v_idx hF rfl hA77 rfl psl29 hx74) hF (by decide) (fun a hF => ?_)
                        refine sq_storeEl hF hS (i := 0) rfl hA77 rfl hx74 rfl rfl ps26 rfl (fun W hS => ?_)
                        have hF : FH 61 [(0, .slice A0_0 (((x31.set x32.toNat x46)).length) c0_0), (3, .int .i64 (x32)), (4, .slice (vw A0_0 c0_0 x3.toNat 24) ((x31.set x32.toNat x46).length - x3.toNat) (c0_0 - x3.toNat)), (5, .int .i64 (x33)), (29, .int .i64 (x33)), (30, .slice (vw A0_0 c0_0 x3.toNat 24) ((x31.set x32.toNat x46).length - x3.toNat) (c0_0 - x3.toNat)), (31, .int .i64 (((x31.length - x3.toNat : Nat) : Int))), (32, .bool ((decide (x33 < ((x31.length - x3.toNat : Nat) : Int))))), (35, .slice (vw A0_0 c0_0 x3.toNat 24) ((x31.set x32.toNat x46).length - x3.toNat) (c0_0 - x3.toNat)), (36, .int .i64 (x33)), (38, .agg (TCube.enc x46).toArray), (39, .slice (vw A0_0 c0_0 x3.toNat 24) ((x31.set x32.toNat x46).length - x3.toNat) (c0_0 - x3.toNat)), (40, .int .i64 (x33)), (41, .int .i64 ((IntKind.i64.wrap (x33 - 1)))), (43, .agg (TCube.enc x54).toArray), (44, .bool ((!(cellsEq (TCube.enc x46) (TCube.enc x54))))), (45, .slice A0_0 (((x31.set x32.toNat x46)).length) c0_0), (46, .int .i64 (x32)), (47, .slice (vw A0_0 c0_0 x3.toNat 24) ((x31.set x32.toNat x46).length - x3.toNat) (c0_0 - x3.toNat)), (48, .int .i64 (x33)), (50, .agg (TCube.enc x46).toArray)] a := (hF.keep ⟨(by simp only [List.length_set] <;> rfl), rfl, (by simp only [List.length_set] <;> rfl), rfl, rfl, (by simp only [List.length_set] <;> rfl), rfl, rfl, (by simp only [List.length_set] <;> rfl), rfl, rfl, (by simp only [List.length_set] <;> rfl), rfl, rfl, rfl, rfl, (by simp only [List.length_set] <;> rfl), rfl, (by simp only [List.length_set] <;> rfl), rfl, rfl, trivial⟩)
                        refine sq_nil ?_
                        refine then_n ?_
                        refine wp_reg ?_
                        refine sq_val (v_move hF rfl) hF (by decide) (fun a hF => ?_)
                        refine sq_val (v_add hF rfl rfl) hF (by decide) (fun a hF => ?_)
                        refine sq_val (v_assign hF rfl) hF (by decide) (fun a hF => ?_)
                        refine sq_nil ?_
                        obtain rfl := Option.some.inj h
                        exact then_j ⟨(x31.set x32.toNat x46), (IntKind.i64.wrap (x32 + 1)), rfl, (hF.keep ⟨rfl, rfl, rfl, rfl, trivial⟩), hS⟩
                      ·
                        replace h := ifF he66 h
                        refine wp_skip ?_
                        obtain rfl := Option.some.inj h
                        exact then_j ⟨x31, x32, rfl, (hF.keep ⟨rfl, rfl, rfl, rfl, trivial⟩), hS⟩
                ·
                  replace h := ifF he41 h
                  refine wp_exit ?_
                  refine then_x ?_
                  refine then_x ?_
                  refine blk_hit ?_
                  obtain rfl := Option.some.inj h
                  exact then_j ⟨x31, x32, rfl, (hF.keep ⟨rfl, rfl, trivial⟩), hS⟩
          ·
            replace h := ifF he24 h
            refine wp_skip ?_
            refine blk_n ?_
            refine then_n ?_
            refine wp_reg ?_
            refine sq_val (v_move hF rfl) hF (by decide) (fun a hF => ?_)
            refine sq_val (v_add hF rfl rfl) hF (by decide) (fun a hF => ?_)
            refine sq_val (v_assign hF rfl) hF (by decide) (fun a hF => ?_)
            refine sq_nil ?_
            exact then_j ⟨m6, Nat.lt_succ_self _, (IntKind.i64.wrap (x3 + 1)), (hF.keep ⟨rfl, rfl, trivial⟩), hS, h⟩
        ·
          replace h := ifF he7 h
          refine wp_exit ?_
          refine then_x ?_
          refine then_x ?_
          refine blk_hit ?_
          obtain rfl := Option.some.inj h
          exact then_j ⟨rfl, (hF.keep ⟨rfl, trivial⟩), hS⟩

theorem ok_space_wider (k : Nat) {M : Nat → Prop} {w0 : World} {u0 : TCube} {u1 : TCube} {o : Bool} (hS : St M w0 [] [] [] w0) (h : space_wider k u0 u1 = some o) :
    Calls Try.prog 98 #[.agg (TCube.enc u0).toArray, .agg (TCube.enc u1).toArray] w0 fun e W' => ∃ v, e = .returned v ∧ (v = .bool (o) ∧ St M w0 [] [] [] W') := by
  unfold space_wider at h
  refine calls_start (args := [.agg (TCube.enc u0).toArray, .agg (TCube.enc u1).toArray]) Try.func98 rfl rfl (Nat.le_of_ble_eq_true rfl) (fun a hF => ?_)
  refine wp_seq ?_
  refine wp_reg ?_
  refine sq_box hF hS rfl rfl (by decide) (fun b1 a W hF hS => ?_)
  refine sq_box hF hS rfl rfl (by decide) (fun b2 a W hF hS => ?_)
  refine sq_val (v_assign hF rfl) hF (by decide) (fun a hF => ?_)
  refine sq_nil ?_
  refine then_n ?_
  refine wp_seq ?_
  refine wp_seq ?_
  refine wp_reg ?_
  refine sq_val (v_fieldAddr hF rfl pf26_1) hF (by decide) (fun a hF => ?_)
  refine sq_val (v_load (cs := A12u64.enc u0.Care) hF rfl pa24 ps24 (cells_sub (vs := A12u64.enc u0.Care) (hS.bc (i := 1) rfl) rfl rfl)) hF (by decide) (fun a hF => ?_)
  refine sq_val (v_move hF rfl) hF (by decide) (fun a hF => ?_)
  refine sq_nil ?_
  refine then_n ?_
  obtain ⟨o5, h, hk6⟩ := bindS h
  refine wp_join (fun a W => Lo.brk () = o5 ∧ FH 35 [] a ∧ St M w0 [] [] [] W) (fun a W hJ => ?_) ?_
  ·
    obtain ⟨rfl, hF, hS⟩ := hJ
    have h := hk6
    dsimp only at h
    refine then_n ?_
    refine wp_seq ?_
    refine wp_reg ?_
    refine sq_val (v_assign hF rfl) hF (by decide) (fun a hF => ?_)
    refine sq_nil ?_
    refine then_n ?_
    refine wp_ret ?_
    obtain rfl := Option.some.inj h
    exact ret1 hF rfl (rv_tmp hF rfl) ⟨_, rfl, rfl, hS⟩
  ·
    refine wp_block ?_
    refine wp_loop_fuel (I := fun m a W => ∃ (x4 : Int), FH 35 [(2, .pointer (some (⟨b1, 0, none⟩))), (3, .pointer (some (⟨b2, 0, none⟩))), (8, .agg (A12u64.enc u0.Care).toArray), (9, .int .i64 (x4))] a ∧ St M w0 [⟨b2, TCube.enc u1, 26⟩, ⟨b1, TCube.enc u0, 26⟩] [] [] W ∧ (space_wider.l0 k u0 u1 m x4) = some o5) ?_ (k := k) ⟨0, (hF.keep ⟨rfl, rfl, rfl, rfl, trivial⟩), hS, h⟩
    rintro m7 a W ⟨x4, hF, hS, h⟩
    cases m7 with
    | zero => cases h
    | succ m7 =>
      rw [space_wider.l0] at h
      refine wp_seq ?_
      refine wp_reg ?_
      refine sq_val (v_lss hF rfl rfl) hF (by decide) (fun a hF => ?_)
      refine sq_nil ?_
      refine then_n ?_
      refine wp_seq ?_
      refine wp_if hF rfl (fun he8 => ?_) (fun he8 => ?_)
      ·
        replace h := ifT he8 h
        refine wp_skip ?_
        refine then_n ?_
        refine wp_seq ?_
        refine wp_block ?_
        refine wp_seq ?_
        refine wp_reg ?_
        refine sq_val (v_move hF rfl) hF (by decide) (fun a hF => ?_)
        obtain ⟨hb9, h⟩ := ifS h
        refine sq_val (v_index1 hF rfl rfl par24 pa22 hb9.1 hb9.2 (cell1 (A12u64.get u0.Care x4 hb9.1 hb9.2))) hF (by decide) (fun a hF => ?_)
        refine sq_val (v_assign hF rfl) hF (by decide) (fun a hF => ?_)
        refine sq_val (v_assign hF rfl) hF (by decide) (fun a hF => ?_)
        refine sq_nil ?_
        refine then_n ?_
        refine wp_seq ?_
        refine wp_quiet rfl (by kernel_rfl) hS ?_
        refine qt_val (fun W hC => (v_move hF rfl)) hF (by decide) (fun a hF => ?_)
        refine qt_val (fun W hC => (v_move hF rfl)) hF (by decide) (fun a hF => ?_)
        refine qt_val (fun W hC => (v_fieldAddr hF rfl pf26_1)) hF (by decide) (fun a hF => ?_)
        refine qt_val (fun W hC => (v_indexAddr hF rfl rfl par24 hb9.1 hb9.2)) hF (by decide) (fun a hF => ?_)
        refine qt_val (fun W hC => (v_load1 hF rfl pa22 (cells_sub (vs := [.int .u64 ((u1.Care.at x4))]) (hC.2.bc (i := 0) rfl) (add_add _ _ _) (TCube.get_Care u1 x4 hb9.1 hb9.2)))) hF (by decide) (fun a hF => ?_)
        refine qt_val (fun W hC => (v_andNot hF rfl rfl)) hF (by decide) (fun a hF => ?_)
        refine qt_val (fun W hC => (v_neq hF rfl rfl)) hF (by decide) (fun a hF => ?_)
        refine qt_val (fun W hC => (v_move hF rfl)) hF (by decide) (fun a hF => ?_)
        refine qt_cut 13 (fun a => FH 35 [(2, .pointer (some (⟨b1, 0, none⟩))), (3, .pointer (some (⟨b2, 0, none⟩))), (8, .agg (A12u64.enc u0.Care).toArray), (9, .int .i64 (x4)), (33, .bool (((bAndNot .u64 (u0.Care.at x4) (u1.Care.at x4)) != 0) || ((bAnd .u64 (bXor .u64 (u1.Value.at x4) (u0.Value.at x4)) (u0.Care.at x4)) != 0)))] a) (fun a hF => ?_) ?_
        ·
          refine qt_nil ?_
          intro W hC
          have hS := hC.2
          refine then_n ?_
          refine wp_if hF rfl (fun he11 => ?_) (fun he11 => ?_)
          ·
            replace h := ifT he11 h
            refine wp_seq ?_
            refine wp_reg ?_
            refine sq_val (v_assign hF rfl) hF (by decide) (fun a hF => ?_)
            refine sq_nil ?_
            refine then_n ?_
            refine wp_ret ?_
            refine blk_r ?_
            refine then_r ?_
            refine then_r ?_
            refine blk_r ?_
            refine then_r ?_
            refine then_r ?_
            obtain rfl := Option.some.inj h
            have h := hk6
            dsimp only at h
            obtain rfl := Option.some.inj h
            exact ret1 hF rfl (rv_tmp hF rfl) ⟨_, rfl, rfl, (hS.keep (List.nil_sublist _) (List.Sublist.refl _) trivial)⟩
          ·
            replace h := ifF he11 h
            refine wp_skip ?_
            refine blk_n ?_
            refine then_n ?_
            refine wp_reg ?_
            refine sq_val (v_add hF rfl rfl) hF (by decide) (fun a hF => ?_)
            refine sq_val (v_move hF rfl) hF (by decide) (fun a hF => ?_)
            refine sq_nil ?_
            exact then_j ⟨m7, Nat.lt_succ_self _, (IntKind.i64.wrap (x4 + 1)), (hF.keep ⟨rfl, rfl, rfl, rfl, trivial⟩), hS, h⟩
        ·
          by_cases he10 : ((bAndNot .u64 (u0.Care.at x4) (u1.Care.at x4)) != 0) = true
          ·
            refine qt_no hF rfl rfl he10 (by decide) (fun a hF => ?_)
            refine qt_no hF rfl rfl he10 (by decide) (fun a hF => ?_)
            refine qt_no hF rfl rfl he10 (by decide) (fun a hF => ?_)
            refine qt_no hF rfl rfl he10 (by decide) (fun a hF => ?_)
            refine qt_no hF rfl rfl he10 (by decide) (fun a hF => ?_)
            refine qt_no hF rfl rfl he10 (by decide) (fun a hF => ?_)
            refine qt_no hF rfl rfl he10 (by decide) (fun a hF => ?_)
            refine qt_no hF rfl rfl he10 (by decide) (fun a hF => ?_)
            refine qt_no hF rfl rfl he10 (by decide) (fun a hF => ?_)
            refine qt_no hF rfl rfl he10 (by decide) (fun a hF => ?_)
            refine qt_no hF rfl rfl he10 (by decide) (fun a hF => ?_)
            refine qt_no hF rfl rfl he10 (by decide) (fun a hF => ?_)
            refine qt_val (fun W hC => (v_pick_t hF rfl he10 rfl)) hF (by decide) (fun a hF => ?_)
            exact qt_nil (hF.keep ⟨rfl, rfl, rfl, rfl, (boolV (or_t he10)), trivial⟩)
          ·
            have he10 : ((bAndNot .u64 (u0.Care.at x4) (u1.Care.at x4)) != 0) = false := nB he10
            refine qt_yes hF rfl rfl he10 ?_
            refine qt_val (fun W hC => (v_move hF rfl)) hF (by decide) (fun a hF => ?_)
            refine qt_yes hF rfl rfl he10 ?_
            refine qt_val (fun W hC => (v_fieldAddr hF rfl pf26_0)) hF (by decide) (fun a hF => ?_)
            refine qt_yes hF rfl rfl he10 ?_
            refine qt_val (fun W hC => (v_indexAddr hF rfl rfl par24 hb9.1 hb9.2)) hF (by decide) (fun a hF => ?_)
            refine qt_yes hF rfl rfl he10 ?_
            refine qt_val (fun W hC => (v_load1 hF rfl pa22 (cells_sub (vs := [.int .u64 ((u1.Value.at x4))]) (hC.2.bc (i := 0) rfl) (add_add _ _ _) (TCube.get_Value u1 x4 hb9.1 hb9.2)))) hF (by decide) (fun a hF => ?_)
            refine qt_yes hF rfl rfl he10 ?_
            refine qt_val (fun W hC => (v_move hF rfl)) hF (by decide) (fun a hF => ?_)
            refine qt_yes hF rfl rfl he10 ?_
            refine qt_val (fun W hC => (v_fieldAddr hF rfl pf26_0)) hF (by decide) (fun a hF => ?_)
            refine qt_yes hF rfl rfl he10 ?_
            refine qt_val (fun W hC => (v_indexAddr hF rfl rfl par24 hb9.1 hb9.2)) hF (by decide) (fun a hF => ?_)
            refine qt_yes hF rfl rfl he10 ?_
            refine qt_val (fun W hC => (v_load1 hF rfl pa22 (cells_sub (vs := [.int .u64 ((u0.Value.at x4))]) (hC.2.bc (i := 1) rfl) (add_add _ _ _) (TCube.get_Value u0 x4 hb9.1 hb9.2)))) hF (by decide) (fun a hF => ?_)
            refine qt_yes hF rfl rfl he10 ?_
            refine qt_val (fun W hC => (v_xor hF rfl rfl)) hF (by decide) (fun a hF => ?_)
            refine qt_yes hF rfl rfl he10 ?_
            refine qt_val (fun W hC => (v_move hF rfl)) hF (by decide) (fun a hF => ?_)
            refine qt_yes hF rfl rfl he10 ?_
            refine qt_val (fun W hC => (v_and hF rfl rfl)) hF (by decide) (fun a hF => ?_)
            refine qt_yes hF rfl rfl he10 ?_
            refine qt_val (fun W hC => (v_neq hF rfl rfl)) hF (by decide) (fun a hF => ?_)
            refine qt_val (fun W hC => (v_pick_f hF rfl he10 rfl)) hF (by decide) (fun a hF => ?_)
            exact qt_nil (hF.keep ⟨rfl, rfl, rfl, rfl, (boolV (or_f he10)), trivial⟩)
      ·
        replace h := ifF he8 h
        refine wp_exit ?_
        refine then_x ?_
        refine then_x ?_
        refine blk_hit ?_
        obtain rfl := Option.some.inj h
        exact then_j ⟨rfl, (hF.keep trivial), (hS.keep (List.nil_sublist _) (List.Sublist.refl _) trivial)⟩
end Go.Proofs.Ytangebngeeamoaa
