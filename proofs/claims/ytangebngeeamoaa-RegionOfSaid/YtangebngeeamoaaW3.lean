/- What calls of the Go functions come to. -/
import Derived.Test.YtangebngeeamoaaW2
set_option linter.unusedVariables false
set_option linter.unusedSimpArgs false
set_option maxRecDepth 100000
set_option maxHeartbeats 4000000
namespace Go.Proofs.Ytangebngeeamoaa
open Go.RowKit Go.Pod
theorem ok_ref01_Text (k : Nat) {M : Nat → Prop} {w0 : World} {u0 : TCube} {o : ByteArray × Bool} (hS : St M w0 [] [] [] w0) (h : ref01_Text k u0 = some o) :
    Calls Try.prog 55 #[.agg (TCube.enc u0).toArray] w0 fun e W' => ∃ v, e = .returned v ∧ (v = .tuple #[.string (o.1), .bool (o.2)] ∧ St M w0 [] [] [] W') := by
  unfold ref01_Text at h
  refine calls_start (args := [.agg (TCube.enc u0).toArray]) Try.func55 rfl rfl (Nat.le_of_ble_eq_true rfl) (fun a hF => ?_)
  refine wp_seq ?_
  refine wp_reg ?_
  refine sq_box hF hS rfl rfl (by decide) (fun b1 a W hF hS => ?_)
  refine sq_val (v_assign hF rfl) hF (by decide) (fun a hF => ?_)
  refine sq_val (v_assign hF rfl) hF (by decide) (fun a hF => ?_)
  refine sq_nil ?_
  refine then_n ?_
  refine wp_seq ?_
  refine wp_reg ?_
  refine sq_val (v_assign hF rfl) hF (by decide) (fun a hF => ?_)
  refine sq_nil ?_
  refine then_n ?_
  refine wp_seq ?_
  refine wp_reg ?_
  refine sq_val (v_fieldAddr hF rfl pf26_1) hF (by decide) (fun a hF => ?_)
  refine sq_val (v_load (cs := A12u64.enc u0.Care) hF rfl pa24 ps24 (cells_sub (vs := A12u64.enc u0.Care) (hS.bc (i := 0) rfl) rfl rfl)) hF (by decide) (fun a hF => ?_)
  obtain ⟨x2, hx3, h⟩ := bindS h
  refine sq_call hF pc61 rfl (by decide) (ok_ref01_Head k (hS.enter trivial) hx3) (fun v W hR a hF => ?_)
  obtain ⟨rfl, hT4⟩ := hR
  have hS := hS.grow hT4.below
  refine sq_val (v_assign hF rfl) hF (by decide) (fun a hF => ?_)
  refine sq_nil ?_
  refine then_n ?_
  refine wp_seq ?_
  refine wp_seq ?_
  refine wp_reg ?_
  refine sq_val (v_assign hF rfl) hF (by decide) (fun a hF => ?_)
  refine sq_nil ?_
  refine then_n ?_
  obtain ⟨o19, h, hk20⟩ := bindS h
  refine wp_join (fun a W => ∃ (x15 : List Int) (x18 : Bool) (A16 : Option Addr) (c17 : Nat), (x15, x18) = o19 ∧ FH 70 [(4, .slice A16 ((x15).length) c17), (5, .bool (x18))] a ∧ St M w0 [] [⟨(kInt .u8), 5, A16, c17, x15⟩] [] W) (fun a W hJ => ?_) ?_
  ·
   obtain ⟨x15, x18, A16, c17, rfl, hF, hS⟩ := hJ
   have h := hk20
   dsimp only at h
   refine then_n ?_
   refine wp_seq ?_
   refine wp_reg ?_
   refine sq_val (v_move hF rfl) hF (by decide) (fun a hF => ?_)
   refine sq_val (v_toStr hF rfl (hS.rw_ (i := 0) rfl).src pu82 pu5 pu9) hF (by decide) (fun a hF => ?_)
   refine sq_val (v_move hF rfl) hF (by decide) (fun a hF => ?_)
   refine sq_val (v_assign hF rfl) hF (by decide) (fun a hF => ?_)
   refine sq_val (v_assign hF rfl) hF (by decide) (fun a hF => ?_)
   refine sq_nil ?_
   refine then_n ?_
   refine wp_ret ?_
   obtain rfl := Option.some.inj h
   exact ret2 hF rfl (rv_tmp hF rfl) (rv_tmp hF rfl) ⟨_, rfl, rfl, (hS.keep (List.Sublist.refl _) (List.nil_sublist _) trivial)⟩
  ·
   have hS := hS.addNil (kInt .u8) 5
   refine wp_block ?_
   refine wp_loop_fuel (I := fun m a W => ∃ (x10 : List Int) (x13 : Bool) (x14 : Int) (A11 : Option Addr) (c12 : Nat), FH 70 [(1, .pointer (some (⟨b1, 0, none⟩))), (4, .slice A11 ((x10).length) c12), (5, .bool (x13)), (6, .int .i64 (x14))] a ∧ St M w0 [⟨b1, TCube.enc u0, 26⟩] [⟨(kInt .u8), 5, A11, c12, x10⟩] [] W ∧ (ref01_Text.l0 k u0 m x10 x13 x14) = some o19) ?_ (k := k) ⟨([]), x2, 0, none, 0, (hF.keep ⟨rfl, rfl, rfl, rfl, trivial⟩), hS, h⟩
   rintro m21 a W ⟨x10, x13, x14, A11, c12, hF, hS, h⟩
   cases m21 with
   | zero => cases h
   | succ m21 =>
    rw [ref01_Text.l0] at h
    refine wp_seq ?_
    refine wp_seq ?_
    refine wp_reg ?_
    refine sq_val (v_move hF rfl) hF (by decide) (fun a hF => ?_)
    refine sq_val (v_lss hF rfl rfl) hF (by decide) (fun a hF => ?_)
    refine sq_nil ?_
    refine then_n ?_
    refine wp_if hF rfl (fun he22 => ?_) (fun he22 => ?_)
    ·
     replace h := ifT he22 h
     refine wp_skip ?_
     refine then_n ?_
     refine wp_seq ?_
     refine wp_block ?_
     refine wp_seq ?_
     refine wp_seq ?_
     refine wp_quiet rfl (by kernel_rfl) hS ?_
     refine qt_val (fun W hC => (v_move hF rfl)) hF (by decide) (fun a hF => ?_)
     refine qt_val (fun W hC => (v_fieldAddr hF rfl pf26_0)) hF (by decide) (fun a hF => ?_)
     obtain ⟨hb23, h⟩ := ifS h
     refine qt_val (fun W hC => (v_indexAddr hF rfl rfl par24 hb23.1 hb23.2)) hF (by decide) (fun a hF => ?_)
     refine qt_val (fun W hC => (v_load1 hF rfl pa22 (cells_sub (vs := [.int .u64 ((u0.Value.at x14))]) (hC.2.bc (i := 0) rfl) (add_add _ _ _) (TCube.get_Value u0 x14 hb23.1 hb23.2)))) hF (by decide) (fun a hF => ?_)
     refine qt_val (fun W hC => (v_move hF rfl)) hF (by decide) (fun a hF => ?_)
     refine qt_val (fun W hC => (v_fieldAddr hF rfl pf26_1)) hF (by decide) (fun a hF => ?_)
     refine qt_val (fun W hC => (v_indexAddr hF rfl rfl par24 hb23.1 hb23.2)) hF (by decide) (fun a hF => ?_)
     refine qt_val (fun W hC => (v_load1 hF rfl pa22 (cells_sub (vs := [.int .u64 ((u0.Care.at x14))]) (hC.2.bc (i := 0) rfl) (add_add _ _ _) (TCube.get_Care u0 x14 hb23.1 hb23.2)))) hF (by decide) (fun a hF => ?_)
     refine qt_val (fun W hC => (v_andNot hF rfl rfl)) hF (by decide) (fun a hF => ?_)
     refine qt_val (fun W hC => (v_neq hF rfl rfl)) hF (by decide) (fun a hF => ?_)
     refine qt_nil ?_
     intro W hC
     have hS := hC.2
     refine then_n ?_
     obtain ⟨o25, h, hk26⟩ := bindS h
     refine wp_join (fun a W => ∃ (x24 : Bool), x24 = o25 ∧ FH 70 [(1, .pointer (some (⟨b1, 0, none⟩))), (4, .slice A11 ((x10).length) c12), (5, .bool (x24)), (6, .int .i64 (x14))] a ∧ St M w0 [⟨b1, TCube.enc u0, 26⟩] [⟨(kInt .u8), 5, A11, c12, x10⟩] [] W) (fun a W hJ => ?_) ?_
     ·
      obtain ⟨x24, rfl, hF, hS⟩ := hJ
      have h := hk26
      refine then_n ?_
      refine wp_seq ?_
      refine wp_drawn (QC M w0 [⟨b1, TCube.enc u0, 26⟩] [⟨(kInt .u8), 5, A11, c12, x10⟩] []) (fun _ => false) rfl hS (fun W hB0 hR0 => ?_)
      have hS := hR0
      have hQC : (QC M w0 [⟨b1, TCube.enc u0, 26⟩] [⟨(kInt .u8), 5, A11, c12, x10⟩] []) W W := ⟨Bl.refl _ _, hS⟩
      refine e_val (listed' := #[true, false, false, false, false, false, false, false, false, false, false, false, false, false, false, false]) 0 rfl (by kernel_rfl) (by kernel_rfl) (fun _ _ _ h => h) (fun W => (v_move hF rfl)) hF (by decide) (fun a hF => ?_)
      refine e_val (listed' := #[true, true, false, false, false, false, false, false, false, false, false, false, false, false, false, false]) 1 rfl (by kernel_rfl) (by kernel_rfl) (fun _ _ _ h => h) (fun W => (v_fieldAddr hF rfl pf26_0)) hF (by decide) (fun a hF => ?_)
      refine e_val (listed' := #[true, true, true, false, false, false, false, false, false, false, false, false, false, false, false, false]) 2 rfl (by kernel_rfl) (by kernel_rfl) (fun _ _ _ h => h) (fun W => (v_indexAddr hF rfl rfl par24 hb23.1 hb23.2)) hF (by decide) (fun a hF => ?_)
      refine e_valS (listed' := #[true, true, true, true, false, false, false, false, false, false, false, false, false, false, false, false]) 3 rfl (by kernel_rfl) (by kernel_rfl) (fun _ _ _ h => h) (fun W hC => (v_load1 hF rfl pa22 (cells_sub (vs := [.int .u64 ((u0.Value.at x14))]) (hC.2.bc (i := 0) rfl) (add_add _ _ _) (TCube.get_Value u0 x14 hb23.1 hb23.2)))) hQC (by kernel_rfl) hF (by decide) (fun a hF => ?_)
      refine e_val (listed' := #[true, true, true, true, true, false, false, false, false, false, false, false, false, false, false, false]) 4 rfl (by kernel_rfl) (by kernel_rfl) (fun _ _ _ h => h) (fun W => (v_move hF rfl)) hF (by decide) (fun a hF => ?_)
      refine e_val (listed' := #[true, true, true, true, true, false, false, true, false, false, false, false, false, false, false, false]) 7 rfl (by kernel_rfl) (by kernel_rfl) (fun _ _ _ h => h) (fun W => (v_move hF rfl)) hF (by decide) (fun a hF => ?_)
      refine e_val (listed' := #[true, true, true, true, true, false, false, true, true, false, false, false, false, false, false, false]) 8 rfl (by kernel_rfl) (by kernel_rfl) (fun _ _ _ h => h) (fun W => (v_fieldAddr hF rfl pf26_1)) hF (by decide) (fun a hF => ?_)
      refine e_val (listed' := #[true, true, true, true, true, false, false, true, true, true, false, false, false, false, false, false]) 9 rfl (by kernel_rfl) (by kernel_rfl) (fun _ _ _ h => h) (fun W => (v_indexAddr hF rfl rfl par24 hb23.1 hb23.2)) hF (by decide) (fun a hF => ?_)
      refine e_valS (listed' := #[true, true, true, true, true, false, false, true, true, true, true, false, false, false, false, false]) 10 rfl (by kernel_rfl) (by kernel_rfl) (fun _ _ _ h => h) (fun W hC => (v_load1 hF rfl pa22 (cells_sub (vs := [.int .u64 ((u0.Care.at x14))]) (hC.2.bc (i := 0) rfl) (add_add _ _ _) (TCube.get_Care u0 x14 hb23.1 hb23.2)))) hQC (by kernel_rfl) hF (by decide) (fun a hF => ?_)
      refine e_val (listed' := #[true, true, true, true, true, false, false, true, true, true, true, true, false, false, false, false]) 11 rfl (by kernel_rfl) (by kernel_rfl) (fun _ _ _ h => h) (fun W => (v_move hF rfl)) hF (by decide) (fun a hF => ?_)
      refine e_one (listed' := #[true, true, true, true, true, true, false, true, true, true, true, true, false, false, false, false]) 5 rfl (by kernel_rfl) (by kernel_rfl) ?_
      obtain ⟨x27, hx28, h⟩ := bindS h
      refine sq_call hF pc110 rfl (by decide) (ok_ref01_Size (hS.enter trivial) hx28) (fun v W hR a hF => ?_)
      obtain ⟨rfl, hT29⟩ := hR
      have hS := hS.grow hT29.below
      refine sq_nil (then_j ⟨?_, ?_⟩)
      · exact fun hQ0 _ => hQ0.next hT29.below
      ·
       have hQC := hQC.next hT29.below
       refine e_one (listed' := #[true, true, true, true, true, true, true, true, true, true, true, true, false, false, false, false]) 6 rfl (by kernel_rfl) (by kernel_rfl) ?_
       obtain ⟨x30, hx31, h⟩ := bindS h
       refine sq_call hF pc109 rfl (by decide) (ok_ref01_Bits k (hS.enter trivial) hx31) (fun v W hR a hF => ?_)
       obtain ⟨A32, c33, rfl, hT34⟩ := hR
       have hS := hS.join hT34
       refine sq_nil (then_j ⟨?_, ?_⟩)
       · exact fun hQ0 _ => hQ0.next hT34.below
       ·
        have hQC := hQC.next hT34.below
        refine e_one (listed' := #[true, true, true, true, true, true, true, true, true, true, true, true, true, false, false, false]) 12 rfl (by kernel_rfl) (by kernel_rfl) ?_
        refine sq_call hF pc110 rfl (by decide) (ok_ref01_Size (hS.enter trivial) hx28) (fun v W hR a hF => ?_)
        obtain ⟨rfl, hT35⟩ := hR
        have hS := hS.grow hT35.below
        refine sq_nil (then_j ⟨?_, ?_⟩)
        · exact fun hQ0 _ => hQ0.next hT35.below
        ·
         have hQC := hQC.next hT35.below
         refine e_one (listed' := #[true, true, true, true, true, true, true, true, true, true, true, true, true, true, false, false]) 13 rfl (by kernel_rfl) (by kernel_rfl) ?_
         obtain ⟨x36, hx37, h⟩ := bindS h
         refine sq_call hF pc109 rfl (by decide) (ok_ref01_Bits k (hS.enter trivial) hx37) (fun v W hR a hF => ?_)
         obtain ⟨A38, c39, rfl, hT40⟩ := hR
         have hS := hS.join hT40
         refine sq_nil (then_j ⟨?_, ?_⟩)
         · exact fun hQ0 _ => hQ0.next hT40.below
         ·
          have hQC := hQC.next hT40.below
          refine e_val (listed' := #[true, true, true, true, true, true, true, true, true, true, true, true, true, true, true, false]) 14 rfl (by kernel_rfl) (by kernel_rfl) (fun _ _ _ h => h) (fun W => (v_assign hF rfl)) hF (by decide) (fun a hF => ?_)
          refine e_val (listed' := #[true, true, true, true, true, true, true, true, true, true, true, true, true, true, true, true]) 15 rfl (by kernel_rfl) (by kernel_rfl) (fun _ _ _ h => h) (fun W => (v_assign hF rfl)) hF (by decide) (fun a hF => ?_)
          refine e_done (by kernel_rfl) ?_ _
          refine then_n ?_
          refine wp_seq ?_
          refine wp_reg ?_
          refine sq_val (v_assign hF rfl) hF (by decide) (fun a hF => ?_)
          refine sq_nil ?_
          refine then_n ?_
          obtain ⟨o52, h, hk53⟩ := bindS h
          refine wp_join (fun a W => ∃ (x49 : List Int) (A50 : Option Addr) (c51 : Nat), x49 = o52 ∧ FH 70 [(1, .pointer (some (⟨b1, 0, none⟩))), (4, .slice A50 ((x49).length) c51), (5, .bool (x24)), (6, .int .i64 (x14))] a ∧ St M w0 [⟨b1, TCube.enc u0, 26⟩] [⟨(kInt .u8), 5, A50, c51, x49⟩] [] W) (fun a W hJ => ?_) ?_
          ·
           obtain ⟨x49, A50, c51, rfl, hF, hS⟩ := hJ
           have h := hk53
           refine blk_n ?_
           refine then_n ?_
           refine wp_reg ?_
           refine sq_val (v_move hF rfl) hF (by decide) (fun a hF => ?_)
           refine sq_val (v_add hF rfl rfl) hF (by decide) (fun a hF => ?_)
           refine sq_val (v_assign hF rfl) hF (by decide) (fun a hF => ?_)
           refine sq_nil ?_
           exact then_j ⟨m21, Nat.lt_succ_self _, x49, x24, (IntKind.i64.wrap (x14 + 1)), A50, c51, (hF.keep ⟨rfl, rfl, rfl, rfl, trivial⟩), hS, h⟩
          ·
           have hS := hS.perm (List.Perm.refl _) (.trans (.cons _ (.swap _ _ _)) (.trans (.swap _ _ _) (List.Perm.refl _)))
           refine wp_block ?_
           refine wp_loop_fuel (I := fun m a W => ∃ (x45 : List Int) (x48 : Int) (A46 : Option Addr) (c47 : Nat), FH 70 [(1, .pointer (some (⟨b1, 0, none⟩))), (4, .slice A46 ((x45).length) c47), (5, .bool (x24)), (6, .int .i64 (x14)), (7, .slice A32 ((x30).length) c33), (8, .slice A38 ((x36).length) c39), (9, .int .i64 (x48))] a ∧ St M w0 [⟨b1, TCube.enc u0, 26⟩] [⟨(kInt .u8), 5, A46, c47, x45⟩, ⟨kBool, 4, A38, c39, x36⟩, ⟨kBool, 4, A32, c33, x30⟩] [] W ∧ (ref01_Text.l1 k x30 x36 m x45 x48) = some o52) ?_ (k := k) ⟨x10, 0, A11, c12, (hF.keep ⟨rfl, rfl, rfl, rfl, rfl, rfl, rfl, trivial⟩), hS, h⟩
           rintro m54 a W ⟨x45, x48, A46, c47, hF, hS, h⟩
           cases m54 with
           | zero => cases h
           | succ m54 =>
            rw [ref01_Text.l1] at h
            refine wp_seq ?_
            refine wp_seq ?_
            refine wp_reg ?_
            refine sq_val (v_move hF rfl) hF (by decide) (fun a hF => ?_)
            refine sq_val (v_move hF rfl) hF (by decide) (fun a hF => ?_)
            refine sq_val (v_len hF rfl pu116) hF (by decide) (fun a hF => ?_)
            refine sq_val (v_lss hF rfl rfl) hF (by decide) (fun a hF => ?_)
            refine sq_nil ?_
            refine then_n ?_
            refine wp_if hF rfl (fun he55 => ?_) (fun he55 => ?_)
            ·
             replace h := ifT he55 h
             refine wp_skip ?_
             refine then_n ?_
             refine wp_seq ?_
             obtain ⟨o59, h, hk60⟩ := bindS h
             refine wp_join (fun a W => ∃ (x56 : List Int) (A57 : Option Addr) (c58 : Nat), x56 = o59 ∧ FH 70 [(1, .pointer (some (⟨b1, 0, none⟩))), (4, .slice A57 ((x56).length) c58), (5, .bool (x24)), (6, .int .i64 (x14)), (7, .slice A32 ((x30).length) c33), (8, .slice A38 ((x36).length) c39), (9, .int .i64 (x48))] a ∧ St M w0 [⟨b1, TCube.enc u0, 26⟩] [⟨(kInt .u8), 5, A57, c58, x56⟩, ⟨kBool, 4, A38, c39, x36⟩, ⟨kBool, 4, A32, c33, x30⟩] [] W) (fun a W hJ => ?_) ?_
             ·
              obtain ⟨x56, A57, c58, rfl, hF, hS⟩ := hJ
              have h := hk60
              refine then_n ?_
              refine wp_reg ?_
              refine sq_val (v_move hF rfl) hF (by decide) (fun a hF => ?_)
              refine sq_val (v_add hF rfl rfl) hF (by decide) (fun a hF => ?_)
              refine sq_val (v_assign hF rfl) hF (by decide) (fun a hF => ?_)
              refine sq_nil ?_
              exact then_j ⟨m54, Nat.lt_succ_self _, x56, (IntKind.i64.wrap (x48 + 1)), A57, c58, (hF.keep ⟨rfl, rfl, rfl, rfl, rfl, rfl, rfl, trivial⟩), hS, h⟩
             ·
              refine wp_block ?_
              obtain ⟨o64, h, hk65⟩ := bindS h
              refine wp_join (fun a W => ∃ (x61 : List Int) (A62 : Option Addr) (c63 : Nat), x61 = o64 ∧ FH 70 [(1, .pointer (some (⟨b1, 0, none⟩))), (4, .slice A62 ((x61).length) c63), (5, .bool (x24)), (6, .int .i64 (x14)), (7, .slice A32 ((x30).length) c33), (8, .slice A38 ((x36).length) c39), (9, .int .i64 (x48))] a ∧ St M w0 [⟨b1, TCube.enc u0, 26⟩] [⟨(kInt .u8), 5, A62, c63, x61⟩, ⟨kBool, 4, A38, c39, x36⟩, ⟨kBool, 4, A32, c33, x30⟩] [] W) (fun a W hJ => ?_) ?_
              ·
               obtain ⟨x61, A62, c63, rfl, hF, hS⟩ := hJ
               have h := hk65
               refine blk_n ?_
               obtain rfl := Option.some.inj h
               exact then_j ⟨x61, A62, c63, rfl, (hF.keep ⟨rfl, rfl, rfl, rfl, rfl, rfl, rfl, trivial⟩), hS⟩
              ·
               refine wp_block ?_
               refine wp_seq ?_
               refine wp_reg ?_
               refine sq_val (v_move hF rfl) hF (by decide) (fun a hF => ?_)
               refine sq_val (v_move hF rfl) hF (by decide) (fun a hF => ?_)
               obtain ⟨x66, hx67, h⟩ := bindS h
               obtain ⟨p68, cs69, hA70, hc72, hr73⟩ := Row.ok.at (hS.rw_ (i := 1) rfl) hx67
               obtain rfl : cs69 = [.bool (x66)] := hr73
               refine sq_val (v_idx hF rfl hA70 rfl psl116 hx67) hF (by decide) (fun a hF => ?_)
               refine sq_val (v_load1 hF rfl pa4 hc72) hF (by decide) (fun a hF => ?_)
               refine sq_val (v_not hF rfl) hF (by decide) (fun a hF => ?_)
               refine sq_val (v_assign hF rfl) hF (by decide) (fun a hF => ?_)
               refine sq_nil ?_
               refine then_n ?_
               obtain ⟨o77, h, hk78⟩ := bindS h
               refine wp_join (fun a W => ∃ (x74 : List Int) (A75 : Option Addr) (c76 : Nat), x74 = o77 ∧ FH 70 [(1, .pointer (some (⟨b1, 0, none⟩))), (4, .slice A75 ((x74).length) c76), (5, .bool (x24)), (6, .int .i64 (x14)), (7, .slice A32 ((x30).length) c33), (8, .slice A38 ((x36).length) c39), (9, .int .i64 (x48))] a ∧ St M w0 [⟨b1, TCube.enc u0, 26⟩] [⟨(kInt .u8), 5, A75, c76, x74⟩, ⟨kBool, 4, A38, c39, x36⟩, ⟨kBool, 4, A32, c33, x30⟩] [] W) (fun a W hJ => ?_) ?_
               ·
                obtain ⟨x74, A75, c76, rfl, hF, hS⟩ := hJ
                have h := hk78
                refine blk_n ?_
                obtain rfl := Option.some.inj h
                exact then_j ⟨x74, A75, c76, rfl, (hF.keep ⟨rfl, rfl, rfl, rfl, rfl, rfl, rfl, trivial⟩), hS⟩
               ·
                refine wp_if hF rfl (fun he79 => ?_) (fun he79 => ?_)
                ·
                 replace h := ifT he79 h
                 refine wp_reg ?_
                 refine sq_val (v_move hF rfl) hF (by decide) (fun a hF => ?_)
                 refine sq_buildSlice (κ := (kInt .u8)) (xs := [.const (.int .u8 120)]) (ys := [120]) hF hS rfl rfl rfl (Els.cons rfl (Els.nil _ _ _)) rfl psl82 pz5 rfl (by decide) (by decide) (by decide) (fun A80 c81 a W hF hS => ?_)
                 obtain ⟨x84, hx85, h⟩ := bindS h
                 refine sq_append (ys := ([120])) hF hS (i := 1) rfl rfl rfl (hS.rw_ (i := 0) rfl).src psl82 pb5 pz5 rfl (by decide) (by decide) hx85 (by decide) (fun A82 c83 a W hF hS => ?_)
                 refine sq_val (v_assign hF rfl) hF (by decide) (fun a hF => ?_)
                 refine sq_nil ?_
                 obtain rfl := Option.some.inj h
                 exact then_j ⟨x84, A82, c83, rfl, (hF.keep ⟨rfl, rfl, rfl, rfl, rfl, rfl, rfl, trivial⟩), (hS.keep (List.Sublist.refl _) (.cons _ (List.Sublist.refl _)) trivial)⟩
                ·
                 replace h := ifF he79 h
                 refine wp_seq ?_
                 refine wp_reg ?_
                 refine sq_val (v_move hF rfl) hF (by decide) (fun a hF => ?_)
                 refine sq_val (v_move hF rfl) hF (by decide) (fun a hF => ?_)
                 obtain ⟨x86, hx87, h⟩ := bindS h
                 obtain ⟨p88, cs89, hA90, hc92, hr93⟩ := Row.ok.at (hS.rw_ (i := 2) rfl) hx87
                 obtain rfl : cs89 = [.bool (x86)] := hr93
                 refine sq_val (v_idx hF rfl hA90 rfl psl116 hx87) hF (by decide) (fun a hF => ?_)
                 refine sq_val (v_load1 hF rfl pa4 hc92) hF (by decide) (fun a hF => ?_)
                 refine sq_val (v_assign hF rfl) hF (by decide) (fun a hF => ?_)
                 refine sq_nil ?_
                 refine then_n ?_
                 obtain ⟨o97, h, hk98⟩ := bindS h
                 refine wp_join (fun a W => ∃ (x94 : List Int) (A95 : Option Addr) (c96 : Nat), x94 = o97 ∧ FH 70 [(1, .pointer (some (⟨b1, 0, none⟩))), (4, .slice A95 ((x94).length) c96), (5, .bool (x24)), (6, .int .i64 (x14)), (7, .slice A32 ((x30).length) c33), (8, .slice A38 ((x36).length) c39), (9, .int .i64 (x48))] a ∧ St M w0 [⟨b1, TCube.enc u0, 26⟩] [⟨(kInt .u8), 5, A95, c96, x94⟩, ⟨kBool, 4, A38, c39, x36⟩, ⟨kBool, 4, A32, c33, x30⟩] [] W) (fun a W hJ => ?_) ?_
                 ·
                  obtain ⟨x94, A95, c96, rfl, hF, hS⟩ := hJ
                  have h := hk98
                  obtain rfl := Option.some.inj h
                  exact then_j ⟨x94, A95, c96, rfl, (hF.keep ⟨rfl, rfl, rfl, rfl, rfl, rfl, rfl, trivial⟩), hS⟩
                 ·
                  refine wp_if hF rfl (fun he99 => ?_) (fun he99 => ?_)
                  ·
                   replace h := ifT he99 h
                   refine wp_reg ?_
                   refine sq_val (v_move hF rfl) hF (by decide) (fun a hF => ?_)
                   refine sq_buildSlice (κ := (kInt .u8)) (xs := [.const (.int .u8 49)]) (ys := [49]) hF hS rfl rfl rfl (Els.cons rfl (Els.nil _ _ _)) rfl psl82 pz5 rfl (by decide) (by decide) (by decide) (fun A100 c101 a W hF hS => ?_)
                   obtain ⟨x104, hx105, h⟩ := bindS h
                   refine sq_append (ys := ([49])) hF hS (i := 1) rfl rfl rfl (hS.rw_ (i := 0) rfl).src psl82 pb5 pz5 rfl (by decide) (by decide) hx105 (by decide) (fun A102 c103 a W hF hS => ?_)
                   refine sq_val (v_assign hF rfl) hF (by decide) (fun a hF => ?_)
                   refine sq_nil ?_
                   obtain rfl := Option.some.inj h
                   exact then_j ⟨x104, A102, c103, rfl, (hF.keep ⟨rfl, rfl, rfl, rfl, rfl, rfl, rfl, trivial⟩), (hS.keep (List.Sublist.refl _) (.cons _ (List.Sublist.refl _)) trivial)⟩
                  ·
                   replace h := ifF he99 h
                   refine wp_reg ?_
                   refine sq_val (v_move hF rfl) hF (by decide) (fun a hF => ?_)
                   refine sq_buildSlice (κ := (kInt .u8)) (xs := [.const (.int .u8 48)]) (ys := [48]) hF hS rfl rfl rfl (Els.cons rfl (Els.nil _ _ _)) rfl psl82 pz5 rfl (by decide) (by decide) (by decide) (fun A106 c107 a W hF hS => ?_)
                   obtain ⟨x110, hx111, h⟩ := bindS h
                   refine sq_append (ys := ([48])) hF hS (i := 1) rfl rfl rfl (hS.rw_ (i := 0) rfl).src psl82 pb5 pz5 rfl (by decide) (by decide) hx111 (by decide) (fun A108 c109 a W hF hS => ?_)
                   refine sq_val (v_assign hF rfl) hF (by decide) (fun a hF => ?_)
                   refine sq_nil ?_
                   obtain rfl := Option.some.inj h
                   exact then_j ⟨x110, A108, c109, rfl, (hF.keep ⟨rfl, rfl, rfl, rfl, rfl, rfl, rfl, trivial⟩), (hS.keep (List.Sublist.refl _) (.cons _ (List.Sublist.refl _)) trivial)⟩
            ·
             replace h := ifF he55 h
             refine wp_exit ?_
             refine then_x ?_
             refine then_x ?_
             refine blk_hit ?_
             obtain rfl := Option.some.inj h
             exact then_j ⟨x45, A46, c47, rfl, (hF.keep ⟨rfl, rfl, rfl, rfl, trivial⟩), (hS.keep (List.Sublist.refl _) (.cons_cons _ (List.nil_sublist _)) trivial)⟩
     ·
      refine wp_if hF rfl (fun he112 => ?_) (fun he112 => ?_)
      ·
       replace h := ifT he112 h
       refine wp_reg ?_
       refine sq_val (v_assign hF rfl) hF (by decide) (fun a hF => ?_)
       refine sq_nil ?_
       obtain rfl := Option.some.inj h
       exact then_j ⟨false, rfl, (hF.keep ⟨rfl, rfl, rfl, rfl, trivial⟩), hS⟩
      ·
       replace h := ifF he112 h
       refine wp_skip ?_
       obtain rfl := Option.some.inj h
       exact then_j ⟨x13, rfl, (hF.keep ⟨rfl, rfl, rfl, rfl, trivial⟩), hS⟩
    ·
     replace h := ifF he22 h
     refine wp_exit ?_
     refine then_x ?_
     refine then_x ?_
     refine blk_hit ?_
     obtain rfl := Option.some.inj h
     exact then_j ⟨x10, x13, A11, c12, rfl, (hF.keep ⟨rfl, rfl, trivial⟩), (hS.keep (List.nil_sublist _) (List.Sublist.refl _) trivial)⟩

theorem ok_ref01_Cube (k : Nat) {M : Nat → Prop} {w0 : World} {u0 : TCube} {o : Bool} (hS : St M w0 [] [] [] w0) (h : ref01_Cube k u0 = some o) :
    Calls Try.prog 17 #[.agg (TCube.enc u0).toArray] w0 fun e W' => ∃ v, e = .returned v ∧ (v = .bool (o) ∧ St M w0 [] [] [] W') := by
  unfold ref01_Cube at h
  refine calls_start (args := [.agg (TCube.enc u0).toArray]) Try.func17 rfl rfl (Nat.le_of_ble_eq_true rfl) (fun a hF => ?_)
  refine wp_seq ?_
  refine wp_reg ?_
  refine sq_box hF hS rfl rfl (by decide) (fun b1 a W hF hS => ?_)
  refine sq_val (v_assign hF rfl) hF (by decide) (fun a hF => ?_)
  refine sq_nil ?_
  refine then_n ?_
  refine wp_seq ?_
  refine wp_reg ?_
  refine sq_val (v_load (cs := TCube.enc u0) hF rfl pa26 ps26 (hS.bc (i := 0) rfl)) hF (by decide) (fun a hF => ?_)
  obtain ⟨x2, hx3, h⟩ := bindS h
  refine sq_call hF pc55 rfl (by decide) (ok_ref01_Text k (hS.enter trivial) hx3) (fun v W hR a hF => ?_)
  obtain ⟨rfl, hT4⟩ := hR
  have hS := hS.grow hT4.below
  refine sq_val (v_move hF rfl) hF (by decide) (fun a hF => ?_)
  refine sq_val (v_extract hF rfl rfl) hF (by decide) (fun a hF => ?_)
  refine sq_val (v_extract hF rfl rfl) hF (by decide) (fun a hF => ?_)
  refine sq_val (v_assign hF rfl) hF (by decide) (fun a hF => ?_)
  refine sq_val (v_assign hF rfl) hF (by decide) (fun a hF => ?_)
  refine sq_nil ?_
  refine then_n ?_
  refine wp_seq ?_
  refine wp_reg ?_
  refine sq_val (v_move hF rfl) hF (by decide) (fun a hF => ?_)
  refine sq_val (v_assign hF rfl) hF (by decide) (fun a hF => ?_)
  refine sq_nil ?_
  refine then_n ?_
  refine wp_ret ?_
  obtain rfl := Option.some.inj h
  exact ret1 hF rfl (rv_tmp hF rfl) ⟨_, rfl, rfl, (hS.keep (List.nil_sublist _) (List.Sublist.refl _) trivial)⟩

theorem ok_ref01_Plain (k : Nat) {M : Nat → Prop} {w0 : World} {u0 : TCube} {o : Bool} (hS : St M w0 [] [] [] w0) (h : ref01_Plain k u0 = some o) :
    Calls Try.prog 64 #[.agg (TCube.enc u0).toArray] w0 fun e W' => ∃ v, e = .returned v ∧ (v = .bool (o) ∧ St M w0 [] [] [] W') := by
  unfold ref01_Plain at h
  refine calls_start (args := [.agg (TCube.enc u0).toArray]) Try.func64 rfl rfl (Nat.le_of_ble_eq_true rfl) (fun a hF => ?_)
  refine wp_seq ?_
  refine wp_reg ?_
  refine sq_box hF hS rfl rfl (by decide) (fun b1 a W hF hS => ?_)
  refine sq_val (v_assign hF rfl) hF (by decide) (fun a hF => ?_)
  refine sq_nil ?_
  refine then_n ?_
  refine wp_seq ?_
  refine wp_seq ?_
  refine wp_reg ?_
  refine sq_val (v_assign hF rfl) hF (by decide) (fun a hF => ?_)
  refine sq_nil ?_
  refine then_n ?_
  obtain ⟨o4, h, hk5⟩ := bindS h
  refine wp_join (fun a W => Lo.brk () = o4 ∧ FH 21 [(1, .pointer (some (⟨b1, 0, none⟩)))] a ∧ St M w0 [⟨b1, TCube.enc u0, 26⟩] [] [] W) (fun a W hJ => ?_) ?_
  ·
   obtain ⟨rfl, hF, hS⟩ := hJ
   have h := hk5
   dsimp only at h
   refine then_n ?_
   refine wp_seq ?_
   refine wp_reg ?_
   refine sq_val (v_fieldAddr hF rfl pf26_1) hF (by decide) (fun a hF => ?_)
   refine sq_val (v_load (cs := A12u64.enc u0.Care) hF rfl pa24 ps24 (cells_sub (vs := A12u64.enc u0.Care) (hS.bc (i := 0) rfl) rfl rfl)) hF (by decide) (fun a hF => ?_)
   obtain ⟨x6, hx7, h⟩ := bindS h
   refine sq_call hF pc61 rfl (by decide) (ok_ref01_Head k (hS.enter trivial) hx7) (fun v W hR a hF => ?_)
   obtain ⟨rfl, hT8⟩ := hR
   have hS := hS.grow hT8.below
   refine sq_val (v_assign hF rfl) hF (by decide) (fun a hF => ?_)
   refine sq_nil ?_
   refine then_n ?_
   refine wp_ret ?_
   obtain rfl := Option.some.inj h
   exact ret1 hF rfl (rv_tmp hF rfl) ⟨_, rfl, rfl, (hS.keep (List.nil_sublist _) (List.Sublist.refl _) trivial)⟩
  ·
   refine wp_block ?_
   refine wp_loop_fuel (I := fun m a W => ∃ (x3 : Int), FH 21 [(1, .pointer (some (⟨b1, 0, none⟩))), (3, .int .i64 (x3))] a ∧ St M w0 [⟨b1, TCube.enc u0, 26⟩] [] [] W ∧ (ref01_Plain.l0 k u0 m x3) = some o4) ?_ (k := k) ⟨0, (hF.keep ⟨rfl, rfl, trivial⟩), hS, h⟩
   rintro m9 a W ⟨x3, hF, hS, h⟩
   cases m9 with
   | zero => cases h
   | succ m9 =>
    rw [ref01_Plain.l0] at h
    refine wp_seq ?_
    refine wp_seq ?_
    refine wp_reg ?_
    refine sq_val (v_move hF rfl) hF (by decide) (fun a hF => ?_)
    refine sq_val (v_lss hF rfl rfl) hF (by decide) (fun a hF => ?_)
    refine sq_nil ?_
    refine then_n ?_
    refine wp_if hF rfl (fun he10 => ?_) (fun he10 => ?_)
    ·
     replace h := ifT he10 h
     refine wp_skip ?_
     refine then_n ?_
     refine wp_seq ?_
     refine wp_block ?_
     refine wp_seq ?_
     refine wp_quiet rfl (by kernel_rfl) hS ?_
     refine qt_val (fun W hC => (v_move hF rfl)) hF (by decide) (fun a hF => ?_)
     refine qt_val (fun W hC => (v_fieldAddr hF rfl pf26_0)) hF (by decide) (fun a hF => ?_)
     obtain ⟨hb11, h⟩ := ifS h
     refine qt_val (fun W hC => (v_indexAddr hF rfl rfl par24 hb11.1 hb11.2)) hF (by decide) (fun a hF => ?_)
     refine qt_val (fun W hC => (v_load1 hF rfl pa22 (cells_sub (vs := [.int .u64 ((u0.Value.at x3))]) (hC.2.bc (i := 0) rfl) (add_add _ _ _) (TCube.get_Value u0 x3 hb11.1 hb11.2)))) hF (by decide) (fun a hF => ?_)
     refine qt_val (fun W hC => (v_move hF rfl)) hF (by decide) (fun a hF => ?_)
     refine qt_val (fun W hC => (v_fieldAddr hF rfl pf26_1)) hF (by decide) (fun a hF => ?_)
     refine qt_val (fun W hC => (v_indexAddr hF rfl rfl par24 hb11.1 hb11.2)) hF (by decide) (fun a hF => ?_)
     refine qt_val (fun W hC => (v_load1 hF rfl pa22 (cells_sub (vs := [.int .u64 ((u0.Care.at x3))]) (hC.2.bc (i := 0) rfl) (add_add _ _ _) (TCube.get_Care u0 x3 hb11.1 hb11.2)))) hF (by decide) (fun a hF => ?_)
     refine qt_val (fun W hC => (v_andNot hF rfl rfl)) hF (by decide) (fun a hF => ?_)
     refine qt_val (fun W hC => (v_neq hF rfl rfl)) hF (by decide) (fun a hF => ?_)
     refine qt_nil ?_
     intro W hC
     have hS := hC.2
     refine then_n ?_
     refine wp_if hF rfl (fun he12 => ?_) (fun he12 => ?_)
     ·
      replace h := ifT he12 h
      refine wp_seq ?_
      refine wp_reg ?_
      refine sq_val (v_assign hF rfl) hF (by decide) (fun a hF => ?_)
      refine sq_nil ?_
      refine then_n ?_
      refine wp_ret ?_
      refine blk_r ?_
      refine then_r ?_
      refine then_r ?_
      refine blk_r ?_
      refine then_r ?_
      refine then_r ?_
      obtain rfl := Option.some.inj h
      have h := hk5
      dsimp only at h
      obtain rfl := Option.some.inj h
      exact ret1 hF rfl (rv_tmp hF rfl) ⟨_, rfl, rfl, (hS.keep (List.nil_sublist _) (List.Sublist.refl _) trivial)⟩
     ·
      replace h := ifF he12 h
      refine wp_skip ?_
      refine blk_n ?_
      refine then_n ?_
      refine wp_reg ?_
      refine sq_val (v_move hF rfl) hF (by decide) (fun a hF => ?_)
      refine sq_val (v_add hF rfl rfl) hF (by decide) (fun a hF => ?_)
      refine sq_val (v_assign hF rfl) hF (by decide) (fun a hF => ?_)
      refine sq_nil ?_
      exact then_j ⟨m9, Nat.lt_succ_self _, (IntKind.i64.wrap (x3 + 1)), (hF.keep ⟨rfl, rfl, trivial⟩), hS, h⟩
    ·
     replace h := ifF he10 h
     refine wp_exit ?_
     refine then_x ?_
     refine then_x ?_
     refine blk_hit ?_
     obtain rfl := Option.some.inj h
     exact then_j ⟨rfl, (hF.keep ⟨rfl, trivial⟩), hS⟩

theorem ok_ref01_Within (k : Nat) {M : Nat → Prop} {w0 : World} {u0 : TCube} {u1 : TCube} {o : Bool} (hS : St M w0 [] [] [] w0) (h : ref01_Within k u0 u1 = some o) :
    Calls Try.prog 20 #[.agg (TCube.enc u0).toArray, .agg (TCube.enc u1).toArray] w0 fun e W' => ∃ v, e = .returned v ∧ (v = .bool (o) ∧ St M w0 [] [] [] W') := by
  unfold ref01_Within at h
  refine calls_start (args := [.agg (TCube.enc u0).toArray, .agg (TCube.enc u1).toArray]) Try.func20 rfl rfl (Nat.le_of_ble_eq_true rfl) (fun a hF => ?_)
  refine wp_seq ?_
  refine wp_reg ?_
  refine sq_box hF hS rfl rfl (by decide) (fun b1 a W hF hS => ?_)
  refine sq_box hF hS rfl rfl (by decide) (fun b2 a W hF hS => ?_)
  refine sq_val (v_assign hF rfl) hF (by decide) (fun a hF => ?_)
  refine sq_nil ?_
  refine then_n ?_
  refine wp_seq ?_
  refine wp_seq ?_
  refine wp_reg ?_
  refine sq_val (v_assign hF rfl) hF (by decide) (fun a hF => ?_)
  refine sq_nil ?_
  refine then_n ?_
  obtain ⟨o5, h, hk6⟩ := bindS h
  refine wp_join (fun a W => Lo.brk () = o5 ∧ FH 43 [(2, .pointer (some (⟨b1, 0, none⟩))), (3, .pointer (some (⟨b2, 0, none⟩)))] a ∧ St M w0 [⟨b2, TCube.enc u1, 26⟩, ⟨b1, TCube.enc u0, 26⟩] [] [] W) (fun a W hJ => ?_) ?_
  ·
   obtain ⟨rfl, hF, hS⟩ := hJ
   have h := hk6
   dsimp only at h
   refine then_n ?_
   refine wp_seq ?_
   refine wp_reg ?_
   refine sq_val (v_load (cs := TCube.enc u0) hF rfl pa26 ps26 (hS.bc (i := 1) rfl)) hF (by decide) (fun a hF => ?_)
   obtain ⟨x7, hx8, h⟩ := bindS h
   refine sq_call hF pc64 rfl (by decide) (ok_ref01_Plain k (hS.enter trivial) hx8) (fun v W hR a hF => ?_)
   obtain ⟨rfl, hT9⟩ := hR
   have hS := hS.grow hT9.below
   refine sq_val (v_move hF rfl) hF (by decide) (fun a hF => ?_)
   obtain ⟨x11, h, hk13⟩ := bindS h
   refine sq_cut 3 (fun a W => FH 43 [(42, .bool x11)] a ∧ St M w0 [⟨b2, TCube.enc u1, 26⟩, ⟨b1, TCube.enc u0, 26⟩] [] [] W) (fun a W hJ => ?_) ?_
   ·
    have h := hk13
    obtain ⟨hF, hS⟩ := hJ
    refine sq_val (v_assign hF rfl) hF (by decide) (fun a hF => ?_)
    refine sq_nil ?_
    refine then_n ?_
    refine wp_ret ?_
    obtain rfl := Option.some.inj h
    exact ret1 hF rfl (rv_tmp hF rfl) ⟨_, rfl, rfl, (hS.keep (List.nil_sublist _) (List.Sublist.refl _) trivial)⟩
   ·
    by_cases he10 : x7 = true
    ·
     replace h := ifT he10 h
     refine sq_yes hF rfl rfl he10 ?_
     refine sq_val (v_load (cs := TCube.enc u1) hF rfl pa26 ps26 (hS.bc (i := 0) rfl)) hF (by decide) (fun a hF => ?_)
     refine sq_yes hF rfl rfl he10 ?_
     obtain ⟨x14, hx15, h⟩ := bindS h
     refine sq_call hF pc64 rfl (by decide) (ok_ref01_Plain k (hS.enter trivial) hx15) (fun v W hR a hF => ?_)
     obtain ⟨rfl, hT16⟩ := hR
     have hS := hS.grow hT16.below
     refine sq_val (v_pick_t hF rfl he10 rfl) hF (by decide) (fun a hF => ?_)
     obtain rfl := Option.some.inj h
     exact sq_nil (then_j ⟨(hF.keep ⟨rfl, trivial⟩), hS⟩)
    ·
     have he10 : x7 = false := nB he10
     replace h := ifF he10 h
     refine sq_no hF rfl rfl he10 (by rintro x ⟨⟩; decide) (fun a hF => ?_)
     refine sq_no hF rfl rfl he10 (by rintro x ⟨⟩; decide) (fun a hF => ?_)
     refine sq_val (v_pick_f hF rfl he10 rfl) hF (by decide) (fun a hF => ?_)
     obtain rfl := Option.some.inj h
     exact sq_nil (then_j ⟨(hF.keep ⟨rfl, trivial⟩), hS⟩)
  ·
   refine wp_block ?_
   refine wp_loop_fuel (I := fun m a W => ∃ (x4 : Int), FH 43 [(2, .pointer (some (⟨b1, 0, none⟩))), (3, .pointer (some (⟨b2, 0, none⟩))), (5, .int .i64 (x4))] a ∧ St M w0 [⟨b2, TCube.enc u1, 26⟩, ⟨b1, TCube.enc u0, 26⟩] [] [] W ∧ (ref01_Within.l0 k u0 u1 m x4) = some o5) ?_ (k := k) ⟨0, (hF.keep ⟨rfl, rfl, rfl, trivial⟩), hS, h⟩
   rintro m17 a W ⟨x4, hF, hS, h⟩
   cases m17 with
   | zero => cases h
   | succ m17 =>
    rw [ref01_Within.l0] at h
    refine wp_seq ?_
    refine wp_seq ?_
    refine wp_reg ?_
    refine sq_val (v_move hF rfl) hF (by decide) (fun a hF => ?_)
    refine sq_val (v_lss hF rfl rfl) hF (by decide) (fun a hF => ?_)
    refine sq_nil ?_
    refine then_n ?_
    refine wp_if hF rfl (fun he18 => ?_) (fun he18 => ?_)
    ·
     replace h := ifT he18 h
     refine wp_skip ?_
     refine then_n ?_
     refine wp_seq ?_
     refine wp_block ?_
     refine wp_seq ?_
     refine wp_quiet rfl (by kernel_rfl) hS ?_
     refine qt_val (fun W hC => (v_move hF rfl)) hF (by decide) (fun a hF => ?_)
     refine qt_val (fun W hC => (v_fieldAddr hF rfl pf26_1)) hF (by decide) (fun a hF => ?_)
     obtain ⟨hb19, h⟩ := ifS h
     refine qt_val (fun W hC => (v_indexAddr hF rfl rfl par24 hb19.1 hb19.2)) hF (by decide) (fun a hF => ?_)
     refine qt_val (fun W hC => (v_load1 hF rfl pa22 (cells_sub (vs := [.int .u64 ((u1.Care.at x4))]) (hC.2.bc (i := 0) rfl) (add_add _ _ _) (TCube.get_Care u1 x4 hb19.1 hb19.2)))) hF (by decide) (fun a hF => ?_)
     refine qt_val (fun W hC => (v_move hF rfl)) hF (by decide) (fun a hF => ?_)
     refine qt_val (fun W hC => (v_fieldAddr hF rfl pf26_1)) hF (by decide) (fun a hF => ?_)
     refine qt_val (fun W hC => (v_indexAddr hF rfl rfl par24 hb19.1 hb19.2)) hF (by decide) (fun a hF => ?_)
     refine qt_val (fun W hC => (v_load1 hF rfl pa22 (cells_sub (vs := [.int .u64 ((u0.Care.at x4))]) (hC.2.bc (i := 1) rfl) (add_add _ _ _) (TCube.get_Care u0 x4 hb19.1 hb19.2)))) hF (by decide) (fun a hF => ?_)
     refine qt_val (fun W hC => (v_andNot hF rfl rfl)) hF (by decide) (fun a hF => ?_)
     refine qt_val (fun W hC => (v_neq hF rfl rfl)) hF (by decide) (fun a hF => ?_)
     refine qt_val (fun W hC => (v_move hF rfl)) hF (by decide) (fun a hF => ?_)
     refine qt_cut 16 (fun a => FH 43 [(2, .pointer (some (⟨b1, 0, none⟩))), (3, .pointer (some (⟨b2, 0, none⟩))), (5, .int .i64 (x4)), (36, .bool (((bAndNot .u64 (u1.Care.at x4) (u0.Care.at x4)) != 0) || ((bAnd .u64 (bXor .u64 (u0.Value.at x4) (u1.Value.at x4)) (u1.Care.at x4)) != 0)))] a) (fun a hF => ?_) ?_
     ·
      refine qt_nil ?_
      intro W hC
      have hS := hC.2
      refine then_n ?_
      refine wp_if hF rfl (fun he21 => ?_) (fun he21 => ?_)
      ·
       replace h := ifT he21 h
       refine wp_seq ?_
       refine wp_reg ?_
       refine sq_val (v_assign hF rfl) hF (by decide) (fun a hF => ?_)
       refine sq_nil ?_
       refine then_n ?_
       refine wp_ret ?_
       refine blk_r ?_
       refine then_r ?_
       refine then_r ?_
       refine blk_r ?_
       refine then_r ?_
       refine then_r ?_
       obtain rfl := Option.some.inj h
       have h := hk6
       dsimp only at h
       obtain rfl := Option.some.inj h
       exact ret1 hF rfl (rv_tmp hF rfl) ⟨_, rfl, rfl, (hS.keep (List.nil_sublist _) (List.Sublist.refl _) trivial)⟩
      ·
       replace h := ifF he21 h
       refine wp_skip ?_
       refine blk_n ?_
       refine then_n ?_
       refine wp_reg ?_
       refine sq_val (v_move hF rfl) hF (by decide) (fun a hF => ?_)
       refine sq_val (v_add hF rfl rfl) hF (by decide) (fun a hF => ?_)
       refine sq_val (v_assign hF rfl) hF (by decide) (fun a hF => ?_)
       refine sq_nil ?_
       exact then_j ⟨m17, Nat.lt_succ_self _, (IntKind.i64.wrap (x4 + 1)), (hF.keep ⟨rfl, rfl, rfl, trivial⟩), hS, h⟩
     ·
      by_cases he20 : ((bAndNot .u64 (u1.Care.at x4) (u0.Care.at x4)) != 0) = true
      ·
       refine qt_no hF rfl rfl he20 (by decide) (fun a hF => ?_)
       refine qt_no hF rfl rfl he20 (by decide) (fun a hF => ?_)
       refine qt_no hF rfl rfl he20 (by decide) (fun a hF => ?_)
       refine qt_no hF rfl rfl he20 (by decide) (fun a hF => ?_)
       refine qt_no hF rfl rfl he20 (by decide) (fun a hF => ?_)
       refine qt_no hF rfl rfl he20 (by decide) (fun a hF => ?_)
       refine qt_no hF rfl rfl he20 (by decide) (fun a hF => ?_)
       refine qt_no hF rfl rfl he20 (by decide) (fun a hF => ?_)
       refine qt_no hF rfl rfl he20 (by decide) (fun a hF => ?_)
       refine qt_no hF rfl rfl he20 (by decide) (fun a hF => ?_)
       refine qt_no hF rfl rfl he20 (by decide) (fun a hF => ?_)
       refine qt_no hF rfl rfl he20 (by decide) (fun a hF => ?_)
       refine qt_no hF rfl rfl he20 (by decide) (fun a hF => ?_)
       refine qt_no hF rfl rfl he20 (by decide) (fun a hF => ?_)
       refine qt_no hF rfl rfl he20 (by decide) (fun a hF => ?_)
       refine qt_val (fun W hC => (v_pick_t hF rfl he20 rfl)) hF (by decide) (fun a hF => ?_)
       exact qt_nil (hF.keep ⟨rfl, rfl, rfl, (boolV (or_t he20)), trivial⟩)
      ·
       have he20 : ((bAndNot .u64 (u1.Care.at x4) (u0.Care.at x4)) != 0) = false := nB he20
       refine qt_yes hF rfl rfl he20 ?_
       refine qt_val (fun W hC => (v_move hF rfl)) hF (by decide) (fun a hF => ?_)
       refine qt_yes hF rfl rfl he20 ?_
       refine qt_val (fun W hC => (v_fieldAddr hF rfl pf26_0)) hF (by decide) (fun a hF => ?_)
       refine qt_yes hF rfl rfl he20 ?_
       refine qt_val (fun W hC => (v_indexAddr hF rfl rfl par24 hb19.1 hb19.2)) hF (by decide) (fun a hF => ?_)
       refine qt_yes hF rfl rfl he20 ?_
       refine qt_val (fun W hC => (v_load1 hF rfl pa22 (cells_sub (vs := [.int .u64 ((u0.Value.at x4))]) (hC.2.bc (i := 1) rfl) (add_add _ _ _) (TCube.get_Value u0 x4 hb19.1 hb19.2)))) hF (by decide) (fun a hF => ?_)
       refine qt_yes hF rfl rfl he20 ?_
       refine qt_val (fun W hC => (v_move hF rfl)) hF (by decide) (fun a hF => ?_)
       refine qt_yes hF rfl rfl he20 ?_
       refine qt_val (fun W hC => (v_fieldAddr hF rfl pf26_0)) hF (by decide) (fun a hF => ?_)
       refine qt_yes hF rfl rfl he20 ?_
       refine qt_val (fun W hC => (v_indexAddr hF rfl rfl par24 hb19.1 hb19.2)) hF (by decide) (fun a hF => ?_)
       refine qt_yes hF rfl rfl he20 ?_
       refine qt_val (fun W hC => (v_load1 hF rfl pa22 (cells_sub (vs := [.int .u64 ((u1.Value.at x4))]) (hC.2.bc (i := 0) rfl) (add_add _ _ _) (TCube.get_Value u1 x4 hb19.1 hb19.2)))) hF (by decide) (fun a hF => ?_)
       refine qt_yes hF rfl rfl he20 ?_
       refine qt_val (fun W hC => (v_xor hF rfl rfl)) hF (by decide) (fun a hF => ?_)
       refine qt_yes hF rfl rfl he20 ?_
       refine qt_val (fun W hC => (v_move hF rfl)) hF (by decide) (fun a hF => ?_)
       refine qt_yes hF rfl rfl he20 ?_
       refine qt_val (fun W hC => (v_fieldAddr hF rfl pf26_1)) hF (by decide) (fun a hF => ?_)
       refine qt_yes hF rfl rfl he20 ?_
       refine qt_val (fun W hC => (v_indexAddr hF rfl rfl par24 hb19.1 hb19.2)) hF (by decide) (fun a hF => ?_)
       refine qt_yes hF rfl rfl he20 ?_
       refine qt_val (fun W hC => (v_load1 hF rfl pa22 (cells_sub (vs := [.int .u64 ((u1.Care.at x4))]) (hC.2.bc (i := 0) rfl) (add_add _ _ _) (TCube.get_Care u1 x4 hb19.1 hb19.2)))) hF (by decide) (fun a hF => ?_)
       refine qt_yes hF rfl rfl he20 ?_
       refine qt_val (fun W hC => (v_and hF rfl rfl)) hF (by decide) (fun a hF => ?_)
       refine qt_yes hF rfl rfl he20 ?_
       refine qt_val (fun W hC => (v_neq hF rfl rfl)) hF (by decide) (fun a hF => ?_)
       refine qt_val (fun W hC => (v_pick_f hF rfl he20 rfl)) hF (by decide) (fun a hF => ?_)
       exact qt_nil (hF.keep ⟨rfl, rfl, rfl, (boolV (or_f he20)), trivial⟩)
    ·
     replace h := ifF he18 h
     refine wp_exit ?_
     refine then_x ?_
     refine then_x ?_
     refine blk_hit ?_
     obtain rfl := Option.some.inj h
     exact then_j ⟨rfl, (hF.keep ⟨rfl, rfl, trivial⟩), hS⟩

theorem ok_ref01_Order (k : Nat) {M : Nat → Prop} {w0 : World} {u0 : Arr 12} {u1 : Arr 12} {o : Int} (hS : St M w0 [] [] [] w0) (h : ref01_Order k u0 u1 = some o) :
    Calls Try.prog 144 #[.agg (A12u64.enc u0).toArray, .agg (A12u64.enc u1).toArray] w0 fun e W' => ∃ v, e = .returned v ∧ (v = .int .i64 (o) ∧ St M w0 [] [] [] W') := by
  unfold ref01_Order at h
  refine calls_start (args := [.agg (A12u64.enc u0).toArray, .agg (A12u64.enc u1).toArray]) Try.func144 rfl rfl (Nat.le_of_ble_eq_true rfl) (fun a hF => ?_)
  refine wp_seq ?_
  refine wp_reg ?_
  refine sq_box hF hS rfl rfl (by decide) (fun b1 a W hF hS => ?_)
  refine sq_box hF hS rfl rfl (by decide) (fun b2 a W hF hS => ?_)
  refine sq_val (v_assign hF rfl) hF (by decide) (fun a hF => ?_)
  refine sq_nil ?_
  refine then_n ?_
  refine wp_seq ?_
  refine wp_seq ?_
  refine wp_reg ?_
  refine sq_val (v_assign hF rfl) hF (by decide) (fun a hF => ?_)
  refine sq_nil ?_
  refine then_n ?_
  obtain ⟨o5, h, hk6⟩ := bindS h
  refine wp_join (fun a W => Lo.brk () = o5 ∧ FH 24 [] a ∧ St M w0 [] [] [] W) (fun a W hJ => ?_) ?_
  ·
   obtain ⟨rfl, hF, hS⟩ := hJ
   have h := hk6
   dsimp only at h
   refine then_n ?_
   refine wp_seq ?_
   refine wp_reg ?_
   refine sq_val (v_assign hF rfl) hF (by decide) (fun a hF => ?_)
   refine sq_nil ?_
   refine then_n ?_
   refine wp_ret ?_
   obtain rfl := Option.some.inj h
   exact ret1 hF rfl (rv_tmp hF rfl) ⟨_, rfl, rfl, hS⟩
  ·
   refine wp_block ?_
   refine wp_loop_fuel (I := fun m a W => ∃ (x4 : Int), FH 24 [(2, .pointer (some (⟨b1, 0, none⟩))), (3, .pointer (some (⟨b2, 0, none⟩))), (5, .int .i64 (x4))] a ∧ St M w0 [⟨b2, A12u64.enc u1, 24⟩, ⟨b1, A12u64.enc u0, 24⟩] [] [] W ∧ (ref01_Order.l0 k u0 u1 m x4) = some o5) ?_ (k := k) ⟨0, (hF.keep ⟨rfl, rfl, rfl, trivial⟩), hS, h⟩
   rintro m7 a W ⟨x4, hF, hS, h⟩
   cases m7 with
   | zero => cases h
   | succ m7 =>
    rw [ref01_Order.l0] at h
    refine wp_seq ?_
    refine wp_seq ?_
    refine wp_reg ?_
    refine sq_val (v_move hF rfl) hF (by decide) (fun a hF => ?_)
    refine sq_val (v_lss hF rfl rfl) hF (by decide) (fun a hF => ?_)
    refine sq_nil ?_
    refine then_n ?_
    refine wp_if hF rfl (fun he8 => ?_) (fun he8 => ?_)
    ·
     replace h := ifT he8 h
     refine wp_skip ?_
     refine then_n ?_
     refine wp_seq ?_
     refine wp_block ?_
     refine wp_seq ?_
     refine wp_seq ?_
     refine wp_quiet rfl (by kernel_rfl) hS ?_
     refine qt_val (fun W hC => (v_move hF rfl)) hF (by decide) (fun a hF => ?_)
     obtain ⟨hb9, h⟩ := ifS h
     refine qt_val (fun W hC => (v_indexAddr hF rfl rfl par24 hb9.1 hb9.2)) hF (by decide) (fun a hF => ?_)
     refine qt_val (fun W hC => (v_load1 hF rfl pa22 (cells_sub (vs := [.int .u64 ((u0.at x4))]) (hC.2.bc (i := 1) rfl) rfl (A12u64.get u0 x4 hb9.1 hb9.2)))) hF (by decide) (fun a hF => ?_)
     refine qt_val (fun W hC => (v_move hF rfl)) hF (by decide) (fun a hF => ?_)
     refine qt_val (fun W hC => (v_indexAddr hF rfl rfl par24 hb9.1 hb9.2)) hF (by decide) (fun a hF => ?_)
     refine qt_val (fun W hC => (v_load1 hF rfl pa22 (cells_sub (vs := [.int .u64 ((u1.at x4))]) (hC.2.bc (i := 0) rfl) rfl (A12u64.get u1 x4 hb9.1 hb9.2)))) hF (by decide) (fun a hF => ?_)
     refine qt_val (fun W hC => (v_lss hF rfl rfl)) hF (by decide) (fun a hF => ?_)
     refine qt_nil ?_
     intro W hC
     have hS := hC.2
     refine then_n ?_
     refine wp_if hF rfl (fun he10 => ?_) (fun he10 => ?_)
     ·
      replace h := ifT he10 h
      refine wp_seq ?_
      refine wp_reg ?_
      refine sq_val (v_assign hF rfl) hF (by decide) (fun a hF => ?_)
      refine sq_nil ?_
      refine then_n ?_
      refine wp_ret ?_
      refine then_r ?_
      refine blk_r ?_
      refine then_r ?_
      refine then_r ?_
      refine blk_r ?_
      refine then_r ?_
      refine then_r ?_
      obtain rfl := Option.some.inj h
      have h := hk6
      dsimp only at h
      obtain rfl := Option.some.inj h
      exact ret1 hF rfl (rv_tmp hF rfl) ⟨_, rfl, rfl, (hS.keep (List.nil_sublist _) (List.Sublist.refl _) trivial)⟩
     ·
      replace h := ifF he10 h
      refine wp_skip ?_
      refine then_n ?_
      refine wp_seq ?_
      refine wp_quiet rfl (by kernel_rfl) hS ?_
      refine qt_val (fun W hC => (v_move hF rfl)) hF (by decide) (fun a hF => ?_)
      refine qt_val (fun W hC => (v_indexAddr hF rfl rfl par24 hb9.1 hb9.2)) hF (by decide) (fun a hF => ?_)
      refine qt_val (fun W hC => (v_load1 hF rfl pa22 (cells_sub (vs := [.int .u64 ((u0.at x4))]) (hC.2.bc (i := 1) rfl) rfl (A12u64.get u0 x4 hb9.1 hb9.2)))) hF (by decide) (fun a hF => ?_)
      refine qt_val (fun W hC => (v_move hF rfl)) hF (by decide) (fun a hF => ?_)
      refine qt_val (fun W hC => (v_indexAddr hF rfl rfl par24 hb9.1 hb9.2)) hF (by decide) (fun a hF => ?_)
      refine qt_val (fun W hC => (v_load1 hF rfl pa22 (cells_sub (vs := [.int .u64 ((u1.at x4))]) (hC.2.bc (i := 0) rfl) rfl (A12u64.get u1 x4 hb9.1 hb9.2)))) hF (by decide) (fun a hF => ?_)
      refine qt_val (fun W hC => (v_gtr hF rfl rfl)) hF (by decide) (fun a hF => ?_)
      refine qt_nil ?_
      intro W hC
      have hS := hC.2
      refine then_n ?_
      refine wp_if hF rfl (fun he11 => ?_) (fun he11 => ?_)
      ·
       replace h := ifT he11 h
       refine wp_seq ?_
       refine wp_reg ?_
       refine sq_val (v_assign hF rfl) hF (by decide) (fun a hF => ?_)
       refine sq_nil ?_
       refine then_n ?_
       refine wp_ret ?_
       refine blk_r ?_
       refine then_r ?_
       refine then_r ?_
       refine blk_r ?_
       refine then_r ?_
       refine then_r ?_
       obtain rfl := Option.some.inj h
       have h := hk6
       dsimp only at h
       obtain rfl := Option.some.inj h
       exact ret1 hF rfl (rv_tmp hF rfl) ⟨_, rfl, rfl, (hS.keep (List.nil_sublist _) (List.Sublist.refl _) trivial)⟩
      ·
       replace h := ifF he11 h
       refine wp_skip ?_
       refine blk_n ?_
       refine then_n ?_
       refine wp_reg ?_
       refine sq_val (v_move hF rfl) hF (by decide) (fun a hF => ?_)
       refine sq_val (v_add hF rfl rfl) hF (by decide) (fun a hF => ?_)
       refine sq_val (v_assign hF rfl) hF (by decide) (fun a hF => ?_)
       refine sq_nil ?_
       exact then_j ⟨m7, Nat.lt_succ_self _, (IntKind.i64.wrap (x4 + 1)), (hF.keep ⟨rfl, rfl, rfl, trivial⟩), hS, h⟩
    ·
     replace h := ifF he8 h
     refine wp_exit ?_
     refine then_x ?_
     refine then_x ?_
     refine blk_hit ?_
     obtain rfl := Option.some.inj h
     exact then_j ⟨rfl, (hF.keep trivial), (hS.keep (List.nil_sublist _) (List.Sublist.refl _) trivial)⟩

theorem ok_ref01_Compare (k : Nat) {M : Nat → Prop} {w0 : World} {u0 : TCube} {u1 : TCube} {o : Int} (hS : St M w0 [] [] [] w0) (h : ref01_Compare k u0 u1 = some o) :
    Calls Try.prog 102 #[.agg (TCube.enc u0).toArray, .agg (TCube.enc u1).toArray] w0 fun e W' => ∃ v, e = .returned v ∧ (v = .int .i64 (o) ∧ St M w0 [] [] [] W') := by
  unfold ref01_Compare at h
  refine calls_start (args := [.agg (TCube.enc u0).toArray, .agg (TCube.enc u1).toArray]) Try.func102 rfl rfl (Nat.le_of_ble_eq_true rfl) (fun a hF => ?_)
  refine wp_seq ?_
  refine wp_reg ?_
  refine sq_box hF hS rfl rfl (by decide) (fun b1 a W hF hS => ?_)
  refine sq_box hF hS rfl rfl (by decide) (fun b2 a W hF hS => ?_)
  refine sq_val (v_assign hF rfl) hF (by decide) (fun a hF => ?_)
  refine sq_nil ?_
  refine then_n ?_
  refine wp_seq ?_
  refine wp_reg ?_
  refine sq_val (v_fieldAddr hF rfl pf26_1) hF (by decide) (fun a hF => ?_)
  refine sq_val (v_load (cs := A12u64.enc u0.Care) hF rfl pa24 ps24 (cells_sub (vs := A12u64.enc u0.Care) (hS.bc (i := 1) rfl) rfl rfl)) hF (by decide) (fun a hF => ?_)
  refine sq_val (v_fieldAddr hF rfl pf26_1) hF (by decide) (fun a hF => ?_)
  refine sq_val (v_load (cs := A12u64.enc u1.Care) hF rfl pa24 ps24 (cells_sub (vs := A12u64.enc u1.Care) (hS.bc (i := 0) rfl) rfl rfl)) hF (by decide) (fun a hF => ?_)
  obtain ⟨x3, hx4, h⟩ := bindS h
  refine sq_call hF pc144 rfl (by decide) (ok_ref01_Order k (hS.enter trivial) hx4) (fun v W hR a hF => ?_)
  obtain ⟨rfl, hT5⟩ := hR
  have hS := hS.grow hT5.below
  refine sq_val (v_assign hF rfl) hF (by decide) (fun a hF => ?_)
  refine sq_nil ?_
  refine then_n ?_
  refine wp_seq ?_
  refine wp_seq ?_
  refine wp_reg ?_
  refine sq_val (v_move hF rfl) hF (by decide) (fun a hF => ?_)
  refine sq_val (v_neq hF rfl rfl) hF (by decide) (fun a hF => ?_)
  refine sq_nil ?_
  refine then_n ?_
  refine wp_if hF rfl (fun he6 => ?_) (fun he6 => ?_)
  ·
   replace h := ifT he6 h
   refine wp_seq ?_
   refine wp_reg ?_
   refine sq_val (v_move hF rfl) hF (by decide) (fun a hF => ?_)
   refine sq_val (v_assign hF rfl) hF (by decide) (fun a hF => ?_)
   refine sq_nil ?_
   refine then_n ?_
   refine wp_ret ?_
   refine then_r ?_
   obtain rfl := Option.some.inj h
   exact ret1 hF rfl (rv_tmp hF rfl) ⟨_, rfl, rfl, (hS.keep (List.nil_sublist _) (List.Sublist.refl _) trivial)⟩
  ·
   replace h := ifF he6 h
   refine wp_skip ?_
   refine then_n ?_
   refine wp_seq ?_
   refine wp_reg ?_
   refine sq_val (v_fieldAddr hF rfl pf26_0) hF (by decide) (fun a hF => ?_)
   refine sq_val (v_load (cs := A12u64.enc u0.Value) hF rfl pa24 ps24 (cells_sub (vs := A12u64.enc u0.Value) (hS.bc (i := 1) rfl) rfl rfl)) hF (by decide) (fun a hF => ?_)
   refine sq_val (v_fieldAddr hF rfl pf26_0) hF (by decide) (fun a hF => ?_)
   refine sq_val (v_load (cs := A12u64.enc u1.Value) hF rfl pa24 ps24 (cells_sub (vs := A12u64.enc u1.Value) (hS.bc (i := 0) rfl) rfl rfl)) hF (by decide) (fun a hF => ?_)
   obtain ⟨x7, hx8, h⟩ := bindS h
   refine sq_call hF pc144 rfl (by decide) (ok_ref01_Order k (hS.enter trivial) hx8) (fun v W hR a hF => ?_)
   obtain ⟨rfl, hT9⟩ := hR
   have hS := hS.grow hT9.below
   refine sq_val (v_assign hF rfl) hF (by decide) (fun a hF => ?_)
   refine sq_nil ?_
   refine then_n ?_
   refine wp_ret ?_
   obtain rfl := Option.some.inj h
   exact ret1 hF rfl (rv_tmp hF rfl) ⟨_, rfl, rfl, (hS.keep (List.nil_sublist _) (List.Sublist.refl _) trivial)⟩
end Go.Proofs.Ytangebngeeamoaa
