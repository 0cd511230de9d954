/- What calls of the Go functions come to. -/
import Derived.Test.YtangebngeeamoaaW7
set_option linter.unusedVariables false
set_option linter.unusedSimpArgs false
set_option maxRecDepth 100000
set_option maxHeartbeats 4000000
namespace Go.Proofs.Ytangebngeeamoaa
open Go.RowKit Go.Pod
theorem ok_ref01_Text (k : Nat) {M : Nat → Prop} {w0 : World} {u0 : TCube} {o : ByteArray × Bool} (hS : St M w0 [] [] [] w0) (h : ref01_Text k u0 = some o) :
    Calls Try.prog 55 #[.agg (TCube.enc u0).toArray] w0 fun e W' => ∃ v, e = .returned v ∧ (v = .tuple #[.string (o.1), .bool (o.2)] ∧ St M w0 [] [] [] W') := by
  unfold ref01_Text at h
  refine calls_start (args := [.agg (TCube.enc u0).toArray]) Try.func55 rfl rfl (Nat.le_of_ble_eq_true rfl) (fun a hF => ?_)
  refine wp_seq ?_
  refine wp_reg ?_
  refine sq_box hF hS rfl rfl (by decide) (fun b1 a W hF hS => ?_)
  refine sq_val (v_assign hF rfl) hF (by decide) (fun a hF => ?_)
  refine sq_val (v_assign hF rfl) hF (by decide) (fun a hF => ?_)
  refine sq_nil ?_
  refine then_n ?_
  refine wp_seq ?_
  refine wp_reg ?_
  refine sq_val (v_assign hF rfl) hF (by decide) (fun a hF => ?_)
  refine sq_nil ?_
  refine then_n ?_
  refine wp_seq ?_
  refine wp_reg ?_
  refine sq_val (v_fieldAddr hF rfl pf26_1) hF (by decide) (fun a hF => ?_)
  refine sq_val (v_load (cs := A12u64.enc u0.Care) hF rfl pa24 ps24 (cells_sub (vs := A12u64.enc u0.Care) (hS.bc (i := 0) rfl) rfl rfl)) hF (by decide) (fun a hF => ?_)
  obtain ⟨x2, hx3, h⟩ := bindS h
  refine sq_call hF pc61 rfl (by decide) (ok_ref01_Head k (hS.enter trivial) hx3) (fun v W hR a hF => ?_)
  obtain ⟨rfl, hT4⟩ := hR
  have hS := hS.grow hT4.below
  refine sq_val (v_assign hF rfl) hF (by decide) (fun a hF => ?_)
  refine sq_nil ?_
  refine then_n ?_
  refine wp_seq ?_
  refine wp_seq ?_
  refine wp_reg ?_
  refine sq_val (v_assign hF rfl) hF (by decide) (fun a hF => ?_)
  refine sq_nil ?_
  refine then_n ?_
  obtain ⟨o19, h, hk20⟩ := bindS h
  refine wp_join (fun a W => ∃ (x15 : List Int) (x18 : Bool) (A16 : Option Addr) (c17 : Nat), (x15, x18) = o19 ∧ FH 70 [(4, .slice A16 ((x15).length) c17), (5, .bool (x18))] a ∧ St M w0 [] [⟨(kInt .u8), 5, A16, c17, x15⟩] [] W) (fun a W hJ => ?_) ?_
  ·
   obtain ⟨x15, x18, A16, c17, rfl, hF, hS⟩ := hJ
   have h := hk20
   dsimp only at h
   refine then_n ?_
   refine wp_seq ?_
   refine wp_reg ?_
   refine sq_val (v_move hF rfl) hF (by decide) (fun a hF => ?_)
   refine sq_val (v_toStr hF rfl (hS.rw_ (i := 0) rfl).src pu82 pu5 pu9) hF (by decide) (fun a hF => ?_)
   refine sq_val (v_move hF rfl) hF (by decide) (fun a hF => ?_)
   refine sq_val (v_assign hF rfl) hF (by decide) (fun a hF => ?_)
   refine sq_val (v_assign hF rfl) hF (by decide) (fun a hF => ?_)
   refine sq_nil ?_
   refine then_n ?_
   refine wp_ret ?_
   obtain rfl := Option.some.inj h
   exact ret2 hF rfl (rv_tmp hF rfl) (rv_tmp hF rfl) ⟨_, rfl, rfl, (hS.keep (List.Sublist.refl _) (List.nil_sublist _) trivial)⟩
  ·
   have hS := hS.addNil (kInt .u8) 5
   refine wp_block ?_
   refine wp_loop_fuel (I := fun m a W => ∃ (x10 : List Int) (x13 : Bool) (x14 : Int) (A11 : Option Addr) (c12 : Nat), FH 70 [(1, .pointer (some (⟨b1, 0, none⟩))), (4, .slice A11 ((x10).length) c12), (5, .bool (x13)), (6, .int .i64 (x14))] a ∧ St M w0 [⟨b1, TCube.enc u0, 26⟩] [⟨(kInt .u8), 5, A11, c12, x10⟩] [] W ∧ (ref01_Text.l0 k u0 m x10 x13 x14) = some o19) ?_ (k := k) ⟨([]), x2, 0, none, 0, (hF.keep ⟨rfl, rfl, rfl, rfl, trivial⟩), hS, h⟩
   rintro m21 a W ⟨x10, x13, x14, A11, c12, hF, hS, h⟩
   cases m21 with
   | zero => cases h
   | succ m21 =>
    rw [ref01_Text.l0] at h
    refine wp_seq ?_
    refine wp_seq ?_
    refine wp_reg ?_
    refine sq_val (v_move hF rfl) hF (by decide) (fun a hF => ?_)
    refine sq_val (v_lss hF rfl rfl) hF (by decide) (fun a hF => ?_)
    refine sq_nil ?_
    refine then_n ?_
    refine wp_if hF rfl (fun he22 => ?_) (fun he22 => ?_)
    ·
     replace h := ifT he22 h
     refine wp_skip ?_
     refine then_n ?_
     refine wp_seq ?_
     refine wp_block ?_
     refine wp_seq ?_
     refine wp_seq ?_
     refine wp_quiet rfl (by kernel_rfl) hS ?_
     refine qt_val (fun W hC => (v_move hF rfl)) hF (by decide) (fun a hF => ?_)
     refine qt_val (fun W hC => (v_fieldAddr hF rfl pf26_0)) hF (by decide) (fun a hF => ?_)
     obtain ⟨hb23, h⟩ := ifS h
     refine qt_val (fun W hC => (v_indexAddr hF rfl rfl par24 hb23.1 hb23.2)) hF (by decide) (fun a hF => ?_)
     refine qt_val (fun W hC => (v_load1 hF rfl pa22 (cells_sub (vs := [.int .u64 ((u0.Value.at x14))]) (hC.2.bc (i := 0) rfl) (add_add _ _ _) (TCube.get_Value u0 x14 hb23.1 hb23.2)))) hF (by decide) (fun a hF => ?_)
     refine qt_val (fun W hC => (v_move hF rfl)) hF (by decide) (fun a hF => ?_)
     refine qt_val (fun W hC => (v_fieldAddr hF rfl pf26_1)) hF (by decide) (fun a hF => ?_)
     refine qt_val (fun W hC => (v_indexAddr hF rfl rfl par24 hb23.1 hb23.2)) hF (by decide) (fun a hF => ?_)
     refine qt_val (fun W hC => (v_load1 hF rfl pa22 (cells_sub (vs := [.int .u64 ((u0.Care.at x14))]) (hC.2.bc (i := 0) rfl) (add_add _ _ _) (TCube.get_Care u0 x14 hb23.1 hb23.2)))) hF (by decide) (fun a hF => ?_)
     refine qt_val (fun W hC => (v_andNot hF rfl rfl)) hF (by decide) (fun a hF => ?_)
     refine qt_val (fun W hC => (v_neq hF rfl rfl)) hF (by decide) (fun a hF => ?_)
     refine qt_nil ?_
     intro W hC
     have hS := hC.2
     refine then_n ?_
     obtain ⟨o25, h, hk26⟩ := bindS h
     refine wp_join (fun a W => ∃ (x24 : Bool), x24 = o25 ∧ FH 70 [(1, .pointer (some (⟨b1, 0, none⟩))), (4, .slice A11 ((x10).length) c12), (5, .bool (x24)), (6, .int .i64 (x14))] a ∧ St M w0 [⟨b1, TCube.enc u0, 26⟩] [⟨(kInt .u8), 5, A11, c12, x10⟩] [] W) (fun a W hJ => ?_) ?_
     ·
      obtain ⟨x24, rfl, hF, hS⟩ := hJ
      have h := hk26
      refine then_n ?_
      refine wp_seq ?_
      refine wp_drawn (QC M w0 [⟨b1, TCube.enc u0, 26⟩] [⟨(kInt .u8), 5, A11, c12, x10⟩] []) (fun _ => false) rfl hS (fun W hB0 hR0 => ?_)
      have hS := hR0
      have hQC : (QC M w0 [⟨b1, TCube.enc u0, 26⟩] [⟨(kInt .u8), 5, A11, c12, x10⟩] []) W W := ⟨Bl.refl _ _, hS⟩
      refine e_val (listed' := #[true, false, false, false, false, false, false, false, false, false, false, false, false, false, false, false]) 0 rfl (by kernel_rfl) (by kernel_rfl) (fun _ _ _ h => h) (fun W => (v_move hF rfl)) hF (by decide) (fun a hF => ?_)
      refine e_val (listed' := #[true, true, false, false, false, false, false, false, false, false, false, false, false, false, false, false]) 1 rfl (by kernel_rfl) (by kernel_rfl) (fun _ _ _ h => h) (fun W => (v_fieldAddr hF rfl pf26_0)) hF (by decide) (fun a hF => ?_)
      refine e_val (listed' := #[true, true, true, false, false, false, false, false, false, false, false, false, false, false, false, false]) 2 rfl (by kernel_rfl) (by kernel_rfl) (fun _ _ _ h => h) (fun W => (v_indexAddr hF rfl rfl par24 hb23.1 hb23.2)) hF (by decide) (fun a hF => ?_)
      refine e_valS (listed' := #[true, true, true, true, false, false, false, false, false, false, false, false, false, false, false, false]) 3 rfl (by kernel_rfl) (by kernel_rfl) (fun _ _ _ h => h) (fun W hC => (v_load1 hF rfl pa22 (cells_sub (vs := [.int .u64 ((u0.Value.at x14))]) (hC.2.bc (i := 0) rfl) (add_add _ _ _) (TCube.get_Value u0 x14 hb23.1 hb23.2)))) hQC (by kernel_rfl) hF (by decide) (fun a hF => ?_)
      refine e_val (listed' := #[true, true, true, true, true, false, false, false, false, false, false, false, false, false, false, false]) 4 rfl (by kernel_rfl) (by kernel_rfl) (fun _ _ _ h => h) (fun W => (v_move hF rfl)) hF (by decide) (fun a hF => ?_)
      refine e_val (listed' := #[true, true, true, true, true, false, false, true, false, false, false, false, false, false, false, false]) 7 rfl (by kernel_rfl) (by kernel_rfl) (fun _ _ _ h => h) (fun W => (v_move hF rfl)) hF (by decide) (fun a hF => ?_)
      refine e_val (listed' := #[true, true, true, true, true, false, false, true, true, false, false, false, false, false, false, false]) 8 rfl (by kernel_rfl) (by kernel_rfl) (fun _ _ _ h => h) (fun W => (v_fieldAddr hF rfl pf26_1)) hF (by decide) (fun a hF => ?_)
      refine e_val (listed' := #[true, true, true, true, true, false, false, true, true, true, false, false, false, false, false, false]) 9 rfl (by kernel_rfl) (by kernel_rfl) (fun _ _ _ h => h) (fun W => (v_indexAddr hF rfl rfl par24 hb23.1 hb23.2)) hF (by decide) (fun a hF => ?_)
      refine e_valS (listed' := #[true, true, true, true, true, false, false, true, true, true, true, false, false, false, false, false]) 10 rfl (by kernel_rfl) (by kernel_rfl) (fun _ _ _ h => h) (fun W hC => (v_load1 hF rfl pa22 (cells_sub (vs := [.int .u64 ((u0.Care.at x14))]) (hC.2.bc (i := 0) rfl) (add_add _ _ _) (TCube.get_Care u0 x14 hb23.1 hb23.2)))) hQC (by kernel_rfl) hF (by decide) (fun a hF => ?_)
      refine e_val (listed' := #[true, true, true, true, true, false, false, true, true, true, true, true, false, false, false, false]) 11 rfl (by kernel_rfl) (by kernel_rfl) (fun _ _ _ h => h) (fun W => (v_move hF rfl)) hF (by decide) (fun a hF => ?_)
      refine e_one (listed' := #[true, true, true, true, true, true, false, true, true, true, true, true, false, false, false, false]) 5 rfl (by kernel_rfl) (by kernel_rfl) ?_
      obtain ⟨x27, hx28, h⟩ := bindS h
      refine sq_call hF pc110 rfl (by decide) (ok_ref01_Size (hS.enter trivial) hx28) (fun v W hR a hF => ?_)
      obtain ⟨rfl, hT29⟩ := hR
      have hS := hS.grow hT29.below
      refine sq_nil (then_j ⟨?_, ?_⟩)
      · exact fun hQ0 _ => hQ0.next hT29.below
      ·
       have hQC := hQC.next hT29.below
       refine e_one (listed' := #[true, true, true, true, true, true, true, true, true, true, true, true, false, false, false, false]) 6 rfl (by kernel_rfl) (by kernel_rfl) ?_
       obtain ⟨x30, hx31, h⟩ := bindS h
       refine sq_call hF pc109 rfl (by decide) (ok_ref01_Bits k (hS.enter trivial) hx31) (fun v W hR a hF => ?_)
       obtain ⟨A32, c33, rfl, hT34⟩ := hR
       have hS := hS.join hT34
       refine sq_nil (then_j ⟨?_, ?_⟩)
       · exact fun hQ0 _ => hQ0.next hT34.below
       ·
        have hQC := hQC.next hT34.below
        refine e_one (listed' := #[true, true, true, true, true, true, true, true, true, true, true, true, true, false, false, false]) 12 rfl (by kernel_rfl) (by kernel_rfl) ?_
        refine sq_call hF pc110 rfl (by decide) (ok_ref01_Size (hS.enter trivial) hx28) (fun v W hR a hF => ?_)
        obtain ⟨rfl, hT35⟩ := hR
        have hS := hS.grow hT35.below
        refine sq_nil (then_j ⟨?_, ?_⟩)
        · exact fun hQ0 _ => hQ0.next hT35.below
        ·
         have hQC := hQC.next hT35.below
         refine e_one (listed' := #[true, true, true, true, true, true, true, true, true, true, true, true, true, true, false, false]) 13 rfl (by kernel_rfl) (by kernel_rfl) ?_
         obtain ⟨x36, hx37, h⟩ := bindS h
         refine sq_call hF pc109 rfl (by decide) (ok_ref01_Bits k (hS.enter trivial) hx37) (fun v W hR a hF => ?_)
         obtain ⟨A38, c39, rfl, hT40⟩ := hR
         have hS := hS.join hT40
         refine sq_nil (then_j ⟨?_, ?_⟩)
         · exact fun hQ0 _ => hQ0.next hT40.below
         ·
          have hQC := hQC.next hT40.below
          refine e_val (listed' := #[true, true, true, true, true, true, true, true, true, true, true, true, true, true, true, false]) 14 rfl (by kernel_rfl) (by kernel_rfl) (fun _ _ _ h => h) (fun W => (v_assign hF rfl)) hF (by decide) (fun a hF => ?_)
          refine e_val (listed' := #[true, true, true, true, true, true, true, true, true, true, true, true, true, true, true, true]) 15 rfl (by kernel_rfl) (by kernel_rfl) (fun _ _ _ h => h) (fun W => (v_assign hF rfl)) hF (by decide) (fun a hF => ?_)
          refine e_done (by kernel_rfl) ?_ _
          refine then_n ?_
          refine wp_seq ?_
          refine wp_reg ?_
          refine sq_val (v_assign hF rfl) hF (by decide) (fun a hF => ?_)
          refine sq_nil ?_
          refine then_n ?_
          obtain ⟨o52, h, hk53⟩ := bindS h
          refine wp_join (fun a W => ∃ (x49 : List Int) (A50 : Option Addr) (c51 : Nat), x49 = o52 ∧ FH 70 [(1, .pointer (some (⟨b1, 0, none⟩))), (4, .slice A50 ((x49).length) c51), (5, .bool (x24)), (6, .int .i64 (x14))] a ∧ St M w0 [⟨b1, TCube.enc u0, 26⟩] [⟨(kInt .u8), 5, A50, c51, x49⟩] [] W) (fun a W hJ => ?_) ?_
          ·
           obtain ⟨x49, A50, c51, rfl, hF, hS⟩ := hJ
           have h := hk53
           refine blk_n ?_
           refine then_n ?_
           refine wp_reg ?_
           refine sq_val (v_move hF rfl) hF (by decide) (fun a hF => ?_)
           refine sq_val (v_add hF rfl rfl) hF (by decide) (fun a hF => ?_)
           refine sq_val (v_assign hF rfl) hF (by decide) (fun a hF => ?_)
           refine sq_nil ?_
           exact then_j ⟨m21, Nat.lt_succ_self _, x49, x24, (IntKind.i64.wrap (x14 + 1)), A50, c51, (hF.keep ⟨rfl, rfl, rfl, rfl, trivial⟩), hS, h⟩
          ·
           have hS := hS.perm (List.Perm.refl _) (.trans (.cons _ (.swap _ _ _)) (.trans (.swap _ _ _) (List.Perm.refl _)))
           refine wp_block ?_
           refine wp_loop_fuel (I := fun m a W => ∃ (x45 : List Int) (x48 : Int) (A46 : Option Addr) (c47 : Nat), FH 70 [(1, .pointer (some (⟨b1, 0, none⟩))), (4, .slice A46 ((x45).length) c47), (5, .bool (x24)), (6, .int .i64 (x14)), (7, .slice A32 ((x30).length) c33), (8, .slice A38 ((x36).length) c39), (9, .int .i64 (x48))] a ∧ St M w0 [⟨b1, TCube.enc u0, 26⟩] [⟨(kInt .u8), 5, A46, c47, x45⟩, ⟨kBool, 4, A38, c39, x36⟩, ⟨kBool, 4, A32, c33, x30⟩] [] W ∧ (ref01_Text.l1 k x30 x36 m x45 x48) = some o52) ?_ (k := k) ⟨x10, 0, A11, c12, (hF.keep ⟨rfl, rfl, rfl, rfl, rfl, rfl, rfl, trivial⟩), hS, h⟩
           rintro m54 a W ⟨x45, x48, A46, c47, hF, hS, h⟩
           cases m54 with
           | zero => cases h
           | succ m54 =>
            rw [ref01_Text.l1] at h
            refine wp_seq ?_
            refine wp_seq ?_
            refine wp_reg ?_
            refine sq_val (v_move hF rfl) hF (by decide) (fun a hF => ?_)
            refine sq_val (v_move hF rfl) hF (by decide) (fun a hF => ?_)
            refine sq_val (v_len hF rfl pu116) hF (by decide) (fun a hF => ?_)
            refine sq_val (v_lss hF rfl rfl) hF (by decide) (fun a hF => ?_)
            refine sq_nil ?_
            refine then_n ?_
            refine wp_if hF rfl (fun he55 => ?_) (fun he55 => ?_)
            ·
             replace h := ifT he55 h
             refine wp_skip ?_
             refine then_n ?_
             refine wp_seq ?_
             obtain ⟨o59, h, hk60⟩ := bindS h
             refine wp_join (fun a W => ∃ (x56 : List Int) (A57 : Option Addr) (c58 : Nat), x56 = o59 ∧ FH 70 [(1, .pointer (some (⟨b1, 0, none⟩))), (4, .slice A57 ((x56).length) c58), (5, .bool (x24)), (6, .int .i64 (x14)), (7, .slice A32 ((x30).length) c33), (8, .slice A38 ((x36).length) c39), (9, .int .i64 (x48))] a ∧ St M w0 [⟨b1, TCube.enc u0, 26⟩] [⟨(kInt .u8), 5, A57, c58, x56⟩, ⟨kBool, 4, A38, c39, x36⟩, ⟨kBool, 4, A32, c33, x30⟩] [] W) (fun a W hJ => ?_) ?_
             ·
              obtain ⟨x56, A57, c58, rfl, hF, hS⟩ := hJ
              have h := hk60
              refine then_n ?_
              refine wp_reg ?_
              refine sq_val (v_move hF rfl) hF (by decide) (fun a hF => ?_)
              refine sq_val (v_add hF rfl rfl) hF (by decide) (fun a hF => ?_)
              refine sq_val (v_assign hF rfl) hF (by decide) (fun a hF => ?_)
              refine sq_nil ?_
              exact then_j ⟨m54, Nat.lt_succ_self _, x56, (IntKind.i64.wrap (x48 + 1)), A57, c58, (hF.keep ⟨rfl, rfl, rfl, rfl, rfl, rfl, rfl, trivial⟩), hS, h⟩
             ·
              refine wp_block ?_
              obtain ⟨o64, h, hk65⟩ := bindS h
              refine wp_join (fun a W => ∃ (x61 : List Int) (A62 : Option Addr) (c63 : Nat), x61 = o64 ∧ FH 70 [(1, .pointer (some (⟨b1, 0, none⟩))), (4, .slice A62 ((x61).length) c63), (5, .bool (x24)), (6, .int .i64 (x14)), (7, .slice A32 ((x30).length) c33), (8, .slice A38 ((x36).length) c39), (9, .int .i64 (x48))] a ∧ St M w0 [⟨b1, TCube.enc u0, 26⟩] [⟨(kInt .u8), 5, A62, c63, x61⟩, ⟨kBool, 4, A38, c39, x36⟩, ⟨kBool, 4, A32, c33, x30⟩] [] W) (fun a W hJ => ?_) ?_
              ·
               obtain ⟨x61, A62, c63, rfl, hF, hS⟩ := hJ
               have h := hk65
               refine blk_n ?_
               obtain rfl := Option.some.inj h
               exact then_j ⟨x61, A62, c63, rfl, (hF.keep ⟨rfl, rfl, rfl, rfl, rfl, rfl, rfl, trivial⟩), hS⟩
              ·
               refine wp_block ?_
               refine wp_seq ?_
               refine wp_reg ?_
               refine sq_val (v_move hF rfl) hF (by decide) (fun a hF => ?_)
               refine sq_val (v_move hF rfl) hF (by decide) (fun a hF => ?_)
               obtain ⟨x66, hx67, h⟩ := bindS h
               obtain ⟨p68, cs69, hA70, hc72, hr73⟩ := Row.ok.at (hS.rw_ (i := 1) rfl) hx67
               obtain rfl : cs69 = [.bool (x66)] := hr73
               refine sq_val (v_idx hF rfl hA70 rfl psl116 hx67) hF (by decide) (fun a hF => ?_)
               refine sq_val (v_load1 hF rfl pa4 hc72) hF (by decide) (fun a hF => ?_)
               refine sq_val (v_not hF rfl) hF (by decide) (fun a hF => ?_)
               refine sq_val (v_assign hF rfl) hF (by decide) (fun a hF => ?_)
               refine sq_nil ?_
               refine then_n ?_
               obtain ⟨o77, h, hk78⟩ := bindS h
               refine wp_join (fun a W => ∃ (x74 : List Int) (A75 : Option Addr) (c76 : Nat), x74 = o77 ∧ FH 70 [(1, .pointer (some (⟨b1, 0, none⟩))), (4, .slice A75 ((x74).length) c76), (5, .bool (x24)), (6, .int .i64 (x14)), (7, .slice A32 ((x30).length) c33), (8, .slice A38 ((x36).length) c39), (9, .int .i64 (x48))] a ∧ St M w0 [⟨b1, TCube.enc u0, 26⟩] [⟨(kInt .u8), 5, A75, c76, x74⟩, ⟨kBool, 4, A38, c39, x36⟩, ⟨kBool, 4, A32, c33, x30⟩] [] W) (fun a W hJ => ?_) ?_
               ·
                obtain ⟨x74, A75, c76, rfl, hF, hS⟩ := hJ
                have h := hk78
                refine blk_n ?_
                obtain rfl := Option.some.inj h
                exact then_j ⟨x74, A75, c76, rfl, (hF.keep ⟨rfl, rfl, rfl, rfl, rfl, rfl, rfl, trivial⟩), hS⟩
               ·
                refine wp_if hF rfl (fun he79 => ?_) (fun he79 => ?_)
                ·
                 replace h := ifT he79 h
                 refine wp_reg ?_
                 refine sq_val (v_move hF rfl) hF (by decide) (fun a hF => ?_)
                 refine sq_buildSlice (κ := (kInt .u8)) (xs := [.const (.int .u8 120)]) (ys := [120]) hF hS rfl rfl rfl (Els.cons rfl (Els.nil _ _ _)) rfl psl82 pz5 rfl (by decide) (by decide) (by decide) (fun A80 c81 a W hF hS => ?_)
                 obtain ⟨x84, hx85, h⟩ := bindS h
                 refine sq_append (ys := ([120])) hF hS (i := 1) rfl rfl rfl (hS.rw_ (i := 0) rfl).src psl82 pb5 pz5 rfl (by decide) (by decide) hx85 (by decide) (fun A82 c83 a W hF hS => ?_)
                 refine sq_val (v_assign hF rfl) hF (by decide) (fun a hF => ?_)
                 refine sq_nil ?_
                 obtain rfl := Option.some.inj h
                 exact then_j ⟨x84, A82, c83, rfl, (hF.keep ⟨rfl, rfl, rfl, rfl, rfl, rfl, rfl, trivial⟩), (hS.keep (List.Sublist.refl _) (.cons _ (List.Sublist.refl _)) trivial)⟩
                ·
                 replace h := ifF he79 h
                 refine wp_seq ?_
                 refine wp_reg ?_
                 refine sq_val (v_move hF rfl) hF (by decide) (fun a hF => ?_)
                 refine sq_val (v_move hF rfl) hF (by decide) (fun a hF => ?_)
                 obtain ⟨x86, hx87, h⟩ := bindS h
                 obtain ⟨p88, cs89, hA90, hc92, hr93⟩ := Row.ok.at (hS.rw_ (i := 2) rfl) hx87
                 obtain rfl : cs89 = [.bool (x86)] := hr93
                 refine sq_val (v_idx hF rfl hA90 rfl psl116 hx87) hF (by decide) (fun a hF => ?_)
                 refine sq_val (v_load1 hF rfl pa4 hc92) hF (by decide) (fun a hF => ?_)
                 refine sq_val (v_assign hF rfl) hF (by decide) (fun a hF => ?_)
                 refine sq_nil ?_
                 refine then_n ?_
                 obtain ⟨o97, h, hk98⟩ := bindS h
                 refine wp_join (fun a W => ∃ (x94 : List Int) (A95 : Option Addr) (c96 : Nat), x94 = o97 ∧ FH 70 [(1, .pointer (some (⟨b1, 0, none⟩))), (4, .slice A95 ((x94).length) c96), (5, .bool (x24)), (6, .int .i64 (x14)), (7, .slice A32 ((x30).length) c33), (8, .slice A38 ((x36).length) c39), (9, .int .i64 (x48))] a ∧ St M w0 [⟨b1, TCube.enc u0, 26⟩] [⟨(kInt .u8), 5, A95, c96, x94⟩, ⟨kBool, 4, A38, c39, x36⟩, ⟨kBool, 4, A32, c33, x30⟩] [] W) (fun a W hJ => ?_) ?_
                 ·
                  obtain ⟨x94, A95, c96, rfl, hF, hS⟩ := hJ
                  have h := hk98
                  obtain rfl := Option.some.inj h
                  exact then_j ⟨x94, A95, c96, rfl, (hF.keep ⟨rfl, rfl, rfl, rfl, rfl, rfl, rfl, trivial⟩), hS⟩
                 ·
                  refine wp_if hF rfl (fun he99 => ?_) (fun he99 => ?_)
                  ·
                   replace h := ifT he99 h
                   refine wp_reg ?_
                   refine sq_val (v_move hF rfl) hF (by decide) (fun a hF => ?_)
                   refine sq_buildSlice (κ := (kInt .u8)) (xs := [.const (.int .u8 49)]) (ys := [49]) hF hS rfl rfl rfl (Els.cons rfl (Els.nil _ _ _)) rfl psl82 pz5 rfl (by decide) (by decide) (by decide) (fun A100 c101 a W hF hS => ?_)
                   obtain ⟨x104, hx105, h⟩ := bindS h
                   refine sq_append (ys := ([49])) hF hS (i := 1) rfl rfl rfl (hS.rw_ (i := 0) rfl).src psl82 pb5 pz5 rfl (by decide) (by decide) hx105 (by decide) (fun A102 c103 a W hF hS => ?_)
                   refine sq_val (v_assign hF rfl) hF (by decide) (fun a hF => ?_)
                   refine sq_nil ?_
                   obtain rfl := Option.some.inj h
                   exact then_j ⟨x104, A102, c103, rfl, (hF.keep ⟨rfl, rfl, rfl, rfl, rfl, rfl, rfl, trivial⟩), (hS.keep (List.Sublist.refl _) (.cons _ (List.Sublist.refl _)) trivial)⟩
                  ·
                   replace h := ifF he99 h
                   refine wp_reg ?_
                   refine sq_val (v_move hF rfl) hF (by decide) (fun a hF => ?_)
                   refine sq_buildSlice (κ := (kInt .u8)) (xs := [.const (.int .u8 48)]) (ys := [48]) hF hS rfl rfl rfl (Els.cons rfl (Els.nil _ _ _)) rfl psl82 pz5 rfl (by decide) (by decide) (by decide) (fun A106 c107 a W hF hS => ?_)
                   obtain ⟨x110, hx111, h⟩ := bindS h
                   refine sq_append (ys := ([48])) hF hS (i := 1) rfl rfl rfl (hS.rw_ (i := 0) rfl).src psl82 pb5 pz5 rfl (by decide) (by decide) hx111 (by decide) (fun A108 c109 a W hF hS => ?_)
                   refine sq_val (v_assign hF rfl) hF (by decide) (fun a hF => ?_)
                   refine sq_nil ?_
                   obtain rfl := Option.some.inj h
                   exact then_j ⟨x110, A108, c109, rfl, (hF.keep ⟨rfl, rfl, rfl, rfl, rfl, rfl, rfl, trivial⟩), (hS.keep (List.Sublist.refl _) (.cons _ (List.Sublist.refl _)) trivial)⟩
            ·
             replace h := ifF he55 h
             refine wp_exit ?_
             refine then_x ?_
             refine then_x ?_
             refine blk_hit ?_
             obtain rfl := Option.some.inj h
             exact then_j ⟨x45, A46, c47, rfl, (hF.keep ⟨rfl, rfl, rfl, rfl, trivial⟩), (hS.keep (List.Sublist.refl _) (.cons_cons _ (List.nil_sublist _)) trivial)⟩
     ·
      refine wp_if hF rfl (fun he112 => ?_) (fun he112 => ?_)
      ·
       replace h := ifT he112 h
       refine wp_reg ?_
       refine sq_val (v_assign hF rfl) hF (by decide) (fun a hF => ?_)
       refine sq_nil ?_
       obtain rfl := Option.some.inj h
       exact then_j ⟨false, rfl, (hF.keep ⟨rfl, rfl, rfl, rfl, trivial⟩), hS⟩
      ·
       replace h := ifF he112 h
       refine wp_skip ?_
       obtain rfl := Option.some.inj h
       exact then_j ⟨x13, rfl, (hF.keep ⟨rfl, rfl, rfl, rfl, trivial⟩), hS⟩
    ·
     replace h := ifF he22 h
     refine wp_exit ?_
     refine then_x ?_
     refine then_x ?_
     refine blk_hit ?_
     obtain rfl := Option.some.inj h
     exact then_j ⟨x10, x13, A11, c12, rfl, (hF.keep ⟨rfl, rfl, trivial⟩), (hS.keep (List.nil_sublist _) (List.Sublist.refl _) trivial)⟩

theorem ok_ref01_Cube (k : Nat) {M : Nat → Prop} {w0 : World} {u0 : TCube} {o : Bool} (hS : St M w0 [] [] [] w0) (h : ref01_Cube k u0 = some o) :
    Calls Try.prog 17 #[.agg (TCube.enc u0).toArray] w0 fun e W' => ∃ v, e = .returned v ∧ (v = .bool (o) ∧ St M w0 [] [] [] W') := by
  unfold ref01_Cube at h
  refine calls_start (args := [.agg (TCube.enc u0).toArray]) Try.func17 rfl rfl (Nat.le_of_ble_eq_true rfl) (fun a hF => ?_)
  refine wp_seq ?_
  refine wp_reg ?_
  refine sq_box hF hS rfl rfl (by decide) (fun b1 a W hF hS => ?_)
  refine sq_val (v_assign hF rfl) hF (by decide) (fun a hF => ?_)
  refine sq_nil ?_
  refine then_n ?_
  refine wp_seq ?_
  refine wp_reg ?_
  refine sq_val (v_load (cs := TCube.enc u0) hF rfl pa26 ps26 (hS.bc (i := 0) rfl)) hF (by decide) (fun a hF => ?_)
  obtain ⟨x2, hx3, h⟩ := bindS h
  refine sq_call hF pc55 rfl (by decide) (ok_ref01_Text k (hS.enter trivial) hx3) (fun v W hR a hF => ?_)
  obtain ⟨rfl, hT4⟩ := hR
  have hS := hS.grow hT4.below
  refine sq_val (v_move hF rfl) hF (by decide) (fun a hF => ?_)
  refine sq_val (v_extract hF rfl rfl) hF (by decide) (fun a hF => ?_)
  refine sq_val (v_extract hF rfl rfl) hF (by decide) (fun a hF => ?_)
  refine sq_val (v_assign hF rfl) hF (by decide) (fun a hF => ?_)
  refine sq_val (v_assign hF rfl) hF (by decide) (fun a hF => ?_)
  refine sq_nil ?_
  refine then_n ?_
  refine wp_seq ?_
  refine wp_reg ?_
  refine sq_val (v_move hF rfl) hF (by decide) (fun a hF => ?_)
  refine sq_val (v_assign hF rfl) hF (by decide) (fun a hF => ?_)
  refine sq_nil ?_
  refine then_n ?_
  refine wp_ret ?_
  obtain rfl := Option.some.inj h
  exact ret1 hF rfl (rv_tmp hF rfl) ⟨_, rfl, rfl, (hS.keep (List.nil_sublist _) (List.Sublist.refl _) trivial)⟩

theorem ok_ref04_Acts (k : Nat) {M : Nat → Prop} {w0 : World} {u0 : List TAct} {A0_0 : Option Addr} {c0_0 : Nat} {o : Bool} (hS : St M w0 [] [] [fSl k_TAct A0_0 c0_0 u0] w0) (h : ref04_Acts k u0 = some o) :
    Calls Try.prog 79 #[.slice A0_0 ((u0).length) c0_0] w0 fun e W' => ∃ v, e = .returned v ∧ (v = .bool (o) ∧ St M w0 [] [] [] W') := by
  unfold ref04_Acts at h
  refine calls_start (args := [.slice A0_0 ((u0).length) c0_0]) Try.func79 rfl rfl (Nat.le_of_ble_eq_true rfl) (fun a hF => ?_)
  refine wp_seq ?_
  refine wp_reg ?_
  refine sq_val (v_assign hF rfl) hF (by decide) (fun a hF => ?_)
  refine sq_nil ?_
  refine then_n ?_
  refine wp_seq ?_
  refine wp_seq ?_
  refine wp_reg ?_
  refine sq_val (v_assign hF rfl) hF (by decide) (fun a hF => ?_)
  refine sq_nil ?_
  refine then_n ?_
  obtain ⟨o3, h, hk4⟩ := bindS h
  refine wp_join (fun a W => Lo.brk () = o3 ∧ FH 81 [(0, .slice A0_0 ((u0).length) c0_0)] a ∧ St M w0 [] [] [fSl k_TAct A0_0 c0_0 u0] W) (fun a W hJ => ?_) ?_
  ·
   obtain ⟨rfl, hF, hS⟩ := hJ
   have h := hk4
   dsimp only at h
   refine then_n ?_
   refine wp_seq ?_
   refine wp_reg ?_
   refine sq_val (v_move hF rfl) hF (by decide) (fun a hF => ?_)
   refine sq_val (v_len hF rfl pu38) hF (by decide) (fun a hF => ?_)
   refine sq_val (v_leq hF rfl rfl) hF (by decide) (fun a hF => ?_)
   refine sq_val (v_assign hF rfl) hF (by decide) (fun a hF => ?_)
   refine sq_nil ?_
   refine then_n ?_
   refine wp_ret ?_
   obtain rfl := Option.some.inj h
   exact ret1 hF rfl (rv_tmp hF rfl) ⟨_, rfl, rfl, (hS.keep (List.Sublist.refl _) (List.Sublist.refl _) trivial)⟩
  ·
   refine wp_block ?_
   refine wp_loop_fuel (I := fun m a W => ∃ (x2 : Int), FH 81 [(0, .slice A0_0 ((u0).length) c0_0), (3, .int .i64 (x2))] a ∧ St M w0 [] [] [fSl k_TAct A0_0 c0_0 u0] W ∧ (ref04_Acts.l0 k u0 m x2) = some o3) ?_ (k := k) ⟨0, (hF.keep ⟨rfl, rfl, trivial⟩), hS, h⟩
   rintro m5 a W ⟨x2, hF, hS, h⟩
   cases m5 with
   | zero => cases h
   | succ m5 =>
    rw [ref04_Acts.l0] at h
    refine wp_seq ?_
    refine wp_seq ?_
    refine wp_reg ?_
    refine sq_val (v_move hF rfl) hF (by decide) (fun a hF => ?_)
    refine sq_val (v_move hF rfl) hF (by decide) (fun a hF => ?_)
    refine sq_val (v_len hF rfl pu38) hF (by decide) (fun a hF => ?_)
    refine sq_val (v_lss hF rfl rfl) hF (by decide) (fun a hF => ?_)
    refine sq_nil ?_
    refine then_n ?_
    refine wp_if hF rfl (fun he6 => ?_) (fun he6 => ?_)
    ·
     replace h := ifT he6 h
     refine wp_skip ?_
     refine then_n ?_
     refine wp_seq ?_
     refine wp_block ?_
     refine wp_seq ?_
     refine wp_reg ?_
     refine sq_val (v_move hF rfl) hF (by decide) (fun a hF => ?_)
     refine sq_val (v_move hF rfl) hF (by decide) (fun a hF => ?_)
     obtain ⟨x7, hx8, h⟩ := bindS h
     obtain ⟨p9, cs10, hA11, hat12⟩ := SlR.at (hS.fc (i := 0) rfl) hx8
     obtain rfl : cs10 = TAct.enc x7 := hat12.2.2.2
     have hS := hS.addFact (f := fAt k_TAct (p9.add (x2.toNat * 4)) (TAct.enc x7) x7) hat12
     refine sq_val (v_idx hF rfl hA11 rfl psl38 hx8) hF (by decide) (fun a hF => ?_)
     refine sq_val (v_load (cs := TAct.enc x7) hF rfl pa94 ps94 (hS.pc (i := 0) rfl)) hF (by decide) (fun a hF => ?_)
     refine sq_alloc hF hS pz94 rfl (by decide) (fun b13 a W hF hS => ?_)
     refine sq_store (o := 0) (vs := TAct.enc x7) (cs' := TAct.enc x7) hF hS rfl rfl (i := 0) rfl rfl rfl ps94 (TAct.enc_one _) (Nat.le_of_ble_eq_true rfl) rfl (fun W hS => ?_)
     refine sq_nil ?_
     refine then_n ?_
     refine wp_seq ?_
     refine wp_reg ?_
     refine sq_val (v_assign hF rfl) hF (by decide) (fun a hF => ?_)
     refine sq_nil ?_
     refine then_n ?_
     refine wp_seq ?_
     refine wp_seq ?_
     refine wp_reg ?_
     refine sq_val (v_fieldAddr hF rfl pf94_0) hF (by decide) (fun a hF => ?_)
     refine sq_val (v_load1 hF rfl pa3 (cells_sub (vs := [.int .i64 (x7.Kind)]) (hS.bc (i := 0) rfl) rfl rfl)) hF (by decide) (fun a hF => ?_)
     refine sq_nil ?_
     refine then_n ?_
     obtain ⟨o15, h, hk16⟩ := bindS h
     refine wp_join (fun a W => ∃ (x14 : Bool), x14 = o15 ∧ FH 81 [(0, .slice A0_0 ((u0).length) c0_0), (3, .int .i64 (x2)), (5, .bool (x14))] a ∧ St M w0 [] [] [fSl k_TAct A0_0 c0_0 u0] W) (fun a W hJ => ?_) ?_
     ·
      obtain ⟨x14, rfl, hF, hS⟩ := hJ
      have h := hk16
      refine then_n ?_
      refine wp_seq ?_
      refine wp_reg ?_
      refine sq_val (v_move hF rfl) hF (by decide) (fun a hF => ?_)
      refine sq_val (v_not hF rfl) hF (by decide) (fun a hF => ?_)
      refine sq_nil ?_
      refine then_n ?_
      refine wp_if hF rfl (fun he17 => ?_) (fun he17 => ?_)
      ·
       replace h := ifT he17 h
       refine wp_seq ?_
       refine wp_reg ?_
       refine sq_val (v_assign hF rfl) hF (by decide) (fun a hF => ?_)
       refine sq_nil ?_
       refine then_n ?_
       refine wp_ret ?_
       refine blk_r ?_
       refine then_r ?_
       refine then_r ?_
       refine blk_r ?_
       refine then_r ?_
       refine then_r ?_
       obtain rfl := Option.some.inj h
       have h := hk4
       dsimp only at h
       obtain rfl := Option.some.inj h
       exact ret1 hF rfl (rv_tmp hF rfl) ⟨_, rfl, rfl, (hS.keep (List.Sublist.refl _) (List.Sublist.refl _) trivial)⟩
      ·
       replace h := ifF he17 h
       refine wp_skip ?_
       refine blk_n ?_
       refine then_n ?_
       refine wp_reg ?_
       refine sq_val (v_move hF rfl) hF (by decide) (fun a hF => ?_)
       refine sq_val (v_add hF rfl rfl) hF (by decide) (fun a hF => ?_)
       refine sq_val (v_assign hF rfl) hF (by decide) (fun a hF => ?_)
       refine sq_nil ?_
       exact then_j ⟨m5, Nat.lt_succ_self _, (IntKind.i64.wrap (x2 + 1)), (hF.keep ⟨rfl, rfl, trivial⟩), hS, h⟩
     ·
      refine wp_block ?_
      refine wp_seq ?_
      refine wp_reg ?_
      refine sq_val (v_eql hF rfl rfl) hF (by decide) (fun a hF => ?_)
      refine sq_val (v_assign hF rfl) hF (by decide) (fun a hF => ?_)
      refine sq_nil ?_
      refine then_n ?_
      obtain ⟨o19, h, hk20⟩ := bindS h
      refine wp_join (fun a W => ∃ (x18 : Bool), x18 = o19 ∧ FH 81 [(0, .slice A0_0 ((u0).length) c0_0), (3, .int .i64 (x2)), (5, .bool (x18))] a ∧ St M w0 [] [] [fSl k_TAct A0_0 c0_0 u0] W) (fun a W hJ => ?_) ?_
      ·
       obtain ⟨x18, rfl, hF, hS⟩ := hJ
       have h := hk20
       refine blk_n ?_
       obtain rfl := Option.some.inj h
       exact then_j ⟨x18, rfl, (hF.keep ⟨rfl, rfl, rfl, trivial⟩), hS⟩
      ·
       refine wp_if hF rfl (fun he21 => ?_) (fun he21 => ?_)
       ·
        replace h := ifT he21 h
        refine wp_reg ?_
        refine sq_val (v_fieldAddr hF rfl pf94_1) hF (by decide) (fun a hF => ?_)
        refine sq_val (v_load1 hF rfl pa3 (cells_sub (vs := [.int .i64 (x7.Port)]) (hS.bc (i := 0) rfl) rfl rfl)) hF (by decide) (fun a hF => ?_)
        refine sq_val (v_geq hF rfl rfl) hF (by decide) (fun a hF => ?_)
        refine sq_val (v_move hF rfl) hF (by decide) (fun a hF => ?_)
        refine sq_cut 4 (fun a W => FH 81 [(0, .slice A0_0 ((u0).length) c0_0), (3, .int .i64 (x2)), (4, .pointer (some (⟨b13, 0, none⟩))), (27, .bool ((decide (1 ≤ x7.Port)) && (decide (x7.Port ≤ 16))))] a ∧ St M w0 [⟨b13, TAct.enc x7, 94⟩] [] [fAt k_TAct (p9.add (x2.toNat * 4)) (TAct.enc x7) x7, fSl k_TAct A0_0 c0_0 u0] W) (fun a W hJ => ?_) ?_
        ·
         obtain ⟨hF, hS⟩ := hJ
         refine sq_val (v_move hF rfl) hF (by decide) (fun a hF => ?_)
         refine sq_cut 4 (fun a W => FH 81 [(0, .slice A0_0 ((u0).length) c0_0), (3, .int .i64 (x2)), (4, .pointer (some (⟨b13, 0, none⟩))), (32, .bool (((decide (1 ≤ x7.Port)) && (decide (x7.Port ≤ 16))) && (x7.Field == 0)))] a ∧ St M w0 [⟨b13, TAct.enc x7, 94⟩] [] [fAt k_TAct (p9.add (x2.toNat * 4)) (TAct.enc x7) x7, fSl k_TAct A0_0 c0_0 u0] W) (fun a W hJ => ?_) ?_
         ·
          obtain ⟨hF, hS⟩ := hJ
          refine sq_val (v_move hF rfl) hF (by decide) (fun a hF => ?_)
          refine sq_cut 4 (fun a W => FH 81 [(0, .slice A0_0 ((u0).length) c0_0), (3, .int .i64 (x2)), (37, .bool ((((decide (1 ≤ x7.Port)) && (decide (x7.Port ≤ 16))) && (x7.Field == 0)) && (x7.Value == 0)))] a ∧ St M w0 [⟨b13, TAct.enc x7, 94⟩] [] [fAt k_TAct (p9.add (x2.toNat * 4)) (TAct.enc x7) x7, fSl k_TAct A0_0 c0_0 u0] W) (fun a W hJ => ?_) ?_
          ·
           obtain ⟨hF, hS⟩ := hJ
           refine sq_val (v_assign hF rfl) hF (by decide) (fun a hF => ?_)
           refine sq_nil ?_
           obtain rfl := Option.some.inj h
           exact then_j ⟨((((decide (1 ≤ x7.Port)) && (decide (x7.Port ≤ 16))) && (x7.Field == 0)) && (x7.Value == 0)), rfl, (hF.keep ⟨rfl, rfl, rfl, trivial⟩), (hS.keep (List.nil_sublist _) (List.Sublist.refl _) ⟨⟨1, rfl⟩, trivial⟩)⟩
          ·
           by_cases he24 : (((decide (1 ≤ x7.Port)) && (decide (x7.Port ≤ 16))) && (x7.Field == 0)) = true
           ·
            refine sq_yes hF rfl rfl he24 ?_
            refine sq_val (v_fieldAddr hF rfl pf94_3) hF (by decide) (fun a hF => ?_)
            refine sq_yes hF rfl rfl he24 ?_
            refine sq_val (v_load1 hF rfl pa22 (cells_sub (vs := [.int .u64 (x7.Value)]) (hS.bc (i := 0) rfl) rfl rfl)) hF (by decide) (fun a hF => ?_)
            refine sq_yes hF rfl rfl he24 ?_
            refine sq_val (v_eql hF rfl rfl) hF (by decide) (fun a hF => ?_)
            refine sq_val (v_pick_t hF rfl he24 rfl) hF (by decide) (fun a hF => ?_)
            exact sq_nil (then_j ⟨(hF.keep ⟨rfl, rfl, (boolV (and_t he24)), trivial⟩), hS⟩)
           ·
            have he24 : (((decide (1 ≤ x7.Port)) && (decide (x7.Port ≤ 16))) && (x7.Field == 0)) = false := nB he24
            refine sq_no hF rfl rfl he24 (by rintro x ⟨⟩; decide) (fun a hF => ?_)
            refine sq_no hF rfl rfl he24 (by rintro x ⟨⟩; decide) (fun a hF => ?_)
            refine sq_no hF rfl rfl he24 (by rintro x ⟨⟩; decide) (fun a hF => ?_)
            refine sq_val (v_pick_f hF rfl he24 rfl) hF (by decide) (fun a hF => ?_)
            exact sq_nil (then_j ⟨(hF.keep ⟨rfl, rfl, (boolV (and_f he24)), trivial⟩), hS⟩)
         ·
          by_cases he23 : ((decide (1 ≤ x7.Port)) && (decide (x7.Port ≤ 16))) = true
          ·
           refine sq_yes hF rfl rfl he23 ?_
           refine sq_val (v_fieldAddr hF rfl pf94_2) hF (by decide) (fun a hF => ?_)
           refine sq_yes hF rfl rfl he23 ?_
           refine sq_val (v_load1 hF rfl pa3 (cells_sub (vs := [.int .i64 (x7.Field)]) (hS.bc (i := 0) rfl) rfl rfl)) hF (by decide) (fun a hF => ?_)
           refine sq_yes hF rfl rfl he23 ?_
           refine sq_val (v_eql hF rfl rfl) hF (by decide) (fun a hF => ?_)
           refine sq_val (v_pick_t hF rfl he23 rfl) hF (by decide) (fun a hF => ?_)
           exact sq_nil (then_j ⟨(hF.keep ⟨rfl, rfl, rfl, (boolV (and_t he23)), trivial⟩), hS⟩)
          ·
           have he23 : ((decide (1 ≤ x7.Port)) && (decide (x7.Port ≤ 16))) = false := nB he23
           refine sq_no hF rfl rfl he23 (by rintro x ⟨⟩; decide) (fun a hF => ?_)
           refine sq_no hF rfl rfl he23 (by rintro x ⟨⟩; decide) (fun a hF => ?_)
           refine sq_no hF rfl rfl he23 (by rintro x ⟨⟩; decide) (fun a hF => ?_)
           refine sq_val (v_pick_f hF rfl he23 rfl) hF (by decide) (fun a hF => ?_)
           exact sq_nil (then_j ⟨(hF.keep ⟨rfl, rfl, rfl, (boolV (and_f he23)), trivial⟩), hS⟩)
        ·
         by_cases he22 : (decide (1 ≤ x7.Port)) = true
         ·
          refine sq_yes hF rfl rfl he22 ?_
          refine sq_val (v_fieldAddr hF rfl pf94_1) hF (by decide) (fun a hF => ?_)
          refine sq_yes hF rfl rfl he22 ?_
          refine sq_val (v_load1 hF rfl pa3 (cells_sub (vs := [.int .i64 (x7.Port)]) (hS.bc (i := 0) rfl) rfl rfl)) hF (by decide) (fun a hF => ?_)
          refine sq_yes hF rfl rfl he22 ?_
          refine sq_val (v_leq hF rfl rfl) hF (by decide) (fun a hF => ?_)
          refine sq_val (v_pick_t hF rfl he22 rfl) hF (by decide) (fun a hF => ?_)
          exact sq_nil (then_j ⟨(hF.keep ⟨rfl, rfl, rfl, (boolV (and_t he22)), trivial⟩), hS⟩)
         ·
          have he22 : (decide (1 ≤ x7.Port)) = false := nB he22
          refine sq_no hF rfl rfl he22 (by rintro x ⟨⟩; decide) (fun a hF => ?_)
          refine sq_no hF rfl rfl he22 (by rintro x ⟨⟩; decide) (fun a hF => ?_)
          refine sq_no hF rfl rfl he22 (by rintro x ⟨⟩; decide) (fun a hF => ?_)
          refine sq_val (v_pick_f hF rfl he22 rfl) hF (by decide) (fun a hF => ?_)
          exact sq_nil (then_j ⟨(hF.keep ⟨rfl, rfl, rfl, (boolV (and_f he22)), trivial⟩), hS⟩)
       ·
        replace h := ifF he21 h
        refine wp_seq ?_
        refine wp_reg ?_
        refine sq_val (v_eql hF rfl rfl) hF (by decide) (fun a hF => ?_)
        refine sq_val (v_assign hF rfl) hF (by decide) (fun a hF => ?_)
        refine sq_nil ?_
        refine then_n ?_
        obtain ⟨o26, h, hk27⟩ := bindS h
        refine wp_join (fun a W => ∃ (x25 : Bool), x25 = o26 ∧ FH 81 [(0, .slice A0_0 ((u0).length) c0_0), (3, .int .i64 (x2)), (5, .bool (x25))] a ∧ St M w0 [] [] [fSl k_TAct A0_0 c0_0 u0] W) (fun a W hJ => ?_) ?_
        ·
         obtain ⟨x25, rfl, hF, hS⟩ := hJ
         have h := hk27
         obtain rfl := Option.some.inj h
         exact then_j ⟨x25, rfl, (hF.keep ⟨rfl, rfl, rfl, trivial⟩), hS⟩
        ·
         refine wp_if hF rfl (fun he28 => ?_) (fun he28 => ?_)
         ·
          replace h := ifT he28 h
          refine wp_quiet rfl (by kernel_rfl) hS ?_
          refine qt_val (fun W hC => (v_fieldAddr hF rfl pf94_1)) hF (by decide) (fun a hF => ?_)
          refine qt_val (fun W hC => (v_load1 hF rfl pa3 (cells_sub (vs := [.int .i64 (x7.Port)]) (hC.2.bc (i := 0) rfl) rfl rfl))) hF (by decide) (fun a hF => ?_)
          refine qt_val (fun W hC => (v_eql hF rfl rfl)) hF (by decide) (fun a hF => ?_)
          refine qt_val (fun W hC => (v_move hF rfl)) hF (by decide) (fun a hF => ?_)
          refine qt_cut 4 (fun a => FH 81 [(0, .slice A0_0 ((u0).length) c0_0), (3, .int .i64 (x2)), (4, .pointer (some (⟨b13, 0, none⟩))), (47, .bool ((x7.Port == 0) && (decide (0 ≤ x7.Field))))] a) (fun a hF => ?_) ?_
          ·
           refine qt_val (fun W hC => (v_move hF rfl)) hF (by decide) (fun a hF => ?_)
           refine qt_cut 4 (fun a => FH 81 [(0, .slice A0_0 ((u0).length) c0_0), (3, .int .i64 (x2)), (4, .pointer (some (⟨b13, 0, none⟩))), (52, .bool (((x7.Port == 0) && (decide (0 ≤ x7.Field))) && (decide (x7.Field < 12))))] a) (fun a hF => ?_) ?_
           ·
            refine qt_val (fun W hC => (v_move hF rfl)) hF (by decide) (fun a hF => ?_)
            obtain ⟨x32, h, hk34⟩ := bindS h
            refine qt_cut 7 (fun a => FH 81 [(0, .slice A0_0 ((u0).length) c0_0), (3, .int .i64 (x2)), (60, .bool x32)] a) (fun a hF => ?_) ?_
            ·
             have h := hk34
             refine qt_val (fun W hC => (v_assign hF rfl)) hF (by decide) (fun a hF => ?_)
             refine qt_nil ?_
             intro W hC
             have hS := hC.2
             obtain rfl := Option.some.inj h
             exact then_j ⟨x32, rfl, (hF.keep ⟨rfl, rfl, rfl, trivial⟩), (hS.keep (List.nil_sublist _) (List.Sublist.refl _) ⟨⟨1, rfl⟩, trivial⟩)⟩
            ·
             by_cases he31 : (((x7.Port == 0) && (decide (0 ≤ x7.Field))) && (decide (x7.Field < 12))) = true
             ·
              replace h := ifT he31 h
              refine qt_yes hF rfl rfl he31 ?_
              refine qt_val (fun W hC => (v_fieldAddr hF rfl pf94_3)) hF (by decide) (fun a hF => ?_)
              refine qt_yes hF rfl rfl he31 ?_
              refine qt_val (fun W hC => (v_load1 hF rfl pa22 (cells_sub (vs := [.int .u64 (x7.Value)]) (hC.2.bc (i := 0) rfl) rfl rfl))) hF (by decide) (fun a hF => ?_)
              refine qt_yes hF rfl rfl he31 ?_
              refine qt_val (fun W hC => (v_fieldAddr hF rfl pf94_2)) hF (by decide) (fun a hF => ?_)
              refine qt_yes hF rfl rfl he31 ?_
              refine qt_val (fun W hC => (v_load1 hF rfl pa3 (cells_sub (vs := [.int .i64 (x7.Field)]) (hC.2.bc (i := 0) rfl) rfl rfl))) hF (by decide) (fun a hF => ?_)
              refine qt_yes hF rfl rfl he31 ?_
              obtain ⟨x35, hx36, h⟩ := bindS h
              refine qt_call hF pc110 rfl (by decide) (fun W hC => q_of hC (ok_ref01_Size (hC.2.enter trivial) hx36)) (fun a hF => ?_)
              refine qt_yes hF rfl rfl he31 ?_
              obtain ⟨x37, hx38, h⟩ := bindS h
              refine qt_call hF pc114 rfl (by decide) (fun W hC => q_of hC (ok_ref01_Fits (hC.2.enter trivial) hx38)) (fun a hF => ?_)
              refine qt_val (fun W hC => (v_pick_t hF rfl he31 rfl)) hF (by decide) (fun a hF => ?_)
              obtain rfl := Option.some.inj h
              exact qt_nil (hF.keep ⟨rfl, rfl, rfl, trivial⟩)
             ·
              have he31 : (((x7.Port == 0) && (decide (0 ≤ x7.Field))) && (decide (x7.Field < 12))) = false := nB he31
              replace h := ifF he31 h
              refine qt_no hF rfl rfl he31 (by decide) (fun a hF => ?_)
              refine qt_no hF rfl rfl he31 (by decide) (fun a hF => ?_)
              refine qt_no hF rfl rfl he31 (by decide) (fun a hF => ?_)
              refine qt_no hF rfl rfl he31 (by decide) (fun a hF => ?_)
              refine qt_no hF rfl rfl he31 (by decide) (fun a hF => ?_)
              refine qt_no hF rfl rfl he31 (by decide) (fun a hF => ?_)
              refine qt_val (fun W hC => (v_pick_f hF rfl he31 rfl)) hF (by decide) (fun a hF => ?_)
              obtain rfl := Option.some.inj h
              exact qt_nil (hF.keep ⟨rfl, rfl, rfl, trivial⟩)
           ·
            by_cases he30 : ((x7.Port == 0) && (decide (0 ≤ x7.Field))) = true
            ·
             refine qt_yes hF rfl rfl he30 ?_
             refine qt_val (fun W hC => (v_fieldAddr hF rfl pf94_2)) hF (by decide) (fun a hF => ?_)
             refine qt_yes hF rfl rfl he30 ?_
             refine qt_val (fun W hC => (v_load1 hF rfl pa3 (cells_sub (vs := [.int .i64 (x7.Field)]) (hC.2.bc (i := 0) rfl) rfl rfl))) hF (by decide) (fun a hF => ?_)
             refine qt_yes hF rfl rfl he30 ?_
             refine qt_val (fun W hC => (v_lss hF rfl rfl)) hF (by decide) (fun a hF => ?_)
             refine qt_val (fun W hC => (v_pick_t hF rfl he30 rfl)) hF (by decide) (fun a hF => ?_)
             exact qt_nil (hF.keep ⟨rfl, rfl, rfl, (boolV (and_t he30)), trivial⟩)
            ·
             have he30 : ((x7.Port == 0) && (decide (0 ≤ x7.Field))) = false := nB he30
             refine qt_no hF rfl rfl he30 (by decide) (fun a hF => ?_)
             refine qt_no hF rfl rfl he30 (by decide) (fun a hF => ?_)
             refine qt_no hF rfl rfl he30 (by decide) (fun a hF => ?_)
             refine qt_val (fun W hC => (v_pick_f hF rfl he30 rfl)) hF (by decide) (fun a hF => ?_)
             exact qt_nil (hF.keep ⟨rfl, rfl, rfl, (boolV (and_f he30)), trivial⟩)
          ·
           by_cases he29 : (x7.Port == 0) = true
           ·
            refine qt_yes hF rfl rfl he29 ?_
            refine qt_val (fun W hC => (v_fieldAddr hF rfl pf94_2)) hF (by decide) (fun a hF => ?_)
            refine qt_yes hF rfl rfl he29 ?_
            refine qt_val (fun W hC => (v_load1 hF rfl pa3 (cells_sub (vs := [.int .i64 (x7.Field)]) (hC.2.bc (i := 0) rfl) rfl rfl))) hF (by decide) (fun a hF => ?_)
            refine qt_yes hF rfl rfl he29 ?_
            refine qt_val (fun W hC => (v_geq hF rfl rfl)) hF (by decide) (fun a hF => ?_)
            refine qt_val (fun W hC => (v_pick_t hF rfl he29 rfl)) hF (by decide) (fun a hF => ?_)
            exact qt_nil (hF.keep ⟨rfl, rfl, rfl, (boolV (and_t he29)), trivial⟩)
           ·
            have he29 : (x7.Port == 0) = false := nB he29
            refine qt_no hF rfl rfl he29 (by decide) (fun a hF => ?_)
            refine qt_no hF rfl rfl he29 (by decide) (fun a hF => ?_)
            refine qt_no hF rfl rfl he29 (by decide) (fun a hF => ?_)
            refine qt_val (fun W hC => (v_pick_f hF rfl he29 rfl)) hF (by decide) (fun a hF => ?_)
            exact qt_nil (hF.keep ⟨rfl, rfl, rfl, (boolV (and_f he29)), trivial⟩)
         ·
          replace h := ifF he28 h
          refine wp_seq ?_
          refine wp_reg ?_
          refine sq_val (v_eql hF rfl rfl) hF (by decide) (fun a hF => ?_)
          refine sq_val (v_assign hF rfl) hF (by decide) (fun a hF => ?_)
          refine sq_nil ?_
          refine then_n ?_
          obtain ⟨o40, h, hk41⟩ := bindS h
          refine wp_join (fun a W => ∃ (x39 : Bool), x39 = o40 ∧ FH 81 [(0, .slice A0_0 ((u0).length) c0_0), (3, .int .i64 (x2)), (5, .bool (x39))] a ∧ St M w0 [] [] [fSl k_TAct A0_0 c0_0 u0] W) (fun a W hJ => ?_) ?_
          ·
           obtain ⟨x39, rfl, hF, hS⟩ := hJ
           have h := hk41
           obtain rfl := Option.some.inj h
           exact then_j ⟨x39, rfl, (hF.keep ⟨rfl, rfl, rfl, trivial⟩), hS⟩
          ·
           refine wp_if hF rfl (fun he42 => ?_) (fun he42 => ?_)
           ·
            replace h := ifT he42 h
            refine wp_reg ?_
            refine sq_val (v_fieldAddr hF rfl pf94_1) hF (by decide) (fun a hF => ?_)
            refine sq_val (v_load1 hF rfl pa3 (cells_sub (vs := [.int .i64 (x7.Port)]) (hS.bc (i := 0) rfl) rfl rfl)) hF (by decide) (fun a hF => ?_)
            refine sq_val (v_eql hF rfl rfl) hF (by decide) (fun a hF => ?_)
            refine sq_val (v_move hF rfl) hF (by decide) (fun a hF => ?_)
            refine sq_cut 4 (fun a W => FH 81 [(0, .slice A0_0 ((u0).length) c0_0), (3, .int .i64 (x2)), (4, .pointer (some (⟨b13, 0, none⟩))), (70, .bool ((x7.Port == 0) && (x7.Field == 0)))] a ∧ St M w0 [⟨b13, TAct.enc x7, 94⟩] [] [fAt k_TAct (p9.add (x2.toNat * 4)) (TAct.enc x7) x7, fSl k_TAct A0_0 c0_0 u0] W) (fun a W hJ => ?_) ?_
            ·
             obtain ⟨hF, hS⟩ := hJ
             refine sq_val (v_move hF rfl) hF (by decide) (fun a hF => ?_)
             refine sq_cut 4 (fun a W => FH 81 [(0, .slice A0_0 ((u0).length) c0_0), (3, .int .i64 (x2)), (75, .bool (((x7.Port == 0) && (x7.Field == 0)) && (x7.Value == 0)))] a ∧ St M w0 [⟨b13, TAct.enc x7, 94⟩] [] [fAt k_TAct (p9.add (x2.toNat * 4)) (TAct.enc x7) x7, fSl k_TAct A0_0 c0_0 u0] W) (fun a W hJ => ?_) ?_
             ·
              obtain ⟨hF, hS⟩ := hJ
              refine sq_val (v_assign hF rfl) hF (by decide) (fun a hF => ?_)
              refine sq_nil ?_
              obtain rfl := Option.some.inj h
              exact then_j ⟨(((x7.Port == 0) && (x7.Field == 0)) && (x7.Value == 0)), rfl, (hF.keep ⟨rfl, rfl, rfl, trivial⟩), (hS.keep (List.nil_sublist _) (List.Sublist.refl _) ⟨⟨1, rfl⟩, trivial⟩)⟩
             ·
              by_cases he44 : ((x7.Port == 0) && (x7.Field == 0)) = true
              ·
               refine sq_yes hF rfl rfl he44 ?_
               refine sq_val (v_fieldAddr hF rfl pf94_3) hF (by decide) (fun a hF => ?_)
               refine sq_yes hF rfl rfl he44 ?_
               refine sq_val (v_load1 hF rfl pa22 (cells_sub (vs := [.int .u64 (x7.Value)]) (hS.bc (i := 0) rfl) rfl rfl)) hF (by decide) (fun a hF => ?_)
               refine sq_yes hF rfl rfl he44 ?_
               refine sq_val (v_eql hF rfl rfl) hF (by decide) (fun a hF => ?_)
               refine sq_val (v_pick_t hF rfl he44 rfl) hF (by decide) (fun a hF => ?_)
               exact sq_nil (then_j ⟨(hF.keep ⟨rfl, rfl, (boolV (and_t he44)), trivial⟩), hS⟩)
              ·
               have he44 : ((x7.Port == 0) && (x7.Field == 0)) = false := nB he44
               refine sq_no hF rfl rfl he44 (by rintro x ⟨⟩; decide) (fun a hF => ?_)
               refine sq_no hF rfl rfl he44 (by rintro x ⟨⟩; decide) (fun a hF => ?_)
               refine sq_no hF rfl rfl he44 (by rintro x ⟨⟩; decide) (fun a hF => ?_)
               refine sq_val (v_pick_f hF rfl he44 rfl) hF (by decide) (fun a hF => ?_)
               exact sq_nil (then_j ⟨(hF.keep ⟨rfl, rfl, (boolV (and_f he44)), trivial⟩), hS⟩)
            ·
             by_cases he43 : (x7.Port == 0) = true
             ·
              refine sq_yes hF rfl rfl he43 ?_
              refine sq_val (v_fieldAddr hF rfl pf94_2) hF (by decide) (fun a hF => ?_)
              refine sq_yes hF rfl rfl he43 ?_
              refine sq_val (v_load1 hF rfl pa3 (cells_sub (vs := [.int .i64 (x7.Field)]) (hS.bc (i := 0) rfl) rfl rfl)) hF (by decide) (fun a hF => ?_)
              refine sq_yes hF rfl rfl he43 ?_
              refine sq_val (v_eql hF rfl rfl) hF (by decide) (fun a hF => ?_)
              refine sq_val (v_pick_t hF rfl he43 rfl) hF (by decide) (fun a hF => ?_)
              exact sq_nil (then_j ⟨(hF.keep ⟨rfl, rfl, rfl, (boolV (and_t he43)), trivial⟩), hS⟩)
             ·
              have he43 : (x7.Port == 0) = false := nB he43
              refine sq_no hF rfl rfl he43 (by rintro x ⟨⟩; decide) (fun a hF => ?_)
              refine sq_no hF rfl rfl he43 (by rintro x ⟨⟩; decide) (fun a hF => ?_)
              refine sq_no hF rfl rfl he43 (by rintro x ⟨⟩; decide) (fun a hF => ?_)
              refine sq_val (v_pick_f hF rfl he43 rfl) hF (by decide) (fun a hF => ?_)
              exact sq_nil (then_j ⟨(hF.keep ⟨rfl, rfl, rfl, (boolV (and_f he43)), trivial⟩), hS⟩)
           ·
            replace h := ifF he42 h
            refine wp_skip ?_
            obtain rfl := Option.some.inj h
            exact then_j ⟨false, rfl, (hF.keep ⟨rfl, rfl, rfl, trivial⟩), (hS.keep (List.nil_sublist _) (List.Sublist.refl _) ⟨⟨1, rfl⟩, trivial⟩)⟩
    ·
     replace h := ifF he6 h
     refine wp_exit ?_
     refine then_x ?_
     refine then_x ?_
     refine blk_hit ?_
     obtain rfl := Option.some.inj h
     exact then_j ⟨rfl, (hF.keep ⟨rfl, trivial⟩), hS⟩

theorem ok_ref04_span {M : Nat → Prop} {w0 : World} {u0 : Int} {u1 : Int} {o : Bool} (hS : St M w0 [] [] [] w0) (h : ref04_span u0 u1 = some o) :
    Calls Try.prog 80 #[.int .i64 (u0), .int .i64 (u1)] w0 fun e W' => ∃ v, e = .returned v ∧ (v = .bool (o) ∧ St M w0 [] [] [] W') := by
  unfold ref04_span at h
  refine calls_start (args := [.int .i64 (u0), .int .i64 (u1)]) Try.func80 rfl rfl (Nat.le_of_ble_eq_true rfl) (fun a hF => ?_)
  refine wp_seq ?_
  refine wp_reg ?_
  refine sq_val (v_assign hF rfl) hF (by decide) (fun a hF => ?_)
  refine sq_nil ?_
  refine then_n ?_
  refine wp_seq ?_
  refine wp_reg ?_
  refine sq_val (v_move hF rfl) hF (by decide) (fun a hF => ?_)
  refine sq_val (v_geq hF rfl rfl) hF (by decide) (fun a hF => ?_)
  refine sq_val (v_move hF rfl) hF (by decide) (fun a hF => ?_)
  refine sq_cut 4 (fun a W => FH 12 [(11, .bool ((decide (0 ≤ u0)) && (decide (u0 ≤ u1))))] a ∧ St M w0 [] [] [] W) (fun a W hJ => ?_) ?_
  ·
   obtain ⟨hF, hS⟩ := hJ
   refine sq_val (v_assign hF rfl) hF (by decide) (fun a hF => ?_)
   refine sq_nil ?_
   refine then_n ?_
   refine wp_ret ?_
   obtain rfl := Option.some.inj h
   exact ret1 hF rfl (rv_tmp hF rfl) ⟨_, rfl, rfl, hS⟩
  ·
   by_cases he1 : (decide (0 ≤ u0)) = true
   ·
    refine sq_yes hF rfl rfl he1 ?_
    refine sq_val (v_move hF rfl) hF (by decide) (fun a hF => ?_)
    refine sq_yes hF rfl rfl he1 ?_
    refine sq_val (v_move hF rfl) hF (by decide) (fun a hF => ?_)
    refine sq_yes hF rfl rfl he1 ?_
    refine sq_val (v_leq hF rfl rfl) hF (by decide) (fun a hF => ?_)
    refine sq_val (v_pick_t hF rfl he1 rfl) hF (by decide) (fun a hF => ?_)
    exact sq_nil (then_j ⟨(hF.keep ⟨(boolV (and_t he1)), trivial⟩), hS⟩)
   ·
    have he1 : (decide (0 ≤ u0)) = false := nB he1
    refine sq_no hF rfl rfl he1 (by rintro x ⟨⟩; decide) (fun a hF => ?_)
    refine sq_no hF rfl rfl he1 (by rintro x ⟨⟩; decide) (fun a hF => ?_)
    refine sq_no hF rfl rfl he1 (by rintro x ⟨⟩; decide) (fun a hF => ?_)
    refine sq_val (v_pick_f hF rfl he1 rfl) hF (by decide) (fun a hF => ?_)
    exact sq_nil (then_j ⟨(hF.keep ⟨(boolV (and_f he1)), trivial⟩), hS⟩)
end Go.Proofs.Ytangebngeeamoaa
