/- What calls of the Go functions come to. -/
import Derived.Test.YtangebngeeamoaaW11
set_option linter.unusedVariables false
set_option linter.unusedSimpArgs false
set_option maxRecDepth 100000
set_option maxHeartbeats 4000000
namespace Go.Proofs.Ytangebngeeamoaa
open Go.RowKit Go.Pod
theorem ok_ref04_Sort (k : Nat) {M : Nat → Prop} {w0 : World} {u0 : List TRule} {A0_0 : Option Addr} {c0_0 : Nat} {o : (List TRule)} (hS : St M w0 [] [] [fSl k_TRule A0_0 c0_0 u0] w0) (h : ref04_Sort k u0 = some o) :
    Calls Try.prog 73 #[.slice A0_0 ((u0).length) c0_0] w0 fun e W' => ∃ v, e = .returned v ∧ (∃ (A215 : Option Addr) (c216 : Nat), v = .slice A215 ((o).length) c216 ∧ St M w0 [] [⟨k_TRule, 65, A215, c216, o⟩] [] W') := by
  unfold ref04_Sort at h
  refine calls_start (args := [.slice A0_0 ((u0).length) c0_0]) Try.func73 rfl rfl (Nat.le_of_ble_eq_true rfl) (fun a hF => ?_)
  refine wp_seq ?_
  refine wp_reg ?_
  refine sq_val (v_assign hF rfl) hF (by decide) (fun a hF => ?_)
  refine sq_nil ?_
  refine then_n ?_
  refine wp_seq ?_
  refine wp_reg ?_
  refine sq_val (v_assign hF rfl) hF (by decide) (fun a hF => ?_)
  refine sq_nil ?_
  refine then_n ?_
  refine wp_seq ?_
  refine wp_seq ?_
  refine wp_reg ?_
  refine sq_val (v_assign hF rfl) hF (by decide) (fun a hF => ?_)
  refine sq_nil ?_
  refine then_n ?_
  obtain ⟨o12, h, hk13⟩ := bindS h
  refine wp_join (fun a W => ∃ (x9 : List TRule) (A10 : Option Addr) (c11 : Nat), x9 = o12 ∧ FH 70 [(3, .slice A10 ((x9).length) c11)] a ∧ St M w0 [] [⟨k_TRule, 65, A10, c11, x9⟩] [] W) (fun a W hJ => ?_) ?_
  ·
   obtain ⟨x9, A10, c11, rfl, hF, hS⟩ := hJ
   have h := hk13
   refine then_n ?_
   refine wp_seq ?_
   refine wp_reg ?_
   refine sq_val (v_move hF rfl) hF (by decide) (fun a hF => ?_)
   refine sq_val (v_assign hF rfl) hF (by decide) (fun a hF => ?_)
   refine sq_nil ?_
   refine then_n ?_
   refine wp_ret ?_
   obtain rfl := Option.some.inj h
   exact ret1 hF rfl (rv_tmp hF rfl) ⟨_, rfl, A10, c11, rfl, hS⟩
  ·
   have hS := hS.addNil k_TRule 65
   refine wp_block ?_
   refine wp_loop_fuel (I := fun m a W => ∃ (x5 : List TRule) (x8 : Int) (A6 : Option Addr) (c7 : Nat), FH 70 [(0, .slice A0_0 ((u0).length) c0_0), (3, .slice A6 ((x5).length) c7), (4, .int .i64 (x8))] a ∧ St M w0 [] [⟨k_TRule, 65, A6, c7, x5⟩] [fSl k_TRule A0_0 c0_0 u0] W ∧ (ref04_Sort.l0 k u0 m x5 x8) = some o12) ?_ (k := k) ⟨([]), 0, none, 0, (hF.keep ⟨rfl, rfl, rfl, trivial⟩), hS, h⟩
   rintro m14 a W ⟨x5, x8, A6, c7, hF, hS, h⟩
   cases m14 with
   | zero => cases h
   | succ m14 =>
    rw [ref04_Sort.l0] at h
    refine wp_seq ?_
    refine wp_seq ?_
    refine wp_reg ?_
    refine sq_val (v_move hF rfl) hF (by decide) (fun a hF => ?_)
    refine sq_val (v_move hF rfl) hF (by decide) (fun a hF => ?_)
    refine sq_val (v_len hF rfl pu37) hF (by decide) (fun a hF => ?_)
    refine sq_val (v_lss hF rfl rfl) hF (by decide) (fun a hF => ?_)
    refine sq_nil ?_
    refine then_n ?_
    refine wp_if hF rfl (fun he15 => ?_) (fun he15 => ?_)
    ·
     replace h := ifT he15 h
     refine wp_skip ?_
     refine then_n ?_
     refine wp_seq ?_
     obtain ⟨o19, h, hk20⟩ := bindS h
     refine wp_join (fun a W => ∃ (x16 : List TRule) (A17 : Option Addr) (c18 : Nat), x16 = o19 ∧ FH 70 [(0, .slice A0_0 ((u0).length) c0_0), (3, .slice A17 ((x16).length) c18), (4, .int .i64 (x8))] a ∧ St M w0 [] [⟨k_TRule, 65, A17, c18, x16⟩] [fSl k_TRule A0_0 c0_0 u0] W) (fun a W hJ => ?_) ?_
     ·
      obtain ⟨x16, A17, c18, rfl, hF, hS⟩ := hJ
      have h := hk20
      refine then_n ?_
      refine wp_reg ?_
      refine sq_val (v_move hF rfl) hF (by decide) (fun a hF => ?_)
      refine sq_val (v_add hF rfl rfl) hF (by decide) (fun a hF => ?_)
      refine sq_val (v_assign hF rfl) hF (by decide) (fun a hF => ?_)
      refine sq_nil ?_
      exact then_j ⟨m14, Nat.lt_succ_self _, x16, (IntKind.i64.wrap (x8 + 1)), A17, c18, (hF.keep ⟨rfl, rfl, rfl, trivial⟩), hS, h⟩
     ·
      refine wp_block ?_
      refine wp_seq ?_
      refine wp_seq ?_
      refine wp_reg ?_
      refine sq_val (v_move hF rfl) hF (by decide) (fun a hF => ?_)
      refine sq_val (v_move hF rfl) hF (by decide) (fun a hF => ?_)
      obtain ⟨x21, hx22, h⟩ := bindS h
      obtain ⟨p23, cs24, hA25, hat26⟩ := SlR.at (hS.fc (i := 0) rfl) hx22
      obtain ⟨A27, c28, rfl, hs29⟩ := hat26.2.2.2
      have hS := hS.addFact (f := fAt k_TRule (p23.add (x8.toNat * 32)) (TRule.enc x21 A27 c28) x21) hat26
      have hS := hS.addFact (f := fSl k_TAct A27 c28 x21.Acts) hs29
      refine sq_val (v_idx hF rfl hA25 rfl psl37 hx22) hF (by decide) (fun a hF => ?_)
      refine sq_val (v_load (cs := TRule.enc x21 A27 c28) hF rfl pa65 ps65 (hS.pc (i := 1) rfl)) hF (by decide) (fun a hF => ?_)
      obtain ⟨x30, hx31, h⟩ := bindS h
      refine sq_call hF pc81 rfl (by decide) (ok_ref04_Rule k (hS.enter ⟨⟨0, rfl⟩, trivial⟩) hx31) (fun v W hR a hF => ?_)
      obtain ⟨rfl, hT32⟩ := hR
      have hS := hS.grow hT32.below
      refine sq_val (v_not hF rfl) hF (by decide) (fun a hF => ?_)
      refine sq_nil ?_
      refine then_n ?_
      refine wp_if hF rfl (fun he33 => ?_) (fun he33 => ?_)
      ·
       replace h := ifT he33 h
       refine wp_exit ?_
       refine then_x ?_
       refine blk_hit ?_
       obtain rfl := Option.some.inj h
       exact then_j ⟨x5, A6, c7, rfl, (hF.keep ⟨rfl, rfl, rfl, trivial⟩), (hS.keep (List.Sublist.refl _) (List.Sublist.refl _) ⟨⟨2, rfl⟩, trivial⟩)⟩
      ·
       replace h := ifF he33 h
       refine wp_skip ?_
       refine then_n ?_
       refine wp_seq ?_
       refine wp_reg ?_
       refine sq_val (v_assign hF rfl) hF (by decide) (fun a hF => ?_)
       refine sq_nil ?_
       refine then_n ?_
       refine wp_seq ?_
       obtain ⟨o37, h, hk38⟩ := bindS h
       refine wp_join (fun a W => ∃ (x36 : Int), x36 = o37 ∧ FH 70 [(0, .slice A0_0 ((u0).length) c0_0), (3, .slice A6 ((x5).length) c7), (4, .int .i64 (x8)), (5, .int .i64 (x36))] a ∧ St M w0 [] [⟨k_TRule, 65, A6, c7, x5⟩] [fSl k_TRule A0_0 c0_0 u0] W) (fun a W hJ => ?_) ?_
       ·
        obtain ⟨x36, rfl, hF, hS⟩ := hJ
        have h := hk38
        refine then_n ?_
        refine wp_seq ?_
        refine wp_reg ?_
        refine sq_buildSlice (κ := k_TRule) (xs := []) (ys := ([] : List TRule)) hF hS rfl rfl rfl (Els.nil _ _ _) rfl psl37 pz65 rfl (by decide) (by decide) (by decide) (fun A39 c40 a W hF hS => ?_)
        refine sq_val (v_move hF rfl) hF (by decide) (fun a hF => ?_)
        refine sq_val (v_move hF rfl) hF (by decide) (fun a hF => ?_)
        have hS := hS.freeze (i := 1) rfl (posB rfl)
        obtain ⟨hb41, h⟩ := ifS h
        refine sq_val (v_slice (κ := k_TRule) (lo := x36.toNat) (hi := x5.length) hF rfl rfl rfl psl37 (.inr ⟨_, _, rfl, by omega, rfl⟩) (.inl ⟨rfl, rfl⟩) (by omega) (by omega) (hS.fc (i := 0) rfl).1) hF (by decide) (fun a hF => ?_)
        have hcut44 := SlR.cut (xs := x5) (hS.fc (i := 0) rfl) (lo := x36.toNat) (hi := x5.length) (by omega) (by omega)
        generalize (if c7 = x36.toNat then A6 else Option.map (fun (q : Addr) => q.add (x36.toNat * (k_TRule).sz)) A6) = A42 at hF hcut44
        generalize c7 - x36.toNat = c43 at hF hcut44
        have hS := hS.addFact (f := fSl k_TRule A42 c43 ((x5.take x5.length).drop x36.toNat)) hcut44
        obtain ⟨x47, hx48, h⟩ := bindS h
        refine sq_append (ys := ((x5.take x5.length).drop x36.toNat)) hF hS (i := 0) rfl rfl rfl (SlR.src (hS.fc (i := 0) rfl)) psl37 pb65 pz65 rfl (by decide) (by decide) hx48 (by decide) (fun A45 c46 a W hF hS => ?_)
        refine sq_val (v_assign hF rfl) hF (by decide) (fun a hF => ?_)
        refine sq_nil ?_
        refine then_n ?_
        refine wp_seq ?_
        refine wp_seq ?_
        refine wp_quiet rfl (by kernel_rfl) hS ?_
        refine qt_val (fun W hC => (v_move hF rfl)) hF (by decide) (fun a hF => ?_)
        refine qt_val (fun W hC => (v_len hF rfl pu37)) hF (by decide) (fun a hF => ?_)
        refine qt_val (fun W hC => (v_gtr hF rfl rfl)) hF (by decide) (fun a hF => ?_)
        refine qt_val (fun W hC => (v_move hF rfl)) hF (by decide) (fun a hF => ?_)
        obtain ⟨x50, h, hk52⟩ := bindS h
        refine qt_cut 9 (fun a => FH 70 [(0, .slice A0_0 ((u0).length) c0_0), (3, .slice A6 ((x5).length) c7), (4, .int .i64 (x8)), (5, .int .i64 (x36)), (6, .slice A45 ((x47).length) c46), (53, .bool x50)] a) (fun a hF => ?_) ?_
        ·
         have h := hk52
         refine qt_nil ?_
         intro W hC
         have hS := hC.2
         refine then_n ?_
         obtain ⟨o76, h, hk77⟩ := bindS h
         refine wp_join (fun a W => ∃ (x73 : List TRule) (A74 : Option Addr) (c75 : Nat), x73 = o76 ∧ FH 70 [(0, .slice A0_0 ((u0).length) c0_0), (3, .slice A6 ((x5).length) c7), (4, .int .i64 (x8)), (5, .int .i64 (x36)), (6, .slice A74 ((x73).length) c75)] a ∧ St M w0 [] [] [fSl k_TRule A74 c75 x73, fSl k_TRule A6 c7 x5, fSl k_TRule A0_0 c0_0 u0] W) (fun a W hJ => ?_) ?_
         ·
          obtain ⟨x73, A74, c75, rfl, hF, hS⟩ := hJ
          have h := hk77
          refine then_n ?_
          obtain ⟨o81, h, hk82⟩ := bindS h
          refine wp_join (fun a W => ∃ (x78 : List TRule) (A79 : Option Addr) (c80 : Nat), x78 = o81 ∧ FH 70 [(0, .slice A0_0 ((u0).length) c0_0), (3, .slice A79 ((x78).length) c80), (4, .int .i64 (x8))] a ∧ St M w0 [] [⟨k_TRule, 65, A79, c80, x78⟩] [fSl k_TRule A0_0 c0_0 u0] W) (fun a W hJ => ?_) ?_
          ·
           obtain ⟨x78, A79, c80, rfl, hF, hS⟩ := hJ
           have h := hk82
           refine blk_n ?_
           obtain rfl := Option.some.inj h
           exact then_j ⟨x78, A79, c80, rfl, (hF.keep ⟨rfl, rfl, rfl, trivial⟩), hS⟩
          ·
           obtain ⟨p83, cs84, hA85, hat86⟩ := SlR.at (hS.fc (i := 2) rfl) hx22
           obtain ⟨A87, c88, rfl, hs89⟩ := hat86.2.2.2
           have hS := hS.addFact (f := fAt k_TRule (p83.add (x8.toNat * 32)) (TRule.enc x21 A87 c88) x21) hat86
           have hS := hS.addFact (f := fSl k_TAct A87 c88 x21.Acts) hs89
           refine wp_drawn (fun _ => St M w0 [] [] [fSl k_TAct A87 c88 x21.Acts, fAt k_TRule (p83.add (x8.toNat * 32)) (TRule.enc x21 A87 c88) x21, fSl k_TRule A74 c75 x73, fSl k_TRule A6 c7 x5, fSl k_TRule A0_0 c0_0 u0]) (fun _ => false) rfl hS (fun W hB0 hR0 => ?_)
           have hS := hR0
           have hQC : (fun _ => St M w0 [] [] [fSl k_TAct A87 c88 x21.Acts, fAt k_TRule (p83.add (x8.toNat * 32)) (TRule.enc x21 A87 c88) x21, fSl k_TRule A74 c75 x73, fSl k_TRule A6 c7 x5, fSl k_TRule A0_0 c0_0 u0]) W W := hS
           obtain ⟨hb90, h⟩ := ifS h
           obtain ⟨x91, hx92, h⟩ := bindS h
           obtain ⟨x93, hx94, h⟩ := bindS h
           obtain ⟨x95, hx96, h⟩ := bindS h
           refine e_val (listed' := #[false, true, false, false, false, false, false, false, false, false, false, false, false, false]) 1 rfl (by kernel_rfl) (by kernel_rfl) (fun _ _ _ h => h) (fun W => (v_move hF rfl)) hF (by decide) (fun a hF => ?_)
           refine e_val (listed' := #[false, true, true, false, false, false, false, false, false, false, false, false, false, false]) 2 rfl (by kernel_rfl) (by kernel_rfl) (fun _ _ _ h => h) (fun W => (v_move hF rfl)) hF (by decide) (fun a hF => ?_)
           refine e_val (listed' := #[false, true, true, false, false, true, false, false, false, false, false, false, false, false]) 5 rfl (by kernel_rfl) (by kernel_rfl) (fun _ _ _ h => h) (fun W => (v_move hF rfl)) hF (by decide) (fun a hF => ?_)
           refine e_val (listed' := #[false, true, true, false, false, true, true, false, false, false, false, false, false, false]) 6 rfl (by kernel_rfl) (by kernel_rfl) (fun _ _ _ h => h) (fun W => (v_move hF rfl)) hF (by decide) (fun a hF => ?_)
           refine e_val (listed' := #[false, true, true, false, false, true, true, true, false, false, false, false, false, false]) 7 rfl (by kernel_rfl) (by kernel_rfl) (fun _ _ _ h => h) (fun W => (v_idx hF rfl hA85 rfl psl37 hx22)) hF (by decide) (fun a hF => ?_)
           refine e_valS (listed' := #[false, true, true, false, false, true, true, true, true, false, false, false, false, false]) 8 rfl (by kernel_rfl) (by kernel_rfl) (fun _ _ _ h => h) (fun W hC => (v_load (cs := TRule.enc x21 A87 c88) hF rfl pa65 ps65 (hC.pc (i := 1) rfl))) hQC (by kernel_rfl) hF (by decide) (fun a hF => ?_)
           refine e_val (listed' := #[false, true, true, false, false, true, true, true, true, false, false, true, false, false]) 11 rfl (by kernel_rfl) (by kernel_rfl) (fun _ _ _ h => h) (fun W => (v_move hF rfl)) hF (by decide) (fun a hF => ?_)
           refine e_many [0, 3, 9] (by kernel_rfl) (by decide) ⟨⟨_, rfl, ?_⟩, ⟨_, rfl, ?_⟩, ⟨_, rfl, ?_⟩, trivial⟩
           ·
            refine sq_buildSlice (κ := k_TRule) (xs := []) (ys := ([] : List TRule)) hF hS rfl rfl rfl (Els.nil _ _ _) rfl psl37 pz65 rfl (by decide) (by decide) (by decide) (fun A97 c98 a W hF hS => ?_)
            refine sq_nil (then_j ⟨?_, ?_⟩)
            · exact fun _ _ => (hS.keep (List.Sublist.refl _) (List.nil_sublist _) ⟨⟨0, rfl⟩, ⟨1, rfl⟩, ⟨2, rfl⟩, ⟨3, rfl⟩, ⟨4, rfl⟩, trivial⟩)
            ·
             have hQC : (fun _ => St M w0 [] [] [fSl k_TAct A87 c88 x21.Acts, fAt k_TRule (p83.add (x8.toNat * 32)) (TRule.enc x21 A87 c88) x21, fSl k_TRule A74 c75 x73, fSl k_TRule A6 c7 x5, fSl k_TRule A0_0 c0_0 u0]) W W := (hS.keep (List.Sublist.refl _) (List.nil_sublist _) ⟨⟨0, rfl⟩, ⟨1, rfl⟩, ⟨2, rfl⟩, ⟨3, rfl⟩, ⟨4, rfl⟩, trivial⟩)
             refine e_listed (listed' := #[true, true, true, false, false, true, true, true, true, false, false, true, false, false]) (by kernel_rfl) ?_
             refine e_many [3, 9] (by kernel_rfl) (by decide) ⟨⟨_, rfl, ?_⟩, ⟨_, rfl, ?_⟩, trivial⟩
             ·
              refine sq_val (v_slice (κ := k_TRule) (lo := 0) (hi := x36.toNat) hF rfl rfl rfl psl37 (.inl ⟨rfl, rfl⟩) (.inr ⟨_, _, rfl, by omega, rfl⟩) (by omega) (by omega) (hS.fc (i := 3) rfl).1) hF (by decide) (fun a hF => ?_)
              have hcut101 := SlR.cut (xs := x5) (hS.fc (i := 3) rfl) (lo := 0) (hi := x36.toNat) (by omega) (by omega)
              generalize (if c7 = 0 then A6 else Option.map (fun (q : Addr) => q.add (0 * (k_TRule).sz)) A6) = A99 at hF hcut101
              generalize c7 - 0 = c100 at hF hcut101
              have hS := hS.addFact (f := fSl k_TRule A99 c100 ((x5.take x36.toNat).drop 0)) hcut101
              refine sq_nil (then_j ⟨?_, ?_⟩)
              · exact fun _ _ => (hS.keep (List.Sublist.refl _) (List.nil_sublist _) ⟨⟨1, rfl⟩, ⟨2, rfl⟩, ⟨3, rfl⟩, ⟨4, rfl⟩, ⟨5, rfl⟩, trivial⟩)
              ·
               have hQC : (fun _ => St M w0 [] [] [fSl k_TAct A87 c88 x21.Acts, fAt k_TRule (p83.add (x8.toNat * 32)) (TRule.enc x21 A87 c88) x21, fSl k_TRule A74 c75 x73, fSl k_TRule A6 c7 x5, fSl k_TRule A0_0 c0_0 u0]) W W := (hS.keep (List.Sublist.refl _) (List.nil_sublist _) ⟨⟨1, rfl⟩, ⟨2, rfl⟩, ⟨3, rfl⟩, ⟨4, rfl⟩, ⟨5, rfl⟩, trivial⟩)
               refine e_listed (listed' := #[true, true, true, true, false, true, true, true, true, false, false, true, false, false]) (by kernel_rfl) ?_
               refine e_many [4, 9] (by kernel_rfl) (by decide) ⟨⟨_, rfl, ?_⟩, ⟨_, rfl, ?_⟩, trivial⟩
               ·
                refine sq_append (ys := ((x5.take x36.toNat).drop 0)) hF hS (i := 0) rfl rfl rfl (SlR.src (hS.fc (i := 0) rfl)) psl37 pb65 pz65 rfl (by decide) (by decide) hx92 (by decide) (fun A102 c103 a W hF hS => ?_)
                refine sq_nil (then_j ⟨?_, ?_⟩)
                · exact fun _ _ => (hS.keep (List.Sublist.refl _) (List.nil_sublist _) ⟨⟨1, rfl⟩, ⟨2, rfl⟩, ⟨3, rfl⟩, ⟨4, rfl⟩, ⟨5, rfl⟩, trivial⟩)
                ·
                 have hQC : (fun _ => St M w0 [] [] [fSl k_TAct A87 c88 x21.Acts, fAt k_TRule (p83.add (x8.toNat * 32)) (TRule.enc x21 A87 c88) x21, fSl k_TRule A74 c75 x73, fSl k_TRule A6 c7 x5, fSl k_TRule A0_0 c0_0 u0]) W W := (hS.keep (List.Sublist.refl _) (List.nil_sublist _) ⟨⟨1, rfl⟩, ⟨2, rfl⟩, ⟨3, rfl⟩, ⟨4, rfl⟩, ⟨5, rfl⟩, trivial⟩)
                 refine e_listed (listed' := #[true, true, true, true, true, true, true, true, true, false, false, true, false, false]) (by kernel_rfl) ?_
                 refine e_one (listed' := #[true, true, true, true, true, true, true, true, true, true, false, true, false, false]) 9 rfl (by kernel_rfl) (by kernel_rfl) ?_
                 refine sq_buildSlice (κ := k_TRule) (xs := [.tmp 64]) (ys := [x21]) hF hS rfl rfl rfl (Els.cons ⟨A87, c88, rfl, (hS.fc (i := 1) rfl)⟩ (Els.nil _ _ _)) rfl psl37 pz65 rfl (by decide) (by decide) (by decide) (fun A104 c105 a W hF hS => ?_)
                 refine sq_nil (then_j ⟨?_, ?_⟩)
                 · exact fun _ _ => (hS.keep (List.Sublist.refl _) (List.nil_sublist _) ⟨⟨1, rfl⟩, ⟨2, rfl⟩, ⟨3, rfl⟩, ⟨4, rfl⟩, ⟨5, rfl⟩, trivial⟩)
                 ·
                  have hQC : (fun _ => St M w0 [] [] [fSl k_TAct A87 c88 x21.Acts, fAt k_TRule (p83.add (x8.toNat * 32)) (TRule.enc x21 A87 c88) x21, fSl k_TRule A74 c75 x73, fSl k_TRule A6 c7 x5, fSl k_TRule A0_0 c0_0 u0]) W W := (hS.keep (List.Sublist.refl _) (List.nil_sublist _) ⟨⟨1, rfl⟩, ⟨2, rfl⟩, ⟨3, rfl⟩, ⟨4, rfl⟩, ⟨5, rfl⟩, trivial⟩)
                  refine e_one (listed' := #[true, true, true, true, true, true, true, true, true, true, true, true, false, false]) 10 rfl (by kernel_rfl) (by kernel_rfl) ?_
                  refine sq_append (ys := ([x21])) hF hS (i := 1) rfl rfl rfl (hS.rw_ (i := 0) rfl).src psl37 pb65 pz65 rfl (by decide) (by decide) hx94 (by decide) (fun A106 c107 a W hF hS => ?_)
                  refine sq_nil (then_j ⟨?_, ?_⟩)
                  · exact fun _ _ => (hS.keep (List.Sublist.refl _) (List.nil_sublist _) ⟨⟨1, rfl⟩, ⟨2, rfl⟩, ⟨3, rfl⟩, ⟨4, rfl⟩, ⟨5, rfl⟩, trivial⟩)
                  ·
                   have hQC : (fun _ => St M w0 [] [] [fSl k_TAct A87 c88 x21.Acts, fAt k_TRule (p83.add (x8.toNat * 32)) (TRule.enc x21 A87 c88) x21, fSl k_TRule A74 c75 x73, fSl k_TRule A6 c7 x5, fSl k_TRule A0_0 c0_0 u0]) W W := (hS.keep (List.Sublist.refl _) (List.nil_sublist _) ⟨⟨1, rfl⟩, ⟨2, rfl⟩, ⟨3, rfl⟩, ⟨4, rfl⟩, ⟨5, rfl⟩, trivial⟩)
                   refine e_one (listed' := #[true, true, true, true, true, true, true, true, true, true, true, true, true, false]) 12 rfl (by kernel_rfl) (by kernel_rfl) ?_
                   refine sq_append (ys := x73) hF hS (i := 1) rfl rfl rfl (SlR.src (hS.fc (i := 3) rfl)) psl37 pb65 pz65 rfl (by decide) (by decide) hx96 (by decide) (fun A108 c109 a W hF hS => ?_)
                   refine sq_nil (then_j ⟨?_, ?_⟩)
                   · exact fun _ _ => (hS.keep (List.Sublist.refl _) (List.nil_sublist _) ⟨⟨1, rfl⟩, ⟨2, rfl⟩, ⟨3, rfl⟩, ⟨4, rfl⟩, ⟨5, rfl⟩, trivial⟩)
                   ·
                    have hQC : (fun _ => St M w0 [] [] [fSl k_TAct A87 c88 x21.Acts, fAt k_TRule (p83.add (x8.toNat * 32)) (TRule.enc x21 A87 c88) x21, fSl k_TRule A74 c75 x73, fSl k_TRule A6 c7 x5, fSl k_TRule A0_0 c0_0 u0]) W W := (hS.keep (List.Sublist.refl _) (List.nil_sublist _) ⟨⟨1, rfl⟩, ⟨2, rfl⟩, ⟨3, rfl⟩, ⟨4, rfl⟩, ⟨5, rfl⟩, trivial⟩)
                    refine e_val (listed' := #[true, true, true, true, true, true, true, true, true, true, true, true, true, true]) 13 rfl (by kernel_rfl) (by kernel_rfl) (fun _ _ _ h => h) (fun W => (v_assign hF rfl)) hF (by decide) (fun a hF => ?_)
                    refine e_done (by kernel_rfl) ?_ _
                    obtain rfl := Option.some.inj h
                    exact then_j ⟨x95, A108, c109, rfl, (hF.keep ⟨rfl, rfl, rfl, trivial⟩), (hS.keep (List.Sublist.refl _) (.cons _ (List.Sublist.refl _)) ⟨⟨5, rfl⟩, trivial⟩)⟩
               ·
                refine sq_buildSlice (κ := k_TRule) (xs := [.tmp 64]) (ys := [x21]) hF hS rfl rfl rfl (Els.cons ⟨A87, c88, rfl, (hS.fc (i := 1) rfl)⟩ (Els.nil _ _ _)) rfl psl37 pz65 rfl (by decide) (by decide) (by decide) (fun A110 c111 a W hF hS => ?_)
                refine sq_nil (then_j ⟨?_, ?_⟩)
                · exact fun _ _ => (hS.keep (List.Sublist.refl _) (List.nil_sublist _) ⟨⟨1, rfl⟩, ⟨2, rfl⟩, ⟨3, rfl⟩, ⟨4, rfl⟩, ⟨5, rfl⟩, trivial⟩)
                ·
                 have hQC : (fun _ => St M w0 [] [] [fSl k_TAct A87 c88 x21.Acts, fAt k_TRule (p83.add (x8.toNat * 32)) (TRule.enc x21 A87 c88) x21, fSl k_TRule A74 c75 x73, fSl k_TRule A6 c7 x5, fSl k_TRule A0_0 c0_0 u0]) W W := (hS.keep (List.Sublist.refl _) (List.nil_sublist _) ⟨⟨1, rfl⟩, ⟨2, rfl⟩, ⟨3, rfl⟩, ⟨4, rfl⟩, ⟨5, rfl⟩, trivial⟩)
                 refine e_listed (listed' := #[true, true, true, true, false, true, true, true, true, true, false, true, false, false]) (by kernel_rfl) ?_
                 refine e_one (listed' := #[true, true, true, true, true, true, true, true, true, true, false, true, false, false]) 4 rfl (by kernel_rfl) (by kernel_rfl) ?_
                 refine sq_append (ys := ((x5.take x36.toNat).drop 0)) hF hS (i := 1) rfl rfl rfl (SlR.src (hS.fc (i := 0) rfl)) psl37 pb65 pz65 rfl (by decide) (by decide) hx92 (by decide) (fun A112 c113 a W hF hS => ?_)
                 refine sq_nil (then_j ⟨?_, ?_⟩)
                 · exact fun _ _ => (hS.keep (List.Sublist.refl _) (List.nil_sublist _) ⟨⟨1, rfl⟩, ⟨2, rfl⟩, ⟨3, rfl⟩, ⟨4, rfl⟩, ⟨5, rfl⟩, trivial⟩)
                 ·
                  have hQC : (fun _ => St M w0 [] [] [fSl k_TAct A87 c88 x21.Acts, fAt k_TRule (p83.add (x8.toNat * 32)) (TRule.enc x21 A87 c88) x21, fSl k_TRule A74 c75 x73, fSl k_TRule A6 c7 x5, fSl k_TRule A0_0 c0_0 u0]) W W := (hS.keep (List.Sublist.refl _) (List.nil_sublist _) ⟨⟨1, rfl⟩, ⟨2, rfl⟩, ⟨3, rfl⟩, ⟨4, rfl⟩, ⟨5, rfl⟩, trivial⟩)
                  refine e_one (listed' := #[true, true, true, true, true, true, true, true, true, true, true, true, false, false]) 10 rfl (by kernel_rfl) (by kernel_rfl) ?_
                  refine sq_append (ys := ([x21])) hF hS (i := 1) rfl rfl rfl (hS.rw_ (i := 0) rfl).src psl37 pb65 pz65 rfl (by decide) (by decide) hx94 (by decide) (fun A114 c115 a W hF hS => ?_)
                  refine sq_nil (then_j ⟨?_, ?_⟩)
                  · exact fun _ _ => (hS.keep (List.Sublist.refl _) (List.nil_sublist _) ⟨⟨1, rfl⟩, ⟨2, rfl⟩, ⟨3, rfl⟩, ⟨4, rfl⟩, ⟨5, rfl⟩, trivial⟩)
                  ·
                   have hQC : (fun _ => St M w0 [] [] [fSl k_TAct A87 c88 x21.Acts, fAt k_TRule (p83.add (x8.toNat * 32)) (TRule.enc x21 A87 c88) x21, fSl k_TRule A74 c75 x73, fSl k_TRule A6 c7 x5, fSl k_TRule A0_0 c0_0 u0]) W W := (hS.keep (List.Sublist.refl _) (List.nil_sublist _) ⟨⟨1, rfl⟩, ⟨2, rfl⟩, ⟨3, rfl⟩, ⟨4, rfl⟩, ⟨5, rfl⟩, trivial⟩)
                   refine e_one (listed' := #[true, true, true, true, true, true, true, true, true, true, true, true, true, false]) 12 rfl (by kernel_rfl) (by kernel_rfl) ?_
                   refine sq_append (ys := x73) hF hS (i := 1) rfl rfl rfl (SlR.src (hS.fc (i := 3) rfl)) psl37 pb65 pz65 rfl (by decide) (by decide) hx96 (by decide) (fun A116 c117 a W hF hS => ?_)
                   refine sq_nil (then_j ⟨?_, ?_⟩)
                   · exact fun _ _ => (hS.keep (List.Sublist.refl _) (List.nil_sublist _) ⟨⟨1, rfl⟩, ⟨2, rfl⟩, ⟨3, rfl⟩, ⟨4, rfl⟩, ⟨5, rfl⟩, trivial⟩)
                   ·
                    have hQC : (fun _ => St M w0 [] [] [fSl k_TAct A87 c88 x21.Acts, fAt k_TRule (p83.add (x8.toNat * 32)) (TRule.enc x21 A87 c88) x21, fSl k_TRule A74 c75 x73, fSl k_TRule A6 c7 x5, fSl k_TRule A0_0 c0_0 u0]) W W := (hS.keep (List.Sublist.refl _) (List.nil_sublist _) ⟨⟨1, rfl⟩, ⟨2, rfl⟩, ⟨3, rfl⟩, ⟨4, rfl⟩, ⟨5, rfl⟩, trivial⟩)
                    refine e_val (listed' := #[true, true, true, true, true, true, true, true, true, true, true, true, true, true]) 13 rfl (by kernel_rfl) (by kernel_rfl) (fun _ _ _ h => h) (fun W => (v_assign hF rfl)) hF (by decide) (fun a hF => ?_)
                    refine e_done (by kernel_rfl) ?_ _
                    obtain rfl := Option.some.inj h
                    exact then_j ⟨x95, A116, c117, rfl, (hF.keep ⟨rfl, rfl, rfl, trivial⟩), (hS.keep (List.Sublist.refl _) (.cons _ (List.Sublist.refl _)) ⟨⟨5, rfl⟩, trivial⟩)⟩
             ·
              refine sq_buildSlice (κ := k_TRule) (xs := [.tmp 64]) (ys := [x21]) hF hS rfl rfl rfl (Els.cons ⟨A87, c88, rfl, (hS.fc (i := 0) rfl)⟩ (Els.nil _ _ _)) rfl psl37 pz65 rfl (by decide) (by decide) (by decide) (fun A118 c119 a W hF hS => ?_)
              refine sq_nil (then_j ⟨?_, ?_⟩)
              · exact fun _ _ => (hS.keep (List.Sublist.refl _) (List.nil_sublist _) ⟨⟨0, rfl⟩, ⟨1, rfl⟩, ⟨2, rfl⟩, ⟨3, rfl⟩, ⟨4, rfl⟩, trivial⟩)
              ·
               have hQC : (fun _ => St M w0 [] [] [fSl k_TAct A87 c88 x21.Acts, fAt k_TRule (p83.add (x8.toNat * 32)) (TRule.enc x21 A87 c88) x21, fSl k_TRule A74 c75 x73, fSl k_TRule A6 c7 x5, fSl k_TRule A0_0 c0_0 u0]) W W := (hS.keep (List.Sublist.refl _) (List.nil_sublist _) ⟨⟨0, rfl⟩, ⟨1, rfl⟩, ⟨2, rfl⟩, ⟨3, rfl⟩, ⟨4, rfl⟩, trivial⟩)
               refine e_listed (listed' := #[true, true, true, false, false, true, true, true, true, true, false, true, false, false]) (by kernel_rfl) ?_
               refine e_one (listed' := #[true, true, true, true, false, true, true, true, true, true, false, true, false, false]) 3 rfl (by kernel_rfl) (by kernel_rfl) ?_
               refine sq_val (v_slice (κ := k_TRule) (lo := 0) (hi := x36.toNat) hF rfl rfl rfl psl37 (.inl ⟨rfl, rfl⟩) (.inr ⟨_, _, rfl, by omega, rfl⟩) (by omega) (by omega) (hS.fc (i := 3) rfl).1) hF (by decide) (fun a hF => ?_)
               have hcut122 := SlR.cut (xs := x5) (hS.fc (i := 3) rfl) (lo := 0) (hi := x36.toNat) (by omega) (by omega)
               generalize (if c7 = 0 then A6 else Option.map (fun (q : Addr) => q.add (0 * (k_TRule).sz)) A6) = A120 at hF hcut122
               generalize c7 - 0 = c121 at hF hcut122
               have hS := hS.addFact (f := fSl k_TRule A120 c121 ((x5.take x36.toNat).drop 0)) hcut122
               refine sq_nil (then_j ⟨?_, ?_⟩)
               · exact fun _ _ => (hS.keep (List.Sublist.refl _) (List.nil_sublist _) ⟨⟨1, rfl⟩, ⟨2, rfl⟩, ⟨3, rfl⟩, ⟨4, rfl⟩, ⟨5, rfl⟩, trivial⟩)
               ·
                have hQC : (fun _ => St M w0 [] [] [fSl k_TAct A87 c88 x21.Acts, fAt k_TRule (p83.add (x8.toNat * 32)) (TRule.enc x21 A87 c88) x21, fSl k_TRule A74 c75 x73, fSl k_TRule A6 c7 x5, fSl k_TRule A0_0 c0_0 u0]) W W := (hS.keep (List.Sublist.refl _) (List.nil_sublist _) ⟨⟨1, rfl⟩, ⟨2, rfl⟩, ⟨3, rfl⟩, ⟨4, rfl⟩, ⟨5, rfl⟩, trivial⟩)
                refine e_one (listed' := #[true, true, true, true, true, true, true, true, true, true, false, true, false, false]) 4 rfl (by kernel_rfl) (by kernel_rfl) ?_
                refine sq_append (ys := ((x5.take x36.toNat).drop 0)) hF hS (i := 1) rfl rfl rfl (SlR.src (hS.fc (i := 0) rfl)) psl37 pb65 pz65 rfl (by decide) (by decide) hx92 (by decide) (fun A123 c124 a W hF hS => ?_)
                refine sq_nil (then_j ⟨?_, ?_⟩)
                · exact fun _ _ => (hS.keep (List.Sublist.refl _) (List.nil_sublist _) ⟨⟨1, rfl⟩, ⟨2, rfl⟩, ⟨3, rfl⟩, ⟨4, rfl⟩, ⟨5, rfl⟩, trivial⟩)
                ·
                 have hQC : (fun _ => St M w0 [] [] [fSl k_TAct A87 c88 x21.Acts, fAt k_TRule (p83.add (x8.toNat * 32)) (TRule.enc x21 A87 c88) x21, fSl k_TRule A74 c75 x73, fSl k_TRule A6 c7 x5, fSl k_TRule A0_0 c0_0 u0]) W W := (hS.keep (List.Sublist.refl _) (List.nil_sublist _) ⟨⟨1, rfl⟩, ⟨2, rfl⟩, ⟨3, rfl⟩, ⟨4, rfl⟩, ⟨5, rfl⟩, trivial⟩)
                 refine e_one (listed' := #[true, true, true, true, true, true, true, true, true, true, true, true, false, false]) 10 rfl (by kernel_rfl) (by kernel_rfl) ?_
                 refine sq_append (ys := ([x21])) hF hS (i := 1) rfl rfl rfl (hS.rw_ (i := 0) rfl).src psl37 pb65 pz65 rfl (by decide) (by decide) hx94 (by decide) (fun A125 c126 a W hF hS => ?_)
                 refine sq_nil (then_j ⟨?_, ?_⟩)
                 · exact fun _ _ => (hS.keep (List.Sublist.refl _) (List.nil_sublist _) ⟨⟨1, rfl⟩, ⟨2, rfl⟩, ⟨3, rfl⟩, ⟨4, rfl⟩, ⟨5, rfl⟩, trivial⟩)
                 ·
                  have hQC : (fun _ => St M w0 [] [] [fSl k_TAct A87 c88 x21.Acts, fAt k_TRule (p83.add (x8.toNat * 32)) (TRule.enc x21 A87 c88) x21, fSl k_TRule A74 c75 x73, fSl k_TRule A6 c7 x5, fSl k_TRule A0_0 c0_0 u0]) W W := (hS.keep (List.Sublist.refl _) (List.nil_sublist _) ⟨⟨1, rfl⟩, ⟨2, rfl⟩, ⟨3, rfl⟩, ⟨4, rfl⟩, ⟨5, rfl⟩, trivial⟩)
                  refine e_one (listed' := #[true, true, true, true, true, true, true, true, true, true, true, true, true, false]) 12 rfl (by kernel_rfl) (by kernel_rfl) ?_
                  refine sq_append (ys := x73) hF hS (i := 1) rfl rfl rfl (SlR.src (hS.fc (i := 3) rfl)) psl37 pb65 pz65 rfl (by decide) (by decide) hx96 (by decide) (fun A127 c128 a W hF hS => ?_)
                  refine sq_nil (then_j ⟨?_, ?_⟩)
                  · exact fun _ _ => (hS.keep (List.Sublist.refl _) (List.nil_sublist _) ⟨⟨1, rfl⟩, ⟨2, rfl⟩, ⟨3, rfl⟩, ⟨4, rfl⟩, ⟨5, rfl⟩, trivial⟩)
                  ·
                   have hQC : (fun _ => St M w0 [] [] [fSl k_TAct A87 c88 x21.Acts, fAt k_TRule (p83.add (x8.toNat * 32)) (TRule.enc x21 A87 c88) x21, fSl k_TRule A74 c75 x73, fSl k_TRule A6 c7 x5, fSl k_TRule A0_0 c0_0 u0]) W W := (hS.keep (List.Sublist.refl _) (List.nil_sublist _) ⟨⟨1, rfl⟩, ⟨2, rfl⟩, ⟨3, rfl⟩, ⟨4, rfl⟩, ⟨5, rfl⟩, trivial⟩)
                   refine e_val (listed' := #[true, true, true, true, true, true, true, true, true, true, true, true, true, true]) 13 rfl (by kernel_rfl) (by kernel_rfl) (fun _ _ _ h => h) (fun W => (v_assign hF rfl)) hF (by decide) (fun a hF => ?_)
                   refine e_done (by kernel_rfl) ?_ _
                   obtain rfl := Option.some.inj h
                   exact then_j ⟨x95, A127, c128, rfl, (hF.keep ⟨rfl, rfl, rfl, trivial⟩), (hS.keep (List.Sublist.refl _) (.cons _ (List.Sublist.refl _)) ⟨⟨5, rfl⟩, trivial⟩)⟩
           ·
            refine sq_val (v_slice (κ := k_TRule) (lo := 0) (hi := x36.toNat) hF rfl rfl rfl psl37 (.inl ⟨rfl, rfl⟩) (.inr ⟨_, _, rfl, by omega, rfl⟩) (by omega) (by omega) (hS.fc (i := 3) rfl).1) hF (by decide) (fun a hF => ?_)
            have hcut131 := SlR.cut (xs := x5) (hS.fc (i := 3) rfl) (lo := 0) (hi := x36.toNat) (by omega) (by omega)
            generalize (if c7 = 0 then A6 else Option.map (fun (q : Addr) => q.add (0 * (k_TRule).sz)) A6) = A129 at hF hcut131
            generalize c7 - 0 = c130 at hF hcut131
            have hS := hS.addFact (f := fSl k_TRule A129 c130 ((x5.take x36.toNat).drop 0)) hcut131
            refine sq_nil (then_j ⟨?_, ?_⟩)
            · exact fun _ _ => (hS.keep (List.Sublist.refl _) (List.Sublist.refl _) ⟨⟨1, rfl⟩, ⟨2, rfl⟩, ⟨3, rfl⟩, ⟨4, rfl⟩, ⟨5, rfl⟩, trivial⟩)
            ·
             have hQC : (fun _ => St M w0 [] [] [fSl k_TAct A87 c88 x21.Acts, fAt k_TRule (p83.add (x8.toNat * 32)) (TRule.enc x21 A87 c88) x21, fSl k_TRule A74 c75 x73, fSl k_TRule A6 c7 x5, fSl k_TRule A0_0 c0_0 u0]) W W := (hS.keep (List.Sublist.refl _) (List.Sublist.refl _) ⟨⟨1, rfl⟩, ⟨2, rfl⟩, ⟨3, rfl⟩, ⟨4, rfl⟩, ⟨5, rfl⟩, trivial⟩)
             refine e_listed (listed' := #[false, true, true, true, false, true, true, true, true, false, false, true, false, false]) (by kernel_rfl) ?_
             refine e_many [0, 9] (by kernel_rfl) (by decide) ⟨⟨_, rfl, ?_⟩, ⟨_, rfl, ?_⟩, trivial⟩
             ·
              refine sq_buildSlice (κ := k_TRule) (xs := []) (ys := ([] : List TRule)) hF hS rfl rfl rfl (Els.nil _ _ _) rfl psl37 pz65 rfl (by decide) (by decide) (by decide) (fun A132 c133 a W hF hS => ?_)
              refine sq_nil (then_j ⟨?_, ?_⟩)
              · exact fun _ _ => (hS.keep (List.Sublist.refl _) (List.nil_sublist _) ⟨⟨1, rfl⟩, ⟨2, rfl⟩, ⟨3, rfl⟩, ⟨4, rfl⟩, ⟨5, rfl⟩, trivial⟩)
              ·
               have hQC : (fun _ => St M w0 [] [] [fSl k_TAct A87 c88 x21.Acts, fAt k_TRule (p83.add (x8.toNat * 32)) (TRule.enc x21 A87 c88) x21, fSl k_TRule A74 c75 x73, fSl k_TRule A6 c7 x5, fSl k_TRule A0_0 c0_0 u0]) W W := (hS.keep (List.Sublist.refl _) (List.nil_sublist _) ⟨⟨1, rfl⟩, ⟨2, rfl⟩, ⟨3, rfl⟩, ⟨4, rfl⟩, ⟨5, rfl⟩, trivial⟩)
               refine e_listed (listed' := #[true, true, true, true, false, true, true, true, true, false, false, true, false, false]) (by kernel_rfl) ?_
               refine e_many [4, 9] (by kernel_rfl) (by decide) ⟨⟨_, rfl, ?_⟩, ⟨_, rfl, ?_⟩, trivial⟩
               ·
                refine sq_append (ys := ((x5.take x36.toNat).drop 0)) hF hS (i := 0) rfl rfl rfl (SlR.src (hS.fc (i := 0) rfl)) psl37 pb65 pz65 rfl (by decide) (by decide) hx92 (by decide) (fun A134 c135 a W hF hS => ?_)
                refine sq_nil (then_j ⟨?_, ?_⟩)
                · exact fun _ _ => (hS.keep (List.Sublist.refl _) (List.nil_sublist _) ⟨⟨1, rfl⟩, ⟨2, rfl⟩, ⟨3, rfl⟩, ⟨4, rfl⟩, ⟨5, rfl⟩, trivial⟩)
                ·
                 have hQC : (fun _ => St M w0 [] [] [fSl k_TAct A87 c88 x21.Acts, fAt k_TRule (p83.add (x8.toNat * 32)) (TRule.enc x21 A87 c88) x21, fSl k_TRule A74 c75 x73, fSl k_TRule A6 c7 x5, fSl k_TRule A0_0 c0_0 u0]) W W := (hS.keep (List.Sublist.refl _) (List.nil_sublist _) ⟨⟨1, rfl⟩, ⟨2, rfl⟩, ⟨3, rfl⟩, ⟨4, rfl⟩, ⟨5, rfl⟩, trivial⟩)
                 refine e_listed (listed' := #[true, true, true, true, true, true, true, true, true, false, false, true, false, false]) (by kernel_rfl) ?_
                 refine e_one (listed' := #[true, true, true, true, true, true, true, true, true, true, false, true, false, false]) 9 rfl (by kernel_rfl) (by kernel_rfl) ?_
                 refine sq_buildSlice (κ := k_TRule) (xs := [.tmp 64]) (ys := [x21]) hF hS rfl rfl rfl (Els.cons ⟨A87, c88, rfl, (hS.fc (i := 1) rfl)⟩ (Els.nil _ _ _)) rfl psl37 pz65 rfl (by decide) (by decide) (by decide) (fun A136 c137 a W hF hS => ?_)
                 refine sq_nil (then_j ⟨?_, ?_⟩)
                 · exact fun _ _ => (hS.keep (List.Sublist.refl _) (List.nil_sublist _) ⟨⟨1, rfl⟩, ⟨2, rfl⟩, ⟨3, rfl⟩, ⟨4, rfl⟩, ⟨5, rfl⟩, trivial⟩)
                 ·
                  have hQC : (fun _ => St M w0 [] [] [fSl k_TAct A87 c88 x21.Acts, fAt k_TRule (p83.add (x8.toNat * 32)) (TRule.enc x21 A87 c88) x21, fSl k_TRule A74 c75 x73, fSl k_TRule A6 c7 x5, fSl k_TRule A0_0 c0_0 u0]) W W := (hS.keep (List.Sublist.refl _) (List.nil_sublist _) ⟨⟨1, rfl⟩, ⟨2, rfl⟩, ⟨3, rfl⟩, ⟨4, rfl⟩, ⟨5, rfl⟩, trivial⟩)
                  refine e_one (listed' := #[true, true, true, true, true, true, true, true, true, true, true, true, false, false]) 10 rfl (by kernel_rfl) (by kernel_rfl) ?_
                  refine sq_append (ys := ([x21])) hF hS (i := 1) rfl rfl rfl (hS.rw_ (i := 0) rfl).src psl37 pb65 pz65 rfl (by decide) (by decide) hx94 (by decide) (fun A138 c139 a W hF hS => ?_)
                  refine sq_nil (then_j ⟨?_, ?_⟩)
                  · exact fun _ _ => (hS.keep (List.Sublist.refl _) (List.nil_sublist _) ⟨⟨1, rfl⟩, ⟨2, rfl⟩, ⟨3, rfl⟩, ⟨4, rfl⟩, ⟨5, rfl⟩, trivial⟩)
                  ·
                   have hQC : (fun _ => St M w0 [] [] [fSl k_TAct A87 c88 x21.Acts, fAt k_TRule (p83.add (x8.toNat * 32)) (TRule.enc x21 A87 c88) x21, fSl k_TRule A74 c75 x73, fSl k_TRule A6 c7 x5, fSl k_TRule A0_0 c0_0 u0]) W W := (hS.keep (List.Sublist.refl _) (List.nil_sublist _) ⟨⟨1, rfl⟩, ⟨2, rfl⟩, ⟨3, rfl⟩, ⟨4, rfl⟩, ⟨5, rfl⟩, trivial⟩)
                   refine e_one (listed' := #[true, true, true, true, true, true, true, true, true, true, true, true, true, false]) 12 rfl (by kernel_rfl) (by kernel_rfl) ?_
                   refine sq_append (ys := x73) hF hS (i := 1) rfl rfl rfl (SlR.src (hS.fc (i := 3) rfl)) psl37 pb65 pz65 rfl (by decide) (by decide) hx96 (by decide) (fun A140 c141 a W hF hS => ?_)
                   refine sq_nil (then_j ⟨?_, ?_⟩)
                   · exact fun _ _ => (hS.keep (List.Sublist.refl _) (List.nil_sublist _) ⟨⟨1, rfl⟩, ⟨2, rfl⟩, ⟨3, rfl⟩, ⟨4, rfl⟩, ⟨5, rfl⟩, trivial⟩)
                   ·
                    have hQC : (fun _ => St M w0 [] [] [fSl k_TAct A87 c88 x21.Acts, fAt k_TRule (p83.add (x8.toNat * 32)) (TRule.enc x21 A87 c88) x21, fSl k_TRule A74 c75 x73, fSl k_TRule A6 c7 x5, fSl k_TRule A0_0 c0_0 u0]) W W := (hS.keep (List.Sublist.refl _) (List.nil_sublist _) ⟨⟨1, rfl⟩, ⟨2, rfl⟩, ⟨3, rfl⟩, ⟨4, rfl⟩, ⟨5, rfl⟩, trivial⟩)
                    refine e_val (listed' := #[true, true, true, true, true, true, true, true, true, true, true, true, true, true]) 13 rfl (by kernel_rfl) (by kernel_rfl) (fun _ _ _ h => h) (fun W => (v_assign hF rfl)) hF (by decide) (fun a hF => ?_)
                    refine e_done (by kernel_rfl) ?_ _
                    obtain rfl := Option.some.inj h
                    exact then_j ⟨x95, A140, c141, rfl, (hF.keep ⟨rfl, rfl, rfl, trivial⟩), (hS.keep (List.Sublist.refl _) (.cons _ (List.Sublist.refl _)) ⟨⟨5, rfl⟩, trivial⟩)⟩
               ·
                refine sq_buildSlice (κ := k_TRule) (xs := [.tmp 64]) (ys := [x21]) hF hS rfl rfl rfl (Els.cons ⟨A87, c88, rfl, (hS.fc (i := 1) rfl)⟩ (Els.nil _ _ _)) rfl psl37 pz65 rfl (by decide) (by decide) (by decide) (fun A142 c143 a W hF hS => ?_)
                refine sq_nil (then_j ⟨?_, ?_⟩)
                · exact fun _ _ => (hS.keep (List.Sublist.refl _) (List.nil_sublist _) ⟨⟨1, rfl⟩, ⟨2, rfl⟩, ⟨3, rfl⟩, ⟨4, rfl⟩, ⟨5, rfl⟩, trivial⟩)
                ·
                 have hQC : (fun _ => St M w0 [] [] [fSl k_TAct A87 c88 x21.Acts, fAt k_TRule (p83.add (x8.toNat * 32)) (TRule.enc x21 A87 c88) x21, fSl k_TRule A74 c75 x73, fSl k_TRule A6 c7 x5, fSl k_TRule A0_0 c0_0 u0]) W W := (hS.keep (List.Sublist.refl _) (List.nil_sublist _) ⟨⟨1, rfl⟩, ⟨2, rfl⟩, ⟨3, rfl⟩, ⟨4, rfl⟩, ⟨5, rfl⟩, trivial⟩)
                 refine e_listed (listed' := #[true, true, true, true, false, true, true, true, true, true, false, true, false, false]) (by kernel_rfl) ?_
                 refine e_one (listed' := #[true, true, true, true, true, true, true, true, true, true, false, true, false, false]) 4 rfl (by kernel_rfl) (by kernel_rfl) ?_
                 refine sq_append (ys := ((x5.take x36.toNat).drop 0)) hF hS (i := 1) rfl rfl rfl (SlR.src (hS.fc (i := 0) rfl)) psl37 pb65 pz65 rfl (by decide) (by decide) hx92 (by decide) (fun A144 c145 a W hF hS => ?_)
                 refine sq_nil (then_j ⟨?_, ?_⟩)
                 · exact fun _ _ => (hS.keep (List.Sublist.refl _) (List.nil_sublist _) ⟨⟨1, rfl⟩, ⟨2, rfl⟩, ⟨3, rfl⟩, ⟨4, rfl⟩, ⟨5, rfl⟩, trivial⟩)
                 ·
                  have hQC : (fun _ => St M w0 [] [] [fSl k_TAct A87 c88 x21.Acts, fAt k_TRule (p83.add (x8.toNat * 32)) (TRule.enc x21 A87 c88) x21, fSl k_TRule A74 c75 x73, fSl k_TRule A6 c7 x5, fSl k_TRule A0_0 c0_0 u0]) W W := (hS.keep (List.Sublist.refl _) (List.nil_sublist _) ⟨⟨1, rfl⟩, ⟨2, rfl⟩, ⟨3, rfl⟩, ⟨4, rfl⟩, ⟨5, rfl⟩, trivial⟩)
                  refine e_one (listed' := #[true, true, true, true, true, true, true, true, true, true, true, true, false, false]) 10 rfl (by kernel_rfl) (by kernel_rfl) ?_
                  refine sq_append (ys := ([x21])) hF hS (i := 1) rfl rfl rfl (hS.rw_ (i := 0) rfl).src psl37 pb65 pz65 rfl (by decide) (by decide) hx94 (by decide) (fun A146 c147 a W hF hS => ?_)
                  refine sq_nil (then_j ⟨?_, ?_⟩)
                  · exact fun _ _ => (hS.keep (List.Sublist.refl _) (List.nil_sublist _) ⟨⟨1, rfl⟩, ⟨2, rfl⟩, ⟨3, rfl⟩, ⟨4, rfl⟩, ⟨5, rfl⟩, trivial⟩)
                  ·
                   have hQC : (fun _ => St M w0 [] [] [fSl k_TAct A87 c88 x21.Acts, fAt k_TRule (p83.add (x8.toNat * 32)) (TRule.enc x21 A87 c88) x21, fSl k_TRule A74 c75 x73, fSl k_TRule A6 c7 x5, fSl k_TRule A0_0 c0_0 u0]) W W := (hS.keep (List.Sublist.refl _) (List.nil_sublist _) ⟨⟨1, rfl⟩, ⟨2, rfl⟩, ⟨3, rfl⟩, ⟨4, rfl⟩, ⟨5, rfl⟩, trivial⟩)
                   refine e_one (listed' := #[true, true, true, true, true, true, true, true, true, true, true, true, true, false]) 12 rfl (by kernel_rfl) (by kernel_rfl) ?_
                   refine sq_append (ys := x73) hF hS (i := 1) rfl rfl rfl (SlR.src (hS.fc (i := 3) rfl)) psl37 pb65 pz65 rfl (by decide) (by decide) hx96 (by decide) (fun A148 c149 a W hF hS => ?_)
                   refine sq_nil (then_j ⟨?_, ?_⟩)
                   · exact fun _ _ => (hS.keep (List.Sublist.refl _) (List.nil_sublist _) ⟨⟨1, rfl⟩, ⟨2, rfl⟩, ⟨3, rfl⟩, ⟨4, rfl⟩, ⟨5, rfl⟩, trivial⟩)
                   ·
                    have hQC : (fun _ => St M w0 [] [] [fSl k_TAct A87 c88 x21.Acts, fAt k_TRule (p83.add (x8.toNat * 32)) (TRule.enc x21 A87 c88) x21, fSl k_TRule A74 c75 x73, fSl k_TRule A6 c7 x5, fSl k_TRule A0_0 c0_0 u0]) W W := (hS.keep (List.Sublist.refl _) (List.nil_sublist _) ⟨⟨1, rfl⟩, ⟨2, rfl⟩, ⟨3, rfl⟩, ⟨4, rfl⟩, ⟨5, rfl⟩, trivial⟩)
                    refine e_val (listed' := #[true, true, true, true, true, true, true, true, true, true, true, true, true, true]) 13 rfl (by kernel_rfl) (by kernel_rfl) (fun _ _ _ h => h) (fun W => (v_assign hF rfl)) hF (by decide) (fun a hF => ?_)
                    refine e_done (by kernel_rfl) ?_ _
                    obtain rfl := Option.some.inj h
                    exact then_j ⟨x95, A148, c149, rfl, (hF.keep ⟨rfl, rfl, rfl, trivial⟩), (hS.keep (List.Sublist.refl _) (.cons _ (List.Sublist.refl _)) ⟨⟨5, rfl⟩, trivial⟩)⟩
             ·
              refine sq_buildSlice (κ := k_TRule) (xs := [.tmp 64]) (ys := [x21]) hF hS rfl rfl rfl (Els.cons ⟨A87, c88, rfl, (hS.fc (i := 1) rfl)⟩ (Els.nil _ _ _)) rfl psl37 pz65 rfl (by decide) (by decide) (by decide) (fun A150 c151 a W hF hS => ?_)
              refine sq_nil (then_j ⟨?_, ?_⟩)
              · exact fun _ _ => (hS.keep (List.Sublist.refl _) (List.nil_sublist _) ⟨⟨1, rfl⟩, ⟨2, rfl⟩, ⟨3, rfl⟩, ⟨4, rfl⟩, ⟨5, rfl⟩, trivial⟩)
              ·
               have hQC : (fun _ => St M w0 [] [] [fSl k_TAct A87 c88 x21.Acts, fAt k_TRule (p83.add (x8.toNat * 32)) (TRule.enc x21 A87 c88) x21, fSl k_TRule A74 c75 x73, fSl k_TRule A6 c7 x5, fSl k_TRule A0_0 c0_0 u0]) W W := (hS.keep (List.Sublist.refl _) (List.nil_sublist _) ⟨⟨1, rfl⟩, ⟨2, rfl⟩, ⟨3, rfl⟩, ⟨4, rfl⟩, ⟨5, rfl⟩, trivial⟩)
               refine e_listed (listed' := #[false, true, true, true, false, true, true, true, true, true, false, true, false, false]) (by kernel_rfl) ?_
               refine e_one (listed' := #[true, true, true, true, false, true, true, true, true, true, false, true, false, false]) 0 rfl (by kernel_rfl) (by kernel_rfl) ?_
               refine sq_buildSlice (κ := k_TRule) (xs := []) (ys := ([] : List TRule)) hF hS rfl rfl rfl (Els.nil _ _ _) rfl psl37 pz65 rfl (by decide) (by decide) (by decide) (fun A152 c153 a W hF hS => ?_)
               refine sq_nil (then_j ⟨?_, ?_⟩)
               · exact fun _ _ => (hS.keep (List.Sublist.refl _) (List.nil_sublist _) ⟨⟨1, rfl⟩, ⟨2, rfl⟩, ⟨3, rfl⟩, ⟨4, rfl⟩, ⟨5, rfl⟩, trivial⟩)
               ·
                have hQC : (fun _ => St M w0 [] [] [fSl k_TAct A87 c88 x21.Acts, fAt k_TRule (p83.add (x8.toNat * 32)) (TRule.enc x21 A87 c88) x21, fSl k_TRule A74 c75 x73, fSl k_TRule A6 c7 x5, fSl k_TRule A0_0 c0_0 u0]) W W := (hS.keep (List.Sublist.refl _) (List.nil_sublist _) ⟨⟨1, rfl⟩, ⟨2, rfl⟩, ⟨3, rfl⟩, ⟨4, rfl⟩, ⟨5, rfl⟩, trivial⟩)
                refine e_one (listed' := #[true, true, true, true, true, true, true, true, true, true, false, true, false, false]) 4 rfl (by kernel_rfl) (by kernel_rfl) ?_
                refine sq_append (ys := ((x5.take x36.toNat).drop 0)) hF hS (i := 0) rfl rfl rfl (SlR.src (hS.fc (i := 0) rfl)) psl37 pb65 pz65 rfl (by decide) (by decide) hx92 (by decide) (fun A154 c155 a W hF hS => ?_)
                refine sq_nil (then_j ⟨?_, ?_⟩)
                · exact fun _ _ => (hS.keep (List.Sublist.refl _) (List.nil_sublist _) ⟨⟨1, rfl⟩, ⟨2, rfl⟩, ⟨3, rfl⟩, ⟨4, rfl⟩, ⟨5, rfl⟩, trivial⟩)
                ·
                 have hQC : (fun _ => St M w0 [] [] [fSl k_TAct A87 c88 x21.Acts, fAt k_TRule (p83.add (x8.toNat * 32)) (TRule.enc x21 A87 c88) x21, fSl k_TRule A74 c75 x73, fSl k_TRule A6 c7 x5, fSl k_TRule A0_0 c0_0 u0]) W W := (hS.keep (List.Sublist.refl _) (List.nil_sublist _) ⟨⟨1, rfl⟩, ⟨2, rfl⟩, ⟨3, rfl⟩, ⟨4, rfl⟩, ⟨5, rfl⟩, trivial⟩)
                 refine e_one (listed' := #[true, true, true, true, true, true, true, true, true, true, true, true, false, false]) 10 rfl (by kernel_rfl) (by kernel_rfl) ?_
                 refine sq_append (ys := ([x21])) hF hS (i := 0) rfl rfl rfl (hS.rw_ (i := 1) rfl).src psl37 pb65 pz65 rfl (by decide) (by decide) hx94 (by decide) (fun A156 c157 a W hF hS => ?_)
                 refine sq_nil (then_j ⟨?_, ?_⟩)
                 · exact fun _ _ => (hS.keep (List.Sublist.refl _) (List.nil_sublist _) ⟨⟨1, rfl⟩, ⟨2, rfl⟩, ⟨3, rfl⟩, ⟨4, rfl⟩, ⟨5, rfl⟩, trivial⟩)
                 ·
                  have hQC : (fun _ => St M w0 [] [] [fSl k_TAct A87 c88 x21.Acts, fAt k_TRule (p83.add (x8.toNat * 32)) (TRule.enc x21 A87 c88) x21, fSl k_TRule A74 c75 x73, fSl k_TRule A6 c7 x5, fSl k_TRule A0_0 c0_0 u0]) W W := (hS.keep (List.Sublist.refl _) (List.nil_sublist _) ⟨⟨1, rfl⟩, ⟨2, rfl⟩, ⟨3, rfl⟩, ⟨4, rfl⟩, ⟨5, rfl⟩, trivial⟩)
                  refine e_one (listed' := #[true, true, true, true, true, true, true, true, true, true, true, true, true, false]) 12 rfl (by kernel_rfl) (by kernel_rfl) ?_
                  refine sq_append (ys := x73) hF hS (i := 0) rfl rfl rfl (SlR.src (hS.fc (i := 3) rfl)) psl37 pb65 pz65 rfl (by decide) (by decide) hx96 (by decide) (fun A158 c159 a W hF hS => ?_)
                  refine sq_nil (then_j ⟨?_, ?_⟩)
                  · exact fun _ _ => (hS.keep (List.Sublist.refl _) (List.nil_sublist _) ⟨⟨1, rfl⟩, ⟨2, rfl⟩, ⟨3, rfl⟩, ⟨4, rfl⟩, ⟨5, rfl⟩, trivial⟩)
                  ·
                   have hQC : (fun _ => St M w0 [] [] [fSl k_TAct A87 c88 x21.Acts, fAt k_TRule (p83.add (x8.toNat * 32)) (TRule.enc x21 A87 c88) x21, fSl k_TRule A74 c75 x73, fSl k_TRule A6 c7 x5, fSl k_TRule A0_0 c0_0 u0]) W W := (hS.keep (List.Sublist.refl _) (List.nil_sublist _) ⟨⟨1, rfl⟩, ⟨2, rfl⟩, ⟨3, rfl⟩, ⟨4, rfl⟩, ⟨5, rfl⟩, trivial⟩)
                   refine e_val (listed' := #[true, true, true, true, true, true, true, true, true, true, true, true, true, true]) 13 rfl (by kernel_rfl) (by kernel_rfl) (fun _ _ _ h => h) (fun W => (v_assign hF rfl)) hF (by decide) (fun a hF => ?_)
                   refine e_done (by kernel_rfl) ?_ _
                   obtain rfl := Option.some.inj h
                   exact then_j ⟨x95, A158, c159, rfl, (hF.keep ⟨rfl, rfl, rfl, trivial⟩), (hS.keep (List.Sublist.refl _) (.cons_cons _ (List.nil_sublist _)) ⟨⟨5, rfl⟩, trivial⟩)⟩
           ·
            refine sq_buildSlice (κ := k_TRule) (xs := [.tmp 64]) (ys := [x21]) hF hS rfl rfl rfl (Els.cons ⟨A87, c88, rfl, (hS.fc (i := 0) rfl)⟩ (Els.nil _ _ _)) rfl psl37 pz65 rfl (by decide) (by decide) (by decide) (fun A160 c161 a W hF hS => ?_)
            refine sq_nil (then_j ⟨?_, ?_⟩)
            · exact fun _ _ => (hS.keep (List.Sublist.refl _) (List.nil_sublist _) ⟨⟨0, rfl⟩, ⟨1, rfl⟩, ⟨2, rfl⟩, ⟨3, rfl⟩, ⟨4, rfl⟩, trivial⟩)
            ·
             have hQC : (fun _ => St M w0 [] [] [fSl k_TAct A87 c88 x21.Acts, fAt k_TRule (p83.add (x8.toNat * 32)) (TRule.enc x21 A87 c88) x21, fSl k_TRule A74 c75 x73, fSl k_TRule A6 c7 x5, fSl k_TRule A0_0 c0_0 u0]) W W := (hS.keep (List.Sublist.refl _) (List.nil_sublist _) ⟨⟨0, rfl⟩, ⟨1, rfl⟩, ⟨2, rfl⟩, ⟨3, rfl⟩, ⟨4, rfl⟩, trivial⟩)
             refine e_listed (listed' := #[false, true, true, false, false, true, true, true, true, true, false, true, false, false]) (by kernel_rfl) ?_
             refine e_many [0, 3] (by kernel_rfl) (by decide) ⟨⟨_, rfl, ?_⟩, ⟨_, rfl, ?_⟩, trivial⟩
             ·
              refine sq_buildSlice (κ := k_TRule) (xs := []) (ys := ([] : List TRule)) hF hS rfl rfl rfl (Els.nil _ _ _) rfl psl37 pz65 rfl (by decide) (by decide) (by decide) (fun A162 c163 a W hF hS => ?_)
              refine sq_nil (then_j ⟨?_, ?_⟩)
              · exact fun _ _ => (hS.keep (List.Sublist.refl _) (List.nil_sublist _) ⟨⟨0, rfl⟩, ⟨1, rfl⟩, ⟨2, rfl⟩, ⟨3, rfl⟩, ⟨4, rfl⟩, trivial⟩)
              ·
               have hQC : (fun _ => St M w0 [] [] [fSl k_TAct A87 c88 x21.Acts, fAt k_TRule (p83.add (x8.toNat * 32)) (TRule.enc x21 A87 c88) x21, fSl k_TRule A74 c75 x73, fSl k_TRule A6 c7 x5, fSl k_TRule A0_0 c0_0 u0]) W W := (hS.keep (List.Sublist.refl _) (List.nil_sublist _) ⟨⟨0, rfl⟩, ⟨1, rfl⟩, ⟨2, rfl⟩, ⟨3, rfl⟩, ⟨4, rfl⟩, trivial⟩)
               refine e_listed (listed' := #[true, true, true, false, false, true, true, true, true, true, false, true, false, false]) (by kernel_rfl) ?_
               refine e_one (listed' := #[true, true, true, true, false, true, true, true, true, true, false, true, false, false]) 3 rfl (by kernel_rfl) (by kernel_rfl) ?_
               refine sq_val (v_slice (κ := k_TRule) (lo := 0) (hi := x36.toNat) hF rfl rfl rfl psl37 (.inl ⟨rfl, rfl⟩) (.inr ⟨_, _, rfl, by omega, rfl⟩) (by omega) (by omega) (hS.fc (i := 3) rfl).1) hF (by decide) (fun a hF => ?_)
               have hcut166 := SlR.cut (xs := x5) (hS.fc (i := 3) rfl) (lo := 0) (hi := x36.toNat) (by omega) (by omega)
               generalize (if c7 = 0 then A6 else Option.map (fun (q : Addr) => q.add (0 * (k_TRule).sz)) A6) = A164 at hF hcut166
               generalize c7 - 0 = c165 at hF hcut166
               have hS := hS.addFact (f := fSl k_TRule A164 c165 ((x5.take x36.toNat).drop 0)) hcut166
               refine sq_nil (then_j ⟨?_, ?_⟩)
               · exact fun _ _ => (hS.keep (List.Sublist.refl _) (List.nil_sublist _) ⟨⟨1, rfl⟩, ⟨2, rfl⟩, ⟨3, rfl⟩, ⟨4, rfl⟩, ⟨5, rfl⟩, trivial⟩)
               ·
                have hQC : (fun _ => St M w0 [] [] [fSl k_TAct A87 c88 x21.Acts, fAt k_TRule (p83.add (x8.toNat * 32)) (TRule.enc x21 A87 c88) x21, fSl k_TRule A74 c75 x73, fSl k_TRule A6 c7 x5, fSl k_TRule A0_0 c0_0 u0]) W W := (hS.keep (List.Sublist.refl _) (List.nil_sublist _) ⟨⟨1, rfl⟩, ⟨2, rfl⟩, ⟨3, rfl⟩, ⟨4, rfl⟩, ⟨5, rfl⟩, trivial⟩)
                refine e_one (listed' := #[true, true, true, true, true, true, true, true, true, true, false, true, false, false]) 4 rfl (by kernel_rfl) (by kernel_rfl) ?_
                refine sq_append (ys := ((x5.take x36.toNat).drop 0)) hF hS (i := 0) rfl rfl rfl (SlR.src (hS.fc (i := 0) rfl)) psl37 pb65 pz65 rfl (by decide) (by decide) hx92 (by decide) (fun A167 c168 a W hF hS => ?_)
                refine sq_nil (then_j ⟨?_, ?_⟩)
                · exact fun _ _ => (hS.keep (List.Sublist.refl _) (List.nil_sublist _) ⟨⟨1, rfl⟩, ⟨2, rfl⟩, ⟨3, rfl⟩, ⟨4, rfl⟩, ⟨5, rfl⟩, trivial⟩)
                ·
                 have hQC : (fun _ => St M w0 [] [] [fSl k_TAct A87 c88 x21.Acts, fAt k_TRule (p83.add (x8.toNat * 32)) (TRule.enc x21 A87 c88) x21, fSl k_TRule A74 c75 x73, fSl k_TRule A6 c7 x5, fSl k_TRule A0_0 c0_0 u0]) W W := (hS.keep (List.Sublist.refl _) (List.nil_sublist _) ⟨⟨1, rfl⟩, ⟨2, rfl⟩, ⟨3, rfl⟩, ⟨4, rfl⟩, ⟨5, rfl⟩, trivial⟩)
                 refine e_one (listed' := #[true, true, true, true, true, true, true, true, true, true, true, true, false, false]) 10 rfl (by kernel_rfl) (by kernel_rfl) ?_
                 refine sq_append (ys := ([x21])) hF hS (i := 0) rfl rfl rfl (hS.rw_ (i := 1) rfl).src psl37 pb65 pz65 rfl (by decide) (by decide) hx94 (by decide) (fun A169 c170 a W hF hS => ?_)
                 refine sq_nil (then_j ⟨?_, ?_⟩)
                 · exact fun _ _ => (hS.keep (List.Sublist.refl _) (List.nil_sublist _) ⟨⟨1, rfl⟩, ⟨2, rfl⟩, ⟨3, rfl⟩, ⟨4, rfl⟩, ⟨5, rfl⟩, trivial⟩)
                 ·
                  have hQC : (fun _ => St M w0 [] [] [fSl k_TAct A87 c88 x21.Acts, fAt k_TRule (p83.add (x8.toNat * 32)) (TRule.enc x21 A87 c88) x21, fSl k_TRule A74 c75 x73, fSl k_TRule A6 c7 x5, fSl k_TRule A0_0 c0_0 u0]) W W := (hS.keep (List.Sublist.refl _) (List.nil_sublist _) ⟨⟨1, rfl⟩, ⟨2, rfl⟩, ⟨3, rfl⟩, ⟨4, rfl⟩, ⟨5, rfl⟩, trivial⟩)
                  refine e_one (listed' := #[true, true, true, true, true, true, true, true, true, true, true, true, true, false]) 12 rfl (by kernel_rfl) (by kernel_rfl) ?_
                  refine sq_append (ys := x73) hF hS (i := 0) rfl rfl rfl (SlR.src (hS.fc (i := 3) rfl)) psl37 pb65 pz65 rfl (by decide) (by decide) hx96 (by decide) (fun A171 c172 a W hF hS => ?_)
                  refine sq_nil (then_j ⟨?_, ?_⟩)
                  · exact fun _ _ => (hS.keep (List.Sublist.refl _) (List.nil_sublist _) ⟨⟨1, rfl⟩, ⟨2, rfl⟩, ⟨3, rfl⟩, ⟨4, rfl⟩, ⟨5, rfl⟩, trivial⟩)
                  ·
                   have hQC : (fun _ => St M w0 [] [] [fSl k_TAct A87 c88 x21.Acts, fAt k_TRule (p83.add (x8.toNat * 32)) (TRule.enc x21 A87 c88) x21, fSl k_TRule A74 c75 x73, fSl k_TRule A6 c7 x5, fSl k_TRule A0_0 c0_0 u0]) W W := (hS.keep (List.Sublist.refl _) (List.nil_sublist _) ⟨⟨1, rfl⟩, ⟨2, rfl⟩, ⟨3, rfl⟩, ⟨4, rfl⟩, ⟨5, rfl⟩, trivial⟩)
                   refine e_val (listed' := #[true, true, true, true, true, true, true, true, true, true, true, true, true, true]) 13 rfl (by kernel_rfl) (by kernel_rfl) (fun _ _ _ h => h) (fun W => (v_assign hF rfl)) hF (by decide) (fun a hF => ?_)
                   refine e_done (by kernel_rfl) ?_ _
                   obtain rfl := Option.some.inj h
                   exact then_j ⟨x95, A171, c172, rfl, (hF.keep ⟨rfl, rfl, rfl, trivial⟩), (hS.keep (List.Sublist.refl _) (.cons_cons _ (List.nil_sublist _)) ⟨⟨5, rfl⟩, trivial⟩)⟩
             ·
              refine sq_val (v_slice (κ := k_TRule) (lo := 0) (hi := x36.toNat) hF rfl rfl rfl psl37 (.inl ⟨rfl, rfl⟩) (.inr ⟨_, _, rfl, by omega, rfl⟩) (by omega) (by omega) (hS.fc (i := 3) rfl).1) hF (by decide) (fun a hF => ?_)
              have hcut175 := SlR.cut (xs := x5) (hS.fc (i := 3) rfl) (lo := 0) (hi := x36.toNat) (by omega) (by omega)
              generalize (if c7 = 0 then A6 else Option.map (fun (q : Addr) => q.add (0 * (k_TRule).sz)) A6) = A173 at hF hcut175
              generalize c7 - 0 = c174 at hF hcut175
              have hS := hS.addFact (f := fSl k_TRule A173 c174 ((x5.take x36.toNat).drop 0)) hcut175
              refine sq_nil (then_j ⟨?_, ?_⟩)
              · exact fun _ _ => (hS.keep (List.Sublist.refl _) (List.nil_sublist _) ⟨⟨1, rfl⟩, ⟨2, rfl⟩, ⟨3, rfl⟩, ⟨4, rfl⟩, ⟨5, rfl⟩, trivial⟩)
              ·
               have hQC : (fun _ => St M w0 [] [] [fSl k_TAct A87 c88 x21.Acts, fAt k_TRule (p83.add (x8.toNat * 32)) (TRule.enc x21 A87 c88) x21, fSl k_TRule A74 c75 x73, fSl k_TRule A6 c7 x5, fSl k_TRule A0_0 c0_0 u0]) W W := (hS.keep (List.Sublist.refl _) (List.nil_sublist _) ⟨⟨1, rfl⟩, ⟨2, rfl⟩, ⟨3, rfl⟩, ⟨4, rfl⟩, ⟨5, rfl⟩, trivial⟩)
               refine e_listed (listed' := #[false, true, true, true, false, true, true, true, true, true, false, true, false, false]) (by kernel_rfl) ?_
               refine e_one (listed' := #[true, true, true, true, false, true, true, true, true, true, false, true, false, false]) 0 rfl (by kernel_rfl) (by kernel_rfl) ?_
               refine sq_buildSlice (κ := k_TRule) (xs := []) (ys := ([] : List TRule)) hF hS rfl rfl rfl (Els.nil _ _ _) rfl psl37 pz65 rfl (by decide) (by decide) (by decide) (fun A176 c177 a W hF hS => ?_)
               refine sq_nil (then_j ⟨?_, ?_⟩)
               · exact fun _ _ => (hS.keep (List.Sublist.refl _) (List.nil_sublist _) ⟨⟨1, rfl⟩, ⟨2, rfl⟩, ⟨3, rfl⟩, ⟨4, rfl⟩, ⟨5, rfl⟩, trivial⟩)
               ·
                have hQC : (fun _ => St M w0 [] [] [fSl k_TAct A87 c88 x21.Acts, fAt k_TRule (p83.add (x8.toNat * 32)) (TRule.enc x21 A87 c88) x21, fSl k_TRule A74 c75 x73, fSl k_TRule A6 c7 x5, fSl k_TRule A0_0 c0_0 u0]) W W := (hS.keep (List.Sublist.refl _) (List.nil_sublist _) ⟨⟨1, rfl⟩, ⟨2, rfl⟩, ⟨3, rfl⟩, ⟨4, rfl⟩, ⟨5, rfl⟩, trivial⟩)
                refine e_one (listed' := #[true, true, true, true, true, true, true, true, true, true, false, true, false, false]) 4 rfl (by kernel_rfl) (by kernel_rfl) ?_
                refine sq_append (ys := ((x5.take x36.toNat).drop 0)) hF hS (i := 0) rfl rfl rfl (SlR.src (hS.fc (i := 0) rfl)) psl37 pb65 pz65 rfl (by decide) (by decide) hx92 (by decide) (fun A178 c179 a W hF hS => ?_)
                refine sq_nil (then_j ⟨?_, ?_⟩)
                · exact fun _ _ => (hS.keep (List.Sublist.refl _) (List.nil_sublist _) ⟨⟨1, rfl⟩, ⟨2, rfl⟩, ⟨3, rfl⟩, ⟨4, rfl⟩, ⟨5, rfl⟩, trivial⟩)
                ·
                 have hQC : (fun _ => St M w0 [] [] [fSl k_TAct A87 c88 x21.Acts, fAt k_TRule (p83.add (x8.toNat * 32)) (TRule.enc x21 A87 c88) x21, fSl k_TRule A74 c75 x73, fSl k_TRule A6 c7 x5, fSl k_TRule A0_0 c0_0 u0]) W W := (hS.keep (List.Sublist.refl _) (List.nil_sublist _) ⟨⟨1, rfl⟩, ⟨2, rfl⟩, ⟨3, rfl⟩, ⟨4, rfl⟩, ⟨5, rfl⟩, trivial⟩)
                 refine e_one (listed' := #[true, true, true, true, true, true, true, true, true, true, true, true, false, false]) 10 rfl (by kernel_rfl) (by kernel_rfl) ?_
                 refine sq_append (ys := ([x21])) hF hS (i := 0) rfl rfl rfl (hS.rw_ (i := 1) rfl).src psl37 pb65 pz65 rfl (by decide) (by decide) hx94 (by decide) (fun A180 c181 a W hF hS => ?_)
                 refine sq_nil (then_j ⟨?_, ?_⟩)
                 · exact fun _ _ => (hS.keep (List.Sublist.refl _) (List.nil_sublist _) ⟨⟨1, rfl⟩, ⟨2, rfl⟩, ⟨3, rfl⟩, ⟨4, rfl⟩, ⟨5, rfl⟩, trivial⟩)
                 ·
                  have hQC : (fun _ => St M w0 [] [] [fSl k_TAct A87 c88 x21.Acts, fAt k_TRule (p83.add (x8.toNat * 32)) (TRule.enc x21 A87 c88) x21, fSl k_TRule A74 c75 x73, fSl k_TRule A6 c7 x5, fSl k_TRule A0_0 c0_0 u0]) W W := (hS.keep (List.Sublist.refl _) (List.nil_sublist _) ⟨⟨1, rfl⟩, ⟨2, rfl⟩, ⟨3, rfl⟩, ⟨4, rfl⟩, ⟨5, rfl⟩, trivial⟩)
                  refine e_one (listed' := #[true, true, true, true, true, true, true, true, true, true, true, true, true, false]) 12 rfl (by kernel_rfl) (by kernel_rfl) ?_
                  refine sq_append (ys := x73) hF hS (i := 0) rfl rfl rfl (SlR.src (hS.fc (i := 3) rfl)) psl37 pb65 pz65 rfl (by decide) (by decide) hx96 (by decide) (fun A182 c183 a W hF hS => ?_)
                  refine sq_nil (then_j ⟨?_, ?_⟩)
                  · exact fun _ _ => (hS.keep (List.Sublist.refl _) (List.nil_sublist _) ⟨⟨1, rfl⟩, ⟨2, rfl⟩, ⟨3, rfl⟩, ⟨4, rfl⟩, ⟨5, rfl⟩, trivial⟩)
                  ·
                   have hQC : (fun _ => St M w0 [] [] [fSl k_TAct A87 c88 x21.Acts, fAt k_TRule (p83.add (x8.toNat * 32)) (TRule.enc x21 A87 c88) x21, fSl k_TRule A74 c75 x73, fSl k_TRule A6 c7 x5, fSl k_TRule A0_0 c0_0 u0]) W W := (hS.keep (List.Sublist.refl _) (List.nil_sublist _) ⟨⟨1, rfl⟩, ⟨2, rfl⟩, ⟨3, rfl⟩, ⟨4, rfl⟩, ⟨5, rfl⟩, trivial⟩)
                   refine e_val (listed' := #[true, true, true, true, true, true, true, true, true, true, true, true, true, true]) 13 rfl (by kernel_rfl) (by kernel_rfl) (fun _ _ _ h => h) (fun W => (v_assign hF rfl)) hF (by decide) (fun a hF => ?_)
                   refine e_done (by kernel_rfl) ?_ _
                   obtain rfl := Option.some.inj h
                   exact then_j ⟨x95, A182, c183, rfl, (hF.keep ⟨rfl, rfl, rfl, trivial⟩), (hS.keep (List.Sublist.refl _) (.cons_cons _ (List.nil_sublist _)) ⟨⟨5, rfl⟩, trivial⟩)⟩
         ·
          refine wp_if hF rfl (fun he184 => ?_) (fun he184 => ?_)
          ·
           replace h := ifT he184 h
           refine wp_reg ?_
           refine sq_val (v_move hF rfl) hF (by decide) (fun a hF => ?_)
           have hS := hS.freeze (i := 0) rfl (posB rfl)
           obtain ⟨hb185, h⟩ := ifS h
           refine sq_val (v_slice (κ := k_TRule) (lo := (1 : Int).toNat) (hi := x47.length) hF rfl rfl rfl psl37 (.inr ⟨_, _, rfl, by omega, rfl⟩) (.inl ⟨rfl, rfl⟩) (by omega) (by omega) (hS.fc (i := 0) rfl).1) hF (by decide) (fun a hF => ?_)
           have hcut188 := SlR.cut (xs := x47) (hS.fc (i := 0) rfl) (lo := (1 : Int).toNat) (hi := x47.length) (by omega) (by omega)
           generalize (if c46 = (1 : Int).toNat then A45 else Option.map (fun (q : Addr) => q.add ((1 : Int).toNat * (k_TRule).sz)) A45) = A186 at hF hcut188
           generalize c46 - (1 : Int).toNat = c187 at hF hcut188
           have hS := hS.addFact (f := fSl k_TRule A186 c187 ((x47.take x47.length).drop (1 : Int).toNat)) hcut188
           refine sq_val (v_assign hF rfl) hF (by decide) (fun a hF => ?_)
           refine sq_nil ?_
           obtain rfl := Option.some.inj h
           exact then_j ⟨((x47.take x47.length).drop (1 : Int).toNat), A186, c187, rfl, (hF.keep ⟨rfl, rfl, rfl, rfl, rfl, trivial⟩), (hS.keep (List.Sublist.refl _) (List.Sublist.refl _) ⟨⟨0, rfl⟩, ⟨3, rfl⟩, ⟨4, rfl⟩, trivial⟩)⟩
          ·
           replace h := ifF he184 h
           refine wp_skip ?_
           have hS := hS.freeze (i := 0) rfl (posB rfl)
           obtain rfl := Option.some.inj h
           exact then_j ⟨x47, A45, c46, rfl, (hF.keep ⟨rfl, rfl, rfl, rfl, rfl, trivial⟩), (hS.keep (List.Sublist.refl _) (List.Sublist.refl _) ⟨⟨0, rfl⟩, ⟨2, rfl⟩, ⟨3, rfl⟩, trivial⟩)⟩
        ·
         by_cases he49 : (decide (0 < (x47.length : Int))) = true
         ·
          replace h := ifT he49 h
          refine qt_yes hF rfl rfl he49 ?_
          refine qt_val (fun W hC => (v_move hF rfl)) hF (by decide) (fun a hF => ?_)
          refine qt_yes hF rfl rfl he49 ?_
          obtain ⟨x53, hx54, h⟩ := bindS h
          obtain ⟨p55, cs56, hA57, hc59, hr60⟩ := Row.ok.at (hS.rw_ (i := 0) rfl) hx54
          obtain ⟨A61, c62, rfl, hs63⟩ := hr60
          refine qt_val (fun W hC => (v_idx hF rfl hA57 rfl psl37 hx54)) hF (by decide) (fun a hF => ?_)
          refine qt_yes hF rfl rfl he49 ?_
          refine qt_val (fun W hC => (v_load (cs := TRule.enc x53 A61 c62) hF rfl pa65 ps65 (hc59.grow hC.1))) hF (by decide) (fun a hF => ?_)
          refine qt_yes hF rfl rfl he49 ?_
          refine qt_val (fun W hC => (v_move hF rfl)) hF (by decide) (fun a hF => ?_)
          refine qt_yes hF rfl rfl he49 ?_
          refine qt_val (fun W hC => (v_move hF rfl)) hF (by decide) (fun a hF => ?_)
          refine qt_yes hF rfl rfl he49 ?_
          obtain ⟨p64, cs65, hA66, hat67⟩ := SlR.at (hS.fc (i := 2) rfl) hx22
          obtain ⟨A68, c69, rfl, hs70⟩ := hat67.2.2.2
          refine qt_val (fun W hC => (v_idx hF rfl hA66 rfl psl37 hx22)) hF (by decide) (fun a hF => ?_)
          refine qt_yes hF rfl rfl he49 ?_
          refine qt_val (fun W hC => (v_load (cs := TRule.enc x21 A68 c69) hF rfl pa65 ps65 (hat67.2.2.1.grow hC.1))) hF (by decide) (fun a hF => ?_)
          refine qt_yes hF rfl rfl he49 ?_
          obtain ⟨x71, hx72, h⟩ := bindS h
          refine qt_call hF pc71 rfl (by decide) (fun W hC => q_of hC (ok_ref04_Key (((hC.2.addFact (f := fSl k_TAct A61 c62 x53.Acts) ((fSl k_TAct A61 c62 x53.Acts).st hs63 (Stp.below hC.1))).addFact (f := fSl k_TAct A68 c69 x21.Acts) ((fSl k_TAct A68 c69 x21.Acts).st hs70 (Stp.below hC.1))).enter ⟨⟨1, rfl⟩, ⟨0, rfl⟩, trivial⟩) hx72)) (fun a hF => ?_)
          refine qt_val (fun W hC => (v_pick_t hF rfl he49 rfl)) hF (by decide) (fun a hF => ?_)
          obtain rfl := Option.some.inj h
          exact qt_nil (hF.keep ⟨rfl, rfl, rfl, rfl, rfl, rfl, trivial⟩)
         ·
          have he49 : (decide (0 < (x47.length : Int))) = false := nB he49
          replace h := ifF he49 h
          refine qt_no hF rfl rfl he49 (by decide) (fun a hF => ?_)
          refine qt_no hF rfl rfl he49 (by decide) (fun a hF => ?_)
          refine qt_no hF rfl rfl he49 (by decide) (fun a hF => ?_)
          refine qt_no hF rfl rfl he49 (by decide) (fun a hF => ?_)
          refine qt_no hF rfl rfl he49 (by decide) (fun a hF => ?_)
          refine qt_no hF rfl rfl he49 (by decide) (fun a hF => ?_)
          refine qt_no hF rfl rfl he49 (by decide) (fun a hF => ?_)
          refine qt_no hF rfl rfl he49 (by decide) (fun a hF => ?_)
          refine qt_val (fun W hC => (v_pick_f hF rfl he49 rfl)) hF (by decide) (fun a hF => ?_)
          obtain rfl := Option.some.inj h
          exact qt_nil (hF.keep ⟨rfl, rfl, rfl, rfl, rfl, rfl, trivial⟩)
       ·
        refine wp_block ?_
        refine wp_loop_fuel (I := fun m a W => ∃ (x35 : Int), FH 70 [(0, .slice A0_0 ((u0).length) c0_0), (3, .slice A6 ((x5).length) c7), (4, .int .i64 (x8)), (5, .int .i64 (x35))] a ∧ St M w0 [] [⟨k_TRule, 65, A6, c7, x5⟩] [fSl k_TRule A0_0 c0_0 u0] W ∧ (ref04_Sort.l1 k x5 x21 m x35) = some o37) ?_ (k := k) ⟨0, (hF.keep ⟨rfl, rfl, rfl, rfl, trivial⟩), (hS.keep (List.Sublist.refl _) (List.Sublist.refl _) ⟨⟨2, rfl⟩, trivial⟩), h⟩
        rintro m189 a W ⟨x35, hF, hS, h⟩
        cases m189 with
        | zero => cases h
        | succ m189 =>
         rw [ref04_Sort.l1] at h
         refine wp_seq ?_
         refine wp_seq ?_
         refine wp_quiet rfl (by kernel_rfl) hS ?_
         refine qt_val (fun W hC => (v_move hF rfl)) hF (by decide) (fun a hF => ?_)
         refine qt_val (fun W hC => (v_move hF rfl)) hF (by decide) (fun a hF => ?_)
         refine qt_val (fun W hC => (v_len hF rfl pu37)) hF (by decide) (fun a hF => ?_)
         refine qt_val (fun W hC => (v_lss hF rfl rfl)) hF (by decide) (fun a hF => ?_)
         refine qt_val (fun W hC => (v_move hF rfl)) hF (by decide) (fun a hF => ?_)
         obtain ⟨x191, h, hk193⟩ := bindS h
         refine qt_cut 10 (fun a => FH 70 [(0, .slice A0_0 ((u0).length) c0_0), (3, .slice A6 ((x5).length) c7), (4, .int .i64 (x8)), (5, .int .i64 (x35)), (33, .bool x191)] a) (fun a hF => ?_) ?_
         ·
          have h := hk193
          refine qt_nil ?_
          intro W hC
          have hS := hC.2
          refine then_n ?_
          refine wp_if hF rfl (fun he214 => ?_) (fun he214 => ?_)
          ·
           replace h := ifT he214 h
           refine wp_skip ?_
           refine then_n ?_
           refine wp_block ?_
           refine wp_reg ?_
           refine sq_val (v_move hF rfl) hF (by decide) (fun a hF => ?_)
           refine sq_val (v_add hF rfl rfl) hF (by decide) (fun a hF => ?_)
           refine sq_val (v_assign hF rfl) hF (by decide) (fun a hF => ?_)
           refine sq_nil ?_
           refine blk_n ?_
           exact then_j ⟨m189, Nat.lt_succ_self _, (IntKind.i64.wrap (x35 + 1)), (hF.keep ⟨rfl, rfl, rfl, rfl, trivial⟩), hS, h⟩
          ·
           replace h := ifF he214 h
           refine wp_exit ?_
           refine then_x ?_
           refine then_x ?_
           refine blk_hit ?_
           obtain rfl := Option.some.inj h
           exact then_j ⟨x35, rfl, (hF.keep ⟨rfl, rfl, rfl, rfl, trivial⟩), hS⟩
         ·
          by_cases he190 : (decide (x35 < (x5.length : Int))) = true
          ·
           replace h := ifT he190 h
           refine qt_yes hF rfl rfl he190 ?_
           refine qt_val (fun W hC => (v_move hF rfl)) hF (by decide) (fun a hF => ?_)
           refine qt_yes hF rfl rfl he190 ?_
           refine qt_val (fun W hC => (v_move hF rfl)) hF (by decide) (fun a hF => ?_)
           refine qt_yes hF rfl rfl he190 ?_
           obtain ⟨x194, hx195, h⟩ := bindS h
           obtain ⟨p196, cs197, hA198, hc200, hr201⟩ := Row.ok.at (hS.rw_ (i := 0) rfl) hx195
           obtain ⟨A202, c203, rfl, hs204⟩ := hr201
           refine qt_val (fun W hC => (v_idx hF rfl hA198 rfl psl37 hx195)) hF (by decide) (fun a hF => ?_)
           refine qt_yes hF rfl rfl he190 ?_
           refine qt_val (fun W hC => (v_load (cs := TRule.enc x194 A202 c203) hF rfl pa65 ps65 (hc200.grow hC.1))) hF (by decide) (fun a hF => ?_)
           refine qt_yes hF rfl rfl he190 ?_
           refine qt_val (fun W hC => (v_move hF rfl)) hF (by decide) (fun a hF => ?_)
           refine qt_yes hF rfl rfl he190 ?_
           refine qt_val (fun W hC => (v_move hF rfl)) hF (by decide) (fun a hF => ?_)
           refine qt_yes hF rfl rfl he190 ?_
           obtain ⟨p205, cs206, hA207, hat208⟩ := SlR.at (hS.fc (i := 0) rfl) hx22
           obtain ⟨A209, c210, rfl, hs211⟩ := hat208.2.2.2
           refine qt_val (fun W hC => (v_idx hF rfl hA207 rfl psl37 hx22)) hF (by decide) (fun a hF => ?_)
           refine qt_yes hF rfl rfl he190 ?_
           refine qt_val (fun W hC => (v_load (cs := TRule.enc x21 A209 c210) hF rfl pa65 ps65 (hat208.2.2.1.grow hC.1))) hF (by decide) (fun a hF => ?_)
           refine qt_yes hF rfl rfl he190 ?_
           obtain ⟨x212, hx213, h⟩ := bindS h
           refine qt_call hF pc82 rfl (by decide) (fun W hC => q_of hC (ok_ref04_Before k (((hC.2.addFact (f := fSl k_TAct A202 c203 x194.Acts) ((fSl k_TAct A202 c203 x194.Acts).st hs204 (Stp.below hC.1))).addFact (f := fSl k_TAct A209 c210 x21.Acts) ((fSl k_TAct A209 c210 x21.Acts).st hs211 (Stp.below hC.1))).enter ⟨⟨1, rfl⟩, ⟨0, rfl⟩, trivial⟩) hx213)) (fun a hF => ?_)
           refine qt_val (fun W hC => (v_pick_t hF rfl he190 rfl)) hF (by decide) (fun a hF => ?_)
           obtain rfl := Option.some.inj h
           exact qt_nil (hF.keep ⟨rfl, rfl, rfl, rfl, rfl, trivial⟩)
          ·
           have he190 : (decide (x35 < (x5.length : Int))) = false := nB he190
           replace h := ifF he190 h
           refine qt_no hF rfl rfl he190 (by decide) (fun a hF => ?_)
           refine qt_no hF rfl rfl he190 (by decide) (fun a hF => ?_)
           refine qt_no hF rfl rfl he190 (by decide) (fun a hF => ?_)
           refine qt_no hF rfl rfl he190 (by decide) (fun a hF => ?_)
           refine qt_no hF rfl rfl he190 (by decide) (fun a hF => ?_)
           refine qt_no hF rfl rfl he190 (by decide) (fun a hF => ?_)
           refine qt_no hF rfl rfl he190 (by decide) (fun a hF => ?_)
           refine qt_no hF rfl rfl he190 (by decide) (fun a hF => ?_)
           refine qt_no hF rfl rfl he190 (by decide) (fun a hF => ?_)
           refine qt_val (fun W hC => (v_pick_f hF rfl he190 rfl)) hF (by decide) (fun a hF => ?_)
           obtain rfl := Option.some.inj h
           exact qt_nil (hF.keep ⟨rfl, rfl, rfl, rfl, rfl, trivial⟩)
    ·
     replace h := ifF he15 h
     refine wp_exit ?_
     refine then_x ?_
     refine then_x ?_
     refine blk_hit ?_
     obtain rfl := Option.some.inj h
     exact then_j ⟨x5, A6, c7, rfl, (hF.keep ⟨rfl, trivial⟩), (hS.keep (List.Sublist.refl _) (List.Sublist.refl _) trivial)⟩
end Go.Proofs.Ytangebngeeamoaa
