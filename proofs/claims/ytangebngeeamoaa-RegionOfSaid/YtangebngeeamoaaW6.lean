/- What calls of the Go functions come to. -/
import Derived.Test.YtangebngeeamoaaW5
set_option linter.unusedVariables false
set_option linter.unusedSimpArgs false
set_option maxRecDepth 100000
set_option maxHeartbeats 4000000
namespace Go.Proofs.Ytangebngeeamoaa
open Go.RowKit Go.Pod
theorem ok_ref19_Units (k : Nat) {M : Nat → Prop} {w0 : World} {u0 : List TChange} {A0_0 : Option Addr} {c0_0 : Nat} {o : (List Int)} (hS : St M w0 [] [] [fSl k_TChange A0_0 c0_0 u0] w0) (h : ref19_Units k u0 = some o) :
    Calls Try.prog 52 #[.slice A0_0 ((u0).length) c0_0] w0 fun e W' => ∃ v, e = .returned v ∧ (∃ (A595 : Option Addr) (c596 : Nat), v = .slice A595 ((o).length) c596 ∧ St M w0 [] [⟨(kInt .i64), 3, A595, c596, o⟩] [] W') := by
  unfold ref19_Units at h
  refine calls_start (args := [.slice A0_0 ((u0).length) c0_0]) Try.func52 rfl rfl (Nat.le_of_ble_eq_true rfl) (fun a hF => ?_)
  refine wp_seq ?_
  refine wp_reg ?_
  refine sq_val (v_assign hF rfl) hF (by decide) (fun a hF => ?_)
  refine sq_nil ?_
  refine then_n ?_
  refine wp_seq ?_
  refine wp_reg ?_
  refine sq_val (v_assign hF rfl) hF (by decide) (fun a hF => ?_)
  refine sq_nil ?_
  refine then_n ?_
  refine wp_seq ?_
  refine wp_seq ?_
  refine wp_reg ?_
  refine sq_val (v_assign hF rfl) hF (by decide) (fun a hF => ?_)
  refine sq_nil ?_
  refine then_n ?_
  obtain ⟨o12, h, hk13⟩ := bindS h
  refine wp_join (fun a W => ∃ (x9 : List Int) (A10 : Option Addr) (c11 : Nat), x9 = o12 ∧ FH 63 [(3, .slice A10 ((x9).length) c11)] a ∧ St M w0 [] [⟨(kInt .i64), 3, A10, c11, x9⟩] [] W) (fun a W hJ => ?_) ?_
  ·
   obtain ⟨x9, A10, c11, rfl, hF, hS⟩ := hJ
   have h := hk13
   refine then_n ?_
   refine wp_seq ?_
   refine wp_reg ?_
   refine sq_val (v_move hF rfl) hF (by decide) (fun a hF => ?_)
   refine sq_val (v_assign hF rfl) hF (by decide) (fun a hF => ?_)
   refine sq_nil ?_
   refine then_n ?_
   refine wp_ret ?_
   obtain rfl := Option.some.inj h
   exact ret1 hF rfl (rv_tmp hF rfl) ⟨_, rfl, A10, c11, rfl, hS⟩
  ·
   have hS := hS.addNil (kInt .i64) 3
   refine wp_block ?_
   refine wp_loop_fuel (I := fun m a W => ∃ (x5 : List Int) (x8 : Int) (A6 : Option Addr) (c7 : Nat), FH 63 [(0, .slice A0_0 ((u0).length) c0_0), (3, .slice A6 ((x5).length) c7), (4, .int .i64 (x8))] a ∧ St M w0 [] [⟨(kInt .i64), 3, A6, c7, x5⟩] [fSl k_TChange A0_0 c0_0 u0] W ∧ (ref19_Units.l0 k u0 m x5 x8) = some o12) ?_ (k := k) ⟨([]), 0, none, 0, (hF.keep ⟨rfl, rfl, rfl, trivial⟩), hS, h⟩
   rintro m14 a W ⟨x5, x8, A6, c7, hF, hS, h⟩
   cases m14 with
   | zero => cases h
   | succ m14 =>
    rw [ref19_Units.l0] at h
    refine wp_seq ?_
    refine wp_seq ?_
    refine wp_reg ?_
    refine sq_val (v_move hF rfl) hF (by decide) (fun a hF => ?_)
    refine sq_val (v_move hF rfl) hF (by decide) (fun a hF => ?_)
    refine sq_val (v_len hF rfl pu56) hF (by decide) (fun a hF => ?_)
    refine sq_val (v_lss hF rfl rfl) hF (by decide) (fun a hF => ?_)
    refine sq_nil ?_
    refine then_n ?_
    refine wp_if hF rfl (fun he15 => ?_) (fun he15 => ?_)
    ·
     replace h := ifT he15 h
     refine wp_skip ?_
     refine then_n ?_
     refine wp_seq ?_
     obtain ⟨o19, h, hk20⟩ := bindS h
     refine wp_join (fun a W => ∃ (x16 : List Int) (A17 : Option Addr) (c18 : Nat), x16 = o19 ∧ FH 63 [(0, .slice A0_0 ((u0).length) c0_0), (3, .slice A17 ((x16).length) c18), (4, .int .i64 (x8))] a ∧ St M w0 [] [⟨(kInt .i64), 3, A17, c18, x16⟩] [fSl k_TChange A0_0 c0_0 u0] W) (fun a W hJ => ?_) ?_
     ·
      obtain ⟨x16, A17, c18, rfl, hF, hS⟩ := hJ
      have h := hk20
      refine then_n ?_
      refine wp_reg ?_
      refine sq_val (v_move hF rfl) hF (by decide) (fun a hF => ?_)
      refine sq_val (v_add hF rfl rfl) hF (by decide) (fun a hF => ?_)
      refine sq_val (v_assign hF rfl) hF (by decide) (fun a hF => ?_)
      refine sq_nil ?_
      exact then_j ⟨m14, Nat.lt_succ_self _, x16, (IntKind.i64.wrap (x8 + 1)), A17, c18, (hF.keep ⟨rfl, rfl, rfl, trivial⟩), hS, h⟩
     ·
      refine wp_block ?_
      refine wp_seq ?_
      refine wp_reg ?_
      refine sq_val (v_assign hF rfl) hF (by decide) (fun a hF => ?_)
      refine sq_nil ?_
      refine then_n ?_
      refine wp_seq ?_
      obtain ⟨o24, h, hk25⟩ := bindS h
      refine wp_join (fun a W => ∃ (x23 : Int), x23 = o24 ∧ FH 63 [(0, .slice A0_0 ((u0).length) c0_0), (3, .slice A6 ((x5).length) c7), (4, .int .i64 (x8)), (5, .int .i64 (x23))] a ∧ St M w0 [] [⟨(kInt .i64), 3, A6, c7, x5⟩] [fSl k_TChange A0_0 c0_0 u0] W) (fun a W hJ => ?_) ?_
      ·
       obtain ⟨x23, rfl, hF, hS⟩ := hJ
       have h := hk25
       refine then_n ?_
       refine wp_seq ?_
       refine wp_seq ?_
       refine wp_quiet rfl (by kernel_rfl) hS ?_
       refine qt_val (fun W hC => (v_move hF rfl)) hF (by decide) (fun a hF => ?_)
       refine qt_val (fun W hC => (v_move hF rfl)) hF (by decide) (fun a hF => ?_)
       refine qt_val (fun W hC => (v_len hF rfl pu76)) hF (by decide) (fun a hF => ?_)
       refine qt_val (fun W hC => (v_lss hF rfl rfl)) hF (by decide) (fun a hF => ?_)
       refine qt_val (fun W hC => (v_move hF rfl)) hF (by decide) (fun a hF => ?_)
       obtain ⟨x27, h, hk29⟩ := bindS h
       refine qt_cut 11 (fun a => FH 63 [(0, .slice A0_0 ((u0).length) c0_0), (3, .slice A6 ((x5).length) c7), (4, .int .i64 (x8)), (5, .int .i64 (x23)), (45, .bool x27)] a) (fun a hF => ?_) ?_
       ·
        have h := hk29
        refine qt_nil ?_
        intro W hC
        have hS := hC.2
        refine then_n ?_
        refine wp_if hF rfl (fun he47 => ?_) (fun he47 => ?_)
        ·
         replace h := ifT he47 h
         refine wp_exit ?_
         refine then_x ?_
         refine blk_hit ?_
         obtain rfl := Option.some.inj h
         exact then_j ⟨x5, A6, c7, rfl, (hF.keep ⟨rfl, rfl, rfl, trivial⟩), hS⟩
        ·
         replace h := ifF he47 h
         refine wp_skip ?_
         refine then_n ?_
         obtain ⟨o51, h, hk52⟩ := bindS h
         refine wp_join (fun a W => ∃ (x48 : List Int) (A49 : Option Addr) (c50 : Nat), x48 = o51 ∧ FH 63 [(0, .slice A0_0 ((u0).length) c0_0), (3, .slice A49 ((x48).length) c50), (4, .int .i64 (x8))] a ∧ St M w0 [] [⟨(kInt .i64), 3, A49, c50, x48⟩] [fSl k_TChange A0_0 c0_0 u0] W) (fun a W hJ => ?_) ?_
         ·
          obtain ⟨x48, A49, c50, rfl, hF, hS⟩ := hJ
          have h := hk52
          refine blk_n ?_
          obtain rfl := Option.some.inj h
          exact then_j ⟨x48, A49, c50, rfl, (hF.keep ⟨rfl, rfl, rfl, trivial⟩), hS⟩
         ·
          obtain ⟨x53, hx54, h⟩ := bindS h
          obtain ⟨p55, cs56, hA57, hat58⟩ := SlR.at (hS.fc (i := 0) rfl) hx54
          obtain ⟨A59, c60, rfl, hs61⟩ := hat58.2.2.2
          have hS := hS.addFact (f := fAt k_TChange (p55.add (x8.toNat * 32)) (TChange.enc x53 A59 c60) x53) hat58
          have hS := hS.addFact (f := fSl k_TAct A59 c60 x53.Mod.Acts) hs61
          refine wp_drawn (fun _ => St M w0 [] [] [fSl k_TAct A59 c60 x53.Mod.Acts, fAt k_TChange (p55.add (x8.toNat * 32)) (TChange.enc x53 A59 c60) x53, fSl k_TChange A0_0 c0_0 u0]) (fun _ => false) rfl hS (fun W hB0 hR0 => ?_)
          have hS := hR0
          have hQC : (fun _ => St M w0 [] [] [fSl k_TAct A59 c60 x53.Mod.Acts, fAt k_TChange (p55.add (x8.toNat * 32)) (TChange.enc x53 A59 c60) x53, fSl k_TChange A0_0 c0_0 u0]) W W := (hS.keep (List.Sublist.refl _) (List.nil_sublist _) ⟨⟨0, rfl⟩, ⟨1, rfl⟩, ⟨2, rfl⟩, trivial⟩)
          obtain ⟨hb62, h⟩ := ifS h
          obtain ⟨x63, hx64, h⟩ := bindS h
          obtain ⟨x65, hx66, h⟩ := bindS h
          obtain ⟨hb67, h⟩ := ifS h
          obtain ⟨x68, hx69, h⟩ := bindS h
          refine e_val (listed' := #[false, true, false, false, false, false, false, false, false, false, false, false, false, false, false, false, false]) 1 rfl (by kernel_rfl) (by kernel_rfl) (fun _ _ _ h => h) (fun W => (v_move hF rfl)) hF (by decide) (fun a hF => ?_)
          refine e_val (listed' := #[false, true, true, false, false, false, false, false, false, false, false, false, false, false, false, false, false]) 2 rfl (by kernel_rfl) (by kernel_rfl) (fun _ _ _ h => h) (fun W => (v_move hF rfl)) hF (by decide) (fun a hF => ?_)
          refine e_val (listed' := #[false, true, true, false, false, true, false, false, false, false, false, false, false, false, false, false, false]) 5 rfl (by kernel_rfl) (by kernel_rfl) (fun _ _ _ h => h) (fun W => (v_move hF rfl)) hF (by decide) (fun a hF => ?_)
          refine e_val (listed' := #[false, true, true, false, false, true, true, false, false, false, false, false, false, false, false, false, false]) 6 rfl (by kernel_rfl) (by kernel_rfl) (fun _ _ _ h => h) (fun W => (v_move hF rfl)) hF (by decide) (fun a hF => ?_)
          refine e_val (listed' := #[false, true, true, false, false, true, true, true, false, false, false, false, false, false, false, false, false]) 7 rfl (by kernel_rfl) (by kernel_rfl) (fun _ _ _ h => h) (fun W => (v_idx hF rfl hA57 rfl psl56 hx54)) hF (by decide) (fun a hF => ?_)
          refine e_val (listed' := #[false, true, true, false, false, true, true, true, true, false, false, false, false, false, false, false, false]) 8 rfl (by kernel_rfl) (by kernel_rfl) (fun _ _ _ h => h) (fun W => (v_fieldAddr hF rfl pf60_0)) hF (by decide) (fun a hF => ?_)
          refine e_valS (listed' := #[false, true, true, false, false, true, true, true, true, true, false, false, false, false, false, false, false]) 9 rfl (by kernel_rfl) (by kernel_rfl) (fun _ _ _ h => h) (fun W hC => (v_load1 hF rfl pa3 (cells_sub (vs := [.int .i64 (x53.Unit)]) (hC.pc (i := 1) rfl) rfl rfl))) hQC (by kernel_rfl) hF (by decide) (fun a hF => ?_)
          refine e_val (listed' := #[false, true, true, false, false, true, true, true, true, true, false, false, true, false, false, false, false]) 12 rfl (by kernel_rfl) (by kernel_rfl) (fun _ _ _ h => h) (fun W => (v_move hF rfl)) hF (by decide) (fun a hF => ?_)
          refine e_val (listed' := #[false, true, true, false, false, true, true, true, true, true, false, false, true, true, false, false, false]) 13 rfl (by kernel_rfl) (by kernel_rfl) (fun _ _ _ h => h) (fun W => (v_move hF rfl)) hF (by decide) (fun a hF => ?_)
          refine e_many [0, 3, 10, 14] (by kernel_rfl) (by decide) ⟨⟨_, rfl, ?_⟩, ⟨_, rfl, ?_⟩, ⟨_, rfl, ?_⟩, ⟨_, rfl, ?_⟩, trivial⟩
          ·
           refine sq_buildSlice (κ := (kInt .i64)) (xs := []) (ys := ([] : List Int)) hF hS rfl rfl rfl (Els.nil _ _ _) rfl psl76 pz3 rfl (by decide) (by decide) (by decide) (fun A70 c71 a W hF hS => ?_)
           refine sq_nil (then_j ⟨?_, ?_⟩)
           · exact fun _ _ => (hS.keep (List.Sublist.refl _) (List.nil_sublist _) ⟨⟨0, rfl⟩, ⟨1, rfl⟩, ⟨2, rfl⟩, trivial⟩)
           ·
            have hQC : (fun _ => St M w0 [] [] [fSl k_TAct A59 c60 x53.Mod.Acts, fAt k_TChange (p55.add (x8.toNat * 32)) (TChange.enc x53 A59 c60) x53, fSl k_TChange A0_0 c0_0 u0]) W W := (hS.keep (List.Sublist.refl _) (List.nil_sublist _) ⟨⟨0, rfl⟩, ⟨1, rfl⟩, ⟨2, rfl⟩, trivial⟩)
            refine e_listed (listed' := #[true, true, true, false, false, true, true, true, true, true, false, false, true, true, false, false, false]) (by kernel_rfl) ?_
            refine e_many [3, 10, 14] (by kernel_rfl) (by decide) ⟨⟨_, rfl, ?_⟩, ⟨_, rfl, ?_⟩, ⟨_, rfl, ?_⟩, trivial⟩
            ·
             have hS := hS.freeze (i := 1) rfl (posB rfl)
             refine sq_val (v_slice (κ := (kInt .i64)) (lo := 0) (hi := x23.toNat) hF rfl rfl rfl psl76 (.inl ⟨rfl, rfl⟩) (.inr ⟨_, _, rfl, by omega, rfl⟩) (by omega) (by omega) (hS.fc (i := 0) rfl).1) hF (by decide) (fun a hF => ?_)
             have hcut74 := SlR.cut (xs := x5) (hS.fc (i := 0) rfl) (lo := 0) (hi := x23.toNat) (by omega) (by omega)
             generalize (if c7 = 0 then A6 else Option.map (fun (q : Addr) => q.add (0 * ((kInt .i64)).sz)) A6) = A72 at hF hcut74
             generalize c7 - 0 = c73 at hF hcut74
             have hS := hS.addFact (f := fSl (kInt .i64) A72 c73 ((x5.take x23.toNat).drop 0)) hcut74
             refine sq_nil (then_j ⟨?_, ?_⟩)
             · exact fun _ _ => (hS.keep (List.Sublist.refl _) (List.nil_sublist _) ⟨⟨2, rfl⟩, ⟨3, rfl⟩, ⟨4, rfl⟩, trivial⟩)
             ·
              have hQC : (fun _ => St M w0 [] [] [fSl k_TAct A59 c60 x53.Mod.Acts, fAt k_TChange (p55.add (x8.toNat * 32)) (TChange.enc x53 A59 c60) x53, fSl k_TChange A0_0 c0_0 u0]) W W := (hS.keep (List.Sublist.refl _) (List.nil_sublist _) ⟨⟨2, rfl⟩, ⟨3, rfl⟩, ⟨4, rfl⟩, trivial⟩)
              refine e_listed (listed' := #[true, true, true, true, false, true, true, true, true, true, false, false, true, true, false, false, false]) (by kernel_rfl) ?_
              refine e_many [4, 10, 14] (by kernel_rfl) (by decide) ⟨⟨_, rfl, ?_⟩, ⟨_, rfl, ?_⟩, ⟨_, rfl, ?_⟩, trivial⟩
              ·
               refine sq_append (ys := ((x5.take x23.toNat).drop 0)) hF hS (i := 0) rfl rfl rfl (SlR.src (hS.fc (i := 0) rfl)) psl76 pb3 pz3 rfl (by decide) (by decide) hx64 (by decide) (fun A75 c76 a W hF hS => ?_)
               refine sq_nil (then_j ⟨?_, ?_⟩)
               · exact fun _ _ => (hS.keep (List.Sublist.refl _) (List.nil_sublist _) ⟨⟨2, rfl⟩, ⟨3, rfl⟩, ⟨4, rfl⟩, trivial⟩)
               ·
                have hQC : (fun _ => St M w0 [] [] [fSl k_TAct A59 c60 x53.Mod.Acts, fAt k_TChange (p55.add (x8.toNat * 32)) (TChange.enc x53 A59 c60) x53, fSl k_TChange A0_0 c0_0 u0]) W W := (hS.keep (List.Sublist.refl _) (List.nil_sublist _) ⟨⟨2, rfl⟩, ⟨3, rfl⟩, ⟨4, rfl⟩, trivial⟩)
                refine e_listed (listed' := #[true, true, true, true, true, true, true, true, true, true, false, false, true, true, false, false, false]) (by kernel_rfl) ?_
                refine e_many [10, 14] (by kernel_rfl) (by decide) ⟨⟨_, rfl, ?_⟩, ⟨_, rfl, ?_⟩, trivial⟩
                ·
                 refine sq_buildSlice (κ := (kInt .i64)) (xs := [.tmp 55]) (ys := [x53.Unit]) hF hS rfl rfl rfl (Els.cons rfl (Els.nil _ _ _)) rfl psl76 pz3 rfl (by decide) (by decide) (by decide) (fun A77 c78 a W hF hS => ?_)
                 refine sq_nil (then_j ⟨?_, ?_⟩)
                 · exact fun _ _ => (hS.keep (List.Sublist.refl _) (List.nil_sublist _) ⟨⟨2, rfl⟩, ⟨3, rfl⟩, ⟨4, rfl⟩, trivial⟩)
                 ·
                  have hQC : (fun _ => St M w0 [] [] [fSl k_TAct A59 c60 x53.Mod.Acts, fAt k_TChange (p55.add (x8.toNat * 32)) (TChange.enc x53 A59 c60) x53, fSl k_TChange A0_0 c0_0 u0]) W W := (hS.keep (List.Sublist.refl _) (List.nil_sublist _) ⟨⟨2, rfl⟩, ⟨3, rfl⟩, ⟨4, rfl⟩, trivial⟩)
                  refine e_listed (listed' := #[true, true, true, true, true, true, true, true, true, true, true, false, true, true, false, false, false]) (by kernel_rfl) ?_
                  refine e_many [11, 14] (by kernel_rfl) (by decide) ⟨⟨_, rfl, ?_⟩, ⟨_, rfl, ?_⟩, trivial⟩
                  ·
                   refine sq_append (ys := ([x53.Unit])) hF hS (i := 1) rfl rfl rfl (hS.rw_ (i := 0) rfl).src psl76 pb3 pz3 rfl (by decide) (by decide) hx66 (by decide) (fun A79 c80 a W hF hS => ?_)
                   refine sq_nil (then_j ⟨?_, ?_⟩)
                   · exact fun _ _ => (hS.keep (List.Sublist.refl _) (List.nil_sublist _) ⟨⟨2, rfl⟩, ⟨3, rfl⟩, ⟨4, rfl⟩, trivial⟩)
                   ·
                    have hQC : (fun _ => St M w0 [] [] [fSl k_TAct A59 c60 x53.Mod.Acts, fAt k_TChange (p55.add (x8.toNat * 32)) (TChange.enc x53 A59 c60) x53, fSl k_TChange A0_0 c0_0 u0]) W W := (hS.keep (List.Sublist.refl _) (List.nil_sublist _) ⟨⟨2, rfl⟩, ⟨3, rfl⟩, ⟨4, rfl⟩, trivial⟩)
                    refine e_listed (listed' := #[true, true, true, true, true, true, true, true, true, true, true, true, true, true, false, false, false]) (by kernel_rfl) ?_
                    refine e_one (listed' := #[true, true, true, true, true, true, true, true, true, true, true, true, true, true, true, false, false]) 14 rfl (by kernel_rfl) (by kernel_rfl) ?_
                    refine sq_val (v_slice (κ := (kInt .i64)) (lo := x23.toNat) (hi := x5.length) hF rfl rfl rfl psl76 (.inr ⟨_, _, rfl, by omega, rfl⟩) (.inl ⟨rfl, rfl⟩) (by omega) (by omega) (hS.fc (i := 1) rfl).1) hF (by decide) (fun a hF => ?_)
                    have hcut83 := SlR.cut (xs := x5) (hS.fc (i := 1) rfl) (lo := x23.toNat) (hi := x5.length) (by omega) (by omega)
                    generalize (if c7 = x23.toNat then A6 else Option.map (fun (q : Addr) => q.add (x23.toNat * ((kInt .i64)).sz)) A6) = A81 at hF hcut83
                    generalize c7 - x23.toNat = c82 at hF hcut83
                    have hS := hS.addFact (f := fSl (kInt .i64) A81 c82 ((x5.take x5.length).drop x23.toNat)) hcut83
                    refine sq_nil (then_j ⟨?_, ?_⟩)
                    · exact fun _ _ => (hS.keep (List.Sublist.refl _) (List.nil_sublist _) ⟨⟨3, rfl⟩, ⟨4, rfl⟩, ⟨5, rfl⟩, trivial⟩)
                    ·
                     have hQC : (fun _ => St M w0 [] [] [fSl k_TAct A59 c60 x53.Mod.Acts, fAt k_TChange (p55.add (x8.toNat * 32)) (TChange.enc x53 A59 c60) x53, fSl k_TChange A0_0 c0_0 u0]) W W := (hS.keep (List.Sublist.refl _) (List.nil_sublist _) ⟨⟨3, rfl⟩, ⟨4, rfl⟩, ⟨5, rfl⟩, trivial⟩)
                     refine e_one (listed' := #[true, true, true, true, true, true, true, true, true, true, true, true, true, true, true, true, false]) 15 rfl (by kernel_rfl) (by kernel_rfl) ?_
                     refine sq_append (ys := ((x5.take x5.length).drop x23.toNat)) hF hS (i := 1) rfl rfl rfl (SlR.src (hS.fc (i := 0) rfl)) psl76 pb3 pz3 rfl (by decide) (by decide) hx69 (by decide) (fun A84 c85 a W hF hS => ?_)
                     refine sq_nil (then_j ⟨?_, ?_⟩)
                     · exact fun _ _ => (hS.keep (List.Sublist.refl _) (List.nil_sublist _) ⟨⟨3, rfl⟩, ⟨4, rfl⟩, ⟨5, rfl⟩, trivial⟩)
                     ·
                      have hQC : (fun _ => St M w0 [] [] [fSl k_TAct A59 c60 x53.Mod.Acts, fAt k_TChange (p55.add (x8.toNat * 32)) (TChange.enc x53 A59 c60) x53, fSl k_TChange A0_0 c0_0 u0]) W W := (hS.keep (List.Sublist.refl _) (List.nil_sublist _) ⟨⟨3, rfl⟩, ⟨4, rfl⟩, ⟨5, rfl⟩, trivial⟩)
                      refine e_val (listed' := #[true, true, true, true, true, true, true, true, true, true, true, true, true, true, true, true, true]) 16 rfl (by kernel_rfl) (by kernel_rfl) (fun _ _ _ h => h) (fun W => (v_assign hF rfl)) hF (by decide) (fun a hF => ?_)
                      refine e_done (by kernel_rfl) ?_ _
                      obtain rfl := Option.some.inj h
                      exact then_j ⟨x68, A84, c85, rfl, (hF.keep ⟨rfl, rfl, rfl, trivial⟩), (hS.keep (List.Sublist.refl _) (.cons _ (List.Sublist.refl _)) ⟨⟨5, rfl⟩, trivial⟩)⟩
                  ·
                   refine sq_val (v_slice (κ := (kInt .i64)) (lo := x23.toNat) (hi := x5.length) hF rfl rfl rfl psl76 (.inr ⟨_, _, rfl, by omega, rfl⟩) (.inl ⟨rfl, rfl⟩) (by omega) (by omega) (hS.fc (i := 1) rfl).1) hF (by decide) (fun a hF => ?_)
                   have hcut88 := SlR.cut (xs := x5) (hS.fc (i := 1) rfl) (lo := x23.toNat) (hi := x5.length) (by omega) (by omega)
                   generalize (if c7 = x23.toNat then A6 else Option.map (fun (q : Addr) => q.add (x23.toNat * ((kInt .i64)).sz)) A6) = A86 at hF hcut88
                   generalize c7 - x23.toNat = c87 at hF hcut88
                   have hS := hS.addFact (f := fSl (kInt .i64) A86 c87 ((x5.take x5.length).drop x23.toNat)) hcut88
                   refine sq_nil (then_j ⟨?_, ?_⟩)
                   · exact fun _ _ => (hS.keep (List.Sublist.refl _) (List.nil_sublist _) ⟨⟨3, rfl⟩, ⟨4, rfl⟩, ⟨5, rfl⟩, trivial⟩)
                   ·
                    have hQC : (fun _ => St M w0 [] [] [fSl k_TAct A59 c60 x53.Mod.Acts, fAt k_TChange (p55.add (x8.toNat * 32)) (TChange.enc x53 A59 c60) x53, fSl k_TChange A0_0 c0_0 u0]) W W := (hS.keep (List.Sublist.refl _) (List.nil_sublist _) ⟨⟨3, rfl⟩, ⟨4, rfl⟩, ⟨5, rfl⟩, trivial⟩)
                    refine e_listed (listed' := #[true, true, true, true, true, true, true, true, true, true, true, false, true, true, true, false, false]) (by kernel_rfl) ?_
                    refine e_one (listed' := #[true, true, true, true, true, true, true, true, true, true, true, true, true, true, true, false, false]) 11 rfl (by kernel_rfl) (by kernel_rfl) ?_
                    refine sq_append (ys := ([x53.Unit])) hF hS (i := 1) rfl rfl rfl (hS.rw_ (i := 0) rfl).src psl76 pb3 pz3 rfl (by decide) (by decide) hx66 (by decide) (fun A89 c90 a W hF hS => ?_)
                    refine sq_nil (then_j ⟨?_, ?_⟩)
                    · exact fun _ _ => (hS.keep (List.Sublist.refl _) (List.nil_sublist _) ⟨⟨3, rfl⟩, ⟨4, rfl⟩, ⟨5, rfl⟩, trivial⟩)
                    ·
                     have hQC : (fun _ => St M w0 [] [] [fSl k_TAct A59 c60 x53.Mod.Acts, fAt k_TChange (p55.add (x8.toNat * 32)) (TChange.enc x53 A59 c60) x53, fSl k_TChange A0_0 c0_0 u0]) W W := (hS.keep (List.Sublist.refl _) (List.nil_sublist _) ⟨⟨3, rfl⟩, ⟨4, rfl⟩, ⟨5, rfl⟩, trivial⟩)
                     refine e_one (listed' := #[true, true, true, true, true, true, true, true, true, true, true, true, true, true, true, true, false]) 15 rfl (by kernel_rfl) (by kernel_rfl) ?_
                     refine sq_append (ys := ((x5.take x5.length).drop x23.toNat)) hF hS (i := 1) rfl rfl rfl (SlR.src (hS.fc (i := 0) rfl)) psl76 pb3 pz3 rfl (by decide) (by decide) hx69 (by decide) (fun A91 c92 a W hF hS => ?_)
                     refine sq_nil (then_j ⟨?_, ?_⟩)
                     · exact fun _ _ => (hS.keep (List.Sublist.refl _) (List.nil_sublist _) ⟨⟨3, rfl⟩, ⟨4, rfl⟩, ⟨5, rfl⟩, trivial⟩)
                     ·
                      have hQC : (fun _ => St M w0 [] [] [fSl k_TAct A59 c60 x53.Mod.Acts, fAt k_TChange (p55.add (x8.toNat * 32)) (TChange.enc x53 A59 c60) x53, fSl k_TChange A0_0 c0_0 u0]) W W := (hS.keep (List.Sublist.refl _) (List.nil_sublist _) ⟨⟨3, rfl⟩, ⟨4, rfl⟩, ⟨5, rfl⟩, trivial⟩)
                      refine e_val (listed' := #[true, true, true, true, true, true, true, true, true, true, true, true, true, true, true, true, true]) 16 rfl (by kernel_rfl) (by kernel_rfl) (fun _ _ _ h => h) (fun W => (v_assign hF rfl)) hF (by decide) (fun a hF => ?_)
                      refine e_done (by kernel_rfl) ?_ _
                      obtain rfl := Option.some.inj h
                      exact then_j ⟨x68, A91, c92, rfl, (hF.keep ⟨rfl, rfl, rfl, trivial⟩), (hS.keep (List.Sublist.refl _) (.cons _ (List.Sublist.refl _)) ⟨⟨5, rfl⟩, trivial⟩)⟩
                ·
                 refine sq_val (v_slice (κ := (kInt .i64)) (lo := x23.toNat) (hi := x5.length) hF rfl rfl rfl psl76 (.inr ⟨_, _, rfl, by omega, rfl⟩) (.inl ⟨rfl, rfl⟩) (by omega) (by omega) (hS.fc (i := 1) rfl).1) hF (by decide) (fun a hF => ?_)
                 have hcut95 := SlR.cut (xs := x5) (hS.fc (i := 1) rfl) (lo := x23.toNat) (hi := x5.length) (by omega) (by omega)
                 generalize (if c7 = x23.toNat then A6 else Option.map (fun (q : Addr) => q.add (x23.toNat * ((kInt .i64)).sz)) A6) = A93 at hF hcut95
                 generalize c7 - x23.toNat = c94 at hF hcut95
                 have hS := hS.addFact (f := fSl (kInt .i64) A93 c94 ((x5.take x5.length).drop x23.toNat)) hcut95
                 refine sq_nil (then_j ⟨?_, ?_⟩)
                 · exact fun _ _ => (hS.keep (List.Sublist.refl _) (List.nil_sublist _) ⟨⟨3, rfl⟩, ⟨4, rfl⟩, ⟨5, rfl⟩, trivial⟩)
                 ·
                  have hQC : (fun _ => St M w0 [] [] [fSl k_TAct A59 c60 x53.Mod.Acts, fAt k_TChange (p55.add (x8.toNat * 32)) (TChange.enc x53 A59 c60) x53, fSl k_TChange A0_0 c0_0 u0]) W W := (hS.keep (List.Sublist.refl _) (List.nil_sublist _) ⟨⟨3, rfl⟩, ⟨4, rfl⟩, ⟨5, rfl⟩, trivial⟩)
                  refine e_listed (listed' := #[true, true, true, true, true, true, true, true, true, true, false, false, true, true, true, false, false]) (by kernel_rfl) ?_
                  refine e_one (listed' := #[true, true, true, true, true, true, true, true, true, true, true, false, true, true, true, false, false]) 10 rfl (by kernel_rfl) (by kernel_rfl) ?_
                  refine sq_buildSlice (κ := (kInt .i64)) (xs := [.tmp 55]) (ys := [x53.Unit]) hF hS rfl rfl rfl (Els.cons rfl (Els.nil _ _ _)) rfl psl76 pz3 rfl (by decide) (by decide) (by decide) (fun A96 c97 a W hF hS => ?_)
                  refine sq_nil (then_j ⟨?_, ?_⟩)
                  · exact fun _ _ => (hS.keep (List.Sublist.refl _) (List.nil_sublist _) ⟨⟨3, rfl⟩, ⟨4, rfl⟩, ⟨5, rfl⟩, trivial⟩)
                  ·
                   have hQC : (fun _ => St M w0 [] [] [fSl k_TAct A59 c60 x53.Mod.Acts, fAt k_TChange (p55.add (x8.toNat * 32)) (TChange.enc x53 A59 c60) x53, fSl k_TChange A0_0 c0_0 u0]) W W := (hS.keep (List.Sublist.refl _) (List.nil_sublist _) ⟨⟨3, rfl⟩, ⟨4, rfl⟩, ⟨5, rfl⟩, trivial⟩)
                   refine e_one (listed' := #[true, true, true, true, true, true, true, true, true, true, true, true, true, true, true, false, false]) 11 rfl (by kernel_rfl) (by kernel_rfl) ?_
                   refine sq_append (ys := ([x53.Unit])) hF hS (i := 1) rfl rfl rfl (hS.rw_ (i := 0) rfl).src psl76 pb3 pz3 rfl (by decide) (by decide) hx66 (by decide) (fun A98 c99 a W hF hS => ?_)
                   refine sq_nil (then_j ⟨?_, ?_⟩)
                   · exact fun _ _ => (hS.keep (List.Sublist.refl _) (List.nil_sublist _) ⟨⟨3, rfl⟩, ⟨4, rfl⟩, ⟨5, rfl⟩, trivial⟩)
                   ·
                    have hQC : (fun _ => St M w0 [] [] [fSl k_TAct A59 c60 x53.Mod.Acts, fAt k_TChange (p55.add (x8.toNat * 32)) (TChange.enc x53 A59 c60) x53, fSl k_TChange A0_0 c0_0 u0]) W W := (hS.keep (List.Sublist.refl _) (List.nil_sublist _) ⟨⟨3, rfl⟩, ⟨4, rfl⟩, ⟨5, rfl⟩, trivial⟩)
                    refine e_one (listed' := #[true, true, true, true, true, true, true, true, true, true, true, true, true, true, true, true, false]) 15 rfl (by kernel_rfl) (by kernel_rfl) ?_
                    refine sq_append (ys := ((x5.take x5.length).drop x23.toNat)) hF hS (i := 1) rfl rfl rfl (SlR.src (hS.fc (i := 0) rfl)) psl76 pb3 pz3 rfl (by decide) (by decide) hx69 (by decide) (fun A100 c101 a W hF hS => ?_)
                    refine sq_nil (then_j ⟨?_, ?_⟩)
                    · exact fun _ _ => (hS.keep (List.Sublist.refl _) (List.nil_sublist _) ⟨⟨3, rfl⟩, ⟨4, rfl⟩, ⟨5, rfl⟩, trivial⟩)
                    ·
                     have hQC : (fun _ => St M w0 [] [] [fSl k_TAct A59 c60 x53.Mod.Acts, fAt k_TChange (p55.add (x8.toNat * 32)) (TChange.enc x53 A59 c60) x53, fSl k_TChange A0_0 c0_0 u0]) W W := (hS.keep (List.Sublist.refl _) (List.nil_sublist _) ⟨⟨3, rfl⟩, ⟨4, rfl⟩, ⟨5, rfl⟩, trivial⟩)
                     refine e_val (listed' := #[true, true, true, true, true, true, true, true, true, true, true, true, true, true, true, true, true]) 16 rfl (by kernel_rfl) (by kernel_rfl) (fun _ _ _ h => h) (fun W => (v_assign hF rfl)) hF (by decide) (fun a hF => ?_)
                     refine e_done (by kernel_rfl) ?_ _
                     obtain rfl := Option.some.inj h
                     exact then_j ⟨x68, A100, c101, rfl, (hF.keep ⟨rfl, rfl, rfl, trivial⟩), (hS.keep (List.Sublist.refl _) (.cons _ (List.Sublist.refl _)) ⟨⟨5, rfl⟩, trivial⟩)⟩
              ·
               refine sq_buildSlice (κ := (kInt .i64)) (xs := [.tmp 55]) (ys := [x53.Unit]) hF hS rfl rfl rfl (Els.cons rfl (Els.nil _ _ _)) rfl psl76 pz3 rfl (by decide) (by decide) (by decide) (fun A102 c103 a W hF hS => ?_)
               refine sq_nil (then_j ⟨?_, ?_⟩)
               · exact fun _ _ => (hS.keep (List.Sublist.refl _) (List.nil_sublist _) ⟨⟨2, rfl⟩, ⟨3, rfl⟩, ⟨4, rfl⟩, trivial⟩)
               ·
                have hQC : (fun _ => St M w0 [] [] [fSl k_TAct A59 c60 x53.Mod.Acts, fAt k_TChange (p55.add (x8.toNat * 32)) (TChange.enc x53 A59 c60) x53, fSl k_TChange A0_0 c0_0 u0]) W W := (hS.keep (List.Sublist.refl _) (List.nil_sublist _) ⟨⟨2, rfl⟩, ⟨3, rfl⟩, ⟨4, rfl⟩, trivial⟩)
                refine e_listed (listed' := #[true, true, true, true, false, true, true, true, true, true, true, false, true, true, false, false, false]) (by kernel_rfl) ?_
                refine e_many [4, 14] (by kernel_rfl) (by decide) ⟨⟨_, rfl, ?_⟩, ⟨_, rfl, ?_⟩, trivial⟩
                ·
                 refine sq_append (ys := ((x5.take x23.toNat).drop 0)) hF hS (i := 1) rfl rfl rfl (SlR.src (hS.fc (i := 0) rfl)) psl76 pb3 pz3 rfl (by decide) (by decide) hx64 (by decide) (fun A104 c105 a W hF hS => ?_)
                 refine sq_nil (then_j ⟨?_, ?_⟩)
                 · exact fun _ _ => (hS.keep (List.Sublist.refl _) (List.nil_sublist _) ⟨⟨2, rfl⟩, ⟨3, rfl⟩, ⟨4, rfl⟩, trivial⟩)
                 ·
                  have hQC : (fun _ => St M w0 [] [] [fSl k_TAct A59 c60 x53.Mod.Acts, fAt k_TChange (p55.add (x8.toNat * 32)) (TChange.enc x53 A59 c60) x53, fSl k_TChange A0_0 c0_0 u0]) W W := (hS.keep (List.Sublist.refl _) (List.nil_sublist _) ⟨⟨2, rfl⟩, ⟨3, rfl⟩, ⟨4, rfl⟩, trivial⟩)
                  refine e_listed (listed' := #[true, true, true, true, true, true, true, true, true, true, true, false, true, true, false, false, false]) (by kernel_rfl) ?_
                  refine e_many [11, 14] (by kernel_rfl) (by decide) ⟨⟨_, rfl, ?_⟩, ⟨_, rfl, ?_⟩, trivial⟩
                  ·
                   refine sq_append (ys := ([x53.Unit])) hF hS (i := 1) rfl rfl rfl (hS.rw_ (i := 0) rfl).src psl76 pb3 pz3 rfl (by decide) (by decide) hx66 (by decide) (fun A106 c107 a W hF hS => ?_)
                   refine sq_nil (then_j ⟨?_, ?_⟩)
                   · exact fun _ _ => (hS.keep (List.Sublist.refl _) (List.nil_sublist _) ⟨⟨2, rfl⟩, ⟨3, rfl⟩, ⟨4, rfl⟩, trivial⟩)
                   ·
                    have hQC : (fun _ => St M w0 [] [] [fSl k_TAct A59 c60 x53.Mod.Acts, fAt k_TChange (p55.add (x8.toNat * 32)) (TChange.enc x53 A59 c60) x53, fSl k_TChange A0_0 c0_0 u0]) W W := (hS.keep (List.Sublist.refl _) (List.nil_sublist _) ⟨⟨2, rfl⟩, ⟨3, rfl⟩, ⟨4, rfl⟩, trivial⟩)
                    refine e_listed (listed' := #[true, true, true, true, true, true, true, true, true, true, true, true, true, true, false, false, false]) (by kernel_rfl) ?_
                    refine e_one (listed' := #[true, true, true, true, true, true, true, true, true, true, true, true, true, true, true, false, false]) 14 rfl (by kernel_rfl) (by kernel_rfl) ?_
                    refine sq_val (v_slice (κ := (kInt .i64)) (lo := x23.toNat) (hi := x5.length) hF rfl rfl rfl psl76 (.inr ⟨_, _, rfl, by omega, rfl⟩) (.inl ⟨rfl, rfl⟩) (by omega) (by omega) (hS.fc (i := 1) rfl).1) hF (by decide) (fun a hF => ?_)
                    have hcut110 := SlR.cut (xs := x5) (hS.fc (i := 1) rfl) (lo := x23.toNat) (hi := x5.length) (by omega) (by omega)
                    generalize (if c7 = x23.toNat then A6 else Option.map (fun (q : Addr) => q.add (x23.toNat * ((kInt .i64)).sz)) A6) = A108 at hF hcut110
                    generalize c7 - x23.toNat = c109 at hF hcut110
                    have hS := hS.addFact (f := fSl (kInt .i64) A108 c109 ((x5.take x5.length).drop x23.toNat)) hcut110
                    refine sq_nil (then_j ⟨?_, ?_⟩)
                    · exact fun _ _ => (hS.keep (List.Sublist.refl _) (List.nil_sublist _) ⟨⟨3, rfl⟩, ⟨4, rfl⟩, ⟨5, rfl⟩, trivial⟩)
                    ·
                     have hQC : (fun _ => St M w0 [] [] [fSl k_TAct A59 c60 x53.Mod.Acts, fAt k_TChange (p55.add (x8.toNat * 32)) (TChange.enc x53 A59 c60) x53, fSl k_TChange A0_0 c0_0 u0]) W W := (hS.keep (List.Sublist.refl _) (List.nil_sublist _) ⟨⟨3, rfl⟩, ⟨4, rfl⟩, ⟨5, rfl⟩, trivial⟩)
                     refine e_one (listed' := #[true, true, true, true, true, true, true, true, true, true, true, true, true, true, true, true, false]) 15 rfl (by kernel_rfl) (by kernel_rfl) ?_
                     refine sq_append (ys := ((x5.take x5.length).drop x23.toNat)) hF hS (i := 1) rfl rfl rfl (SlR.src (hS.fc (i := 0) rfl)) psl76 pb3 pz3 rfl (by decide) (by decide) hx69 (by decide) (fun A111 c112 a W hF hS => ?_)
                     refine sq_nil (then_j ⟨?_, ?_⟩)
                     · exact fun _ _ => (hS.keep (List.Sublist.refl _) (List.nil_sublist _) ⟨⟨3, rfl⟩, ⟨4, rfl⟩, ⟨5, rfl⟩, trivial⟩)
                     ·
                      have hQC : (fun _ => St M w0 [] [] [fSl k_TAct A59 c60 x53.Mod.Acts, fAt k_TChange (p55.add (x8.toNat * 32)) (TChange.enc x53 A59 c60) x53, fSl k_TChange A0_0 c0_0 u0]) W W := (hS.keep (List.Sublist.refl _) (List.nil_sublist _) ⟨⟨3, rfl⟩, ⟨4, rfl⟩, ⟨5, rfl⟩, trivial⟩)
                      refine e_val (listed' := #[true, true, true, true, true, true, true, true, true, true, true, true, true, true, true, true, true]) 16 rfl (by kernel_rfl) (by kernel_rfl) (fun _ _ _ h => h) (fun W => (v_assign hF rfl)) hF (by decide) (fun a hF => ?_)
                      refine e_done (by kernel_rfl) ?_ _
                      obtain rfl := Option.some.inj h
                      exact then_j ⟨x68, A111, c112, rfl, (hF.keep ⟨rfl, rfl, rfl, trivial⟩), (hS.keep (List.Sublist.refl _) (.cons _ (List.Sublist.refl _)) ⟨⟨5, rfl⟩, trivial⟩)⟩
                  ·
                   refine sq_val (v_slice (κ := (kInt .i64)) (lo := x23.toNat) (hi := x5.length) hF rfl rfl rfl psl76 (.inr ⟨_, _, rfl, by omega, rfl⟩) (.inl ⟨rfl, rfl⟩) (by omega) (by omega) (hS.fc (i := 1) rfl).1) hF (by decide) (fun a hF => ?_)
                   have hcut115 := SlR.cut (xs := x5) (hS.fc (i := 1) rfl) (lo := x23.toNat) (hi := x5.length) (by omega) (by omega)
                   generalize (if c7 = x23.toNat then A6 else Option.map (fun (q : Addr) => q.add (x23.toNat * ((kInt .i64)).sz)) A6) = A113 at hF hcut115
                   generalize c7 - x23.toNat = c114 at hF hcut115
                   have hS := hS.addFact (f := fSl (kInt .i64) A113 c114 ((x5.take x5.length).drop x23.toNat)) hcut115
                   refine sq_nil (then_j ⟨?_, ?_⟩)
                   · exact fun _ _ => (hS.keep (List.Sublist.refl _) (List.nil_sublist _) ⟨⟨3, rfl⟩, ⟨4, rfl⟩, ⟨5, rfl⟩, trivial⟩)
                   ·
                    have hQC : (fun _ => St M w0 [] [] [fSl k_TAct A59 c60 x53.Mod.Acts, fAt k_TChange (p55.add (x8.toNat * 32)) (TChange.enc x53 A59 c60) x53, fSl k_TChange A0_0 c0_0 u0]) W W := (hS.keep (List.Sublist.refl _) (List.nil_sublist _) ⟨⟨3, rfl⟩, ⟨4, rfl⟩, ⟨5, rfl⟩, trivial⟩)
                    refine e_listed (listed' := #[true, true, true, true, true, true, true, true, true, true, true, false, true, true, true, false, false]) (by kernel_rfl) ?_
                    refine e_one (listed' := #[true, true, true, true, true, true, true, true, true, true, true, true, true, true, true, false, false]) 11 rfl (by kernel_rfl) (by kernel_rfl) ?_
                    refine sq_append (ys := ([x53.Unit])) hF hS (i := 1) rfl rfl rfl (hS.rw_ (i := 0) rfl).src psl76 pb3 pz3 rfl (by decide) (by decide) hx66 (by decide) (fun A116 c117 a W hF hS => ?_)
                    refine sq_nil (then_j ⟨?_, ?_⟩)
                    · exact fun _ _ => (hS.keep (List.Sublist.refl _) (List.nil_sublist _) ⟨⟨3, rfl⟩, ⟨4, rfl⟩, ⟨5, rfl⟩, trivial⟩)
                    ·
                     have hQC : (fun _ => St M w0 [] [] [fSl k_TAct A59 c60 x53.Mod.Acts, fAt k_TChange (p55.add (x8.toNat * 32)) (TChange.enc x53 A59 c60) x53, fSl k_TChange A0_0 c0_0 u0]) W W := (hS.keep (List.Sublist.refl _) (List.nil_sublist _) ⟨⟨3, rfl⟩, ⟨4, rfl⟩, ⟨5, rfl⟩, trivial⟩)
                     refine e_one (listed' := #[true, true, true, true, true, true, true, true, true, true, true, true, true, true, true, true, false]) 15 rfl (by kernel_rfl) (by kernel_rfl) ?_
                     refine sq_append (ys := ((x5.take x5.length).drop x23.toNat)) hF hS (i := 1) rfl rfl rfl (SlR.src (hS.fc (i := 0) rfl)) psl76 pb3 pz3 rfl (by decide) (by decide) hx69 (by decide) (fun A118 c119 a W hF hS => ?_)
                     refine sq_nil (then_j ⟨?_, ?_⟩)
                     · exact fun _ _ => (hS.keep (List.Sublist.refl _) (List.nil_sublist _) ⟨⟨3, rfl⟩, ⟨4, rfl⟩, ⟨5, rfl⟩, trivial⟩)
                     ·
                      have hQC : (fun _ => St M w0 [] [] [fSl k_TAct A59 c60 x53.Mod.Acts, fAt k_TChange (p55.add (x8.toNat * 32)) (TChange.enc x53 A59 c60) x53, fSl k_TChange A0_0 c0_0 u0]) W W := (hS.keep (List.Sublist.refl _) (List.nil_sublist _) ⟨⟨3, rfl⟩, ⟨4, rfl⟩, ⟨5, rfl⟩, trivial⟩)
                      refine e_val (listed' := #[true, true, true, true, true, true, true, true, true, true, true, true, true, true, true, true, true]) 16 rfl (by kernel_rfl) (by kernel_rfl) (fun _ _ _ h => h) (fun W => (v_assign hF rfl)) hF (by decide) (fun a hF => ?_)
                      refine e_done (by kernel_rfl) ?_ _
                      obtain rfl := Option.some.inj h
                      exact then_j ⟨x68, A118, c119, rfl, (hF.keep ⟨rfl, rfl, rfl, trivial⟩), (hS.keep (List.Sublist.refl _) (.cons _ (List.Sublist.refl _)) ⟨⟨5, rfl⟩, trivial⟩)⟩
                ·
                 refine sq_val (v_slice (κ := (kInt .i64)) (lo := x23.toNat) (hi := x5.length) hF rfl rfl rfl psl76 (.inr ⟨_, _, rfl, by omega, rfl⟩) (.inl ⟨rfl, rfl⟩) (by omega) (by omega) (hS.fc (i := 1) rfl).1) hF (by decide) (fun a hF => ?_)
                 have hcut122 := SlR.cut (xs := x5) (hS.fc (i := 1) rfl) (lo := x23.toNat) (hi := x5.length) (by omega) (by omega)
                 generalize (if c7 = x23.toNat then A6 else Option.map (fun (q : Addr) => q.add (x23.toNat * ((kInt .i64)).sz)) A6) = A120 at hF hcut122
                 generalize c7 - x23.toNat = c121 at hF hcut122
                 have hS := hS.addFact (f := fSl (kInt .i64) A120 c121 ((x5.take x5.length).drop x23.toNat)) hcut122
                 refine sq_nil (then_j ⟨?_, ?_⟩)
                 · exact fun _ _ => (hS.keep (List.Sublist.refl _) (List.nil_sublist _) ⟨⟨3, rfl⟩, ⟨4, rfl⟩, ⟨5, rfl⟩, trivial⟩)
                 ·
                  have hQC : (fun _ => St M w0 [] [] [fSl k_TAct A59 c60 x53.Mod.Acts, fAt k_TChange (p55.add (x8.toNat * 32)) (TChange.enc x53 A59 c60) x53, fSl k_TChange A0_0 c0_0 u0]) W W := (hS.keep (List.Sublist.refl _) (List.nil_sublist _) ⟨⟨3, rfl⟩, ⟨4, rfl⟩, ⟨5, rfl⟩, trivial⟩)
                  refine e_listed (listed' := #[true, true, true, true, false, true, true, true, true, true, true, false, true, true, true, false, false]) (by kernel_rfl) ?_
                  refine e_one (listed' := #[true, true, true, true, true, true, true, true, true, true, true, false, true, true, true, false, false]) 4 rfl (by kernel_rfl) (by kernel_rfl) ?_
                  refine sq_append (ys := ((x5.take x23.toNat).drop 0)) hF hS (i := 1) rfl rfl rfl (SlR.src (hS.fc (i := 1) rfl)) psl76 pb3 pz3 rfl (by decide) (by decide) hx64 (by decide) (fun A123 c124 a W hF hS => ?_)
                  refine sq_nil (then_j ⟨?_, ?_⟩)
                  · exact fun _ _ => (hS.keep (List.Sublist.refl _) (List.nil_sublist _) ⟨⟨3, rfl⟩, ⟨4, rfl⟩, ⟨5, rfl⟩, trivial⟩)
                  ·
                   have hQC : (fun _ => St M w0 [] [] [fSl k_TAct A59 c60 x53.Mod.Acts, fAt k_TChange (p55.add (x8.toNat * 32)) (TChange.enc x53 A59 c60) x53, fSl k_TChange A0_0 c0_0 u0]) W W := (hS.keep (List.Sublist.refl _) (List.nil_sublist _) ⟨⟨3, rfl⟩, ⟨4, rfl⟩, ⟨5, rfl⟩, trivial⟩)
                   refine e_one (listed' := #[true, true, true, true, true, true, true, true, true, true, true, true, true, true, true, false, false]) 11 rfl (by kernel_rfl) (by kernel_rfl) ?_
                   refine sq_append (ys := ([x53.Unit])) hF hS (i := 1) rfl rfl rfl (hS.rw_ (i := 0) rfl).src psl76 pb3 pz3 rfl (by decide) (by decide) hx66 (by decide) (fun A125 c126 a W hF hS => ?_)
                   refine sq_nil (then_j ⟨?_, ?_⟩)
                   · exact fun _ _ => (hS.keep (List.Sublist.refl _) (List.nil_sublist _) ⟨⟨3, rfl⟩, ⟨4, rfl⟩, ⟨5, rfl⟩, trivial⟩)
                   ·
                    have hQC : (fun _ => St M w0 [] [] [fSl k_TAct A59 c60 x53.Mod.Acts, fAt k_TChange (p55.add (x8.toNat * 32)) (TChange.enc x53 A59 c60) x53, fSl k_TChange A0_0 c0_0 u0]) W W := (hS.keep (List.Sublist.refl _) (List.nil_sublist _) ⟨⟨3, rfl⟩, ⟨4, rfl⟩, ⟨5, rfl⟩, trivial⟩)
                    refine e_one (listed' := #[true, true, true, true, true, true, true, true, true, true, true, true, true, true, true, true, false]) 15 rfl (by kernel_rfl) (by kernel_rfl) ?_
                    refine sq_append (ys := ((x5.take x5.length).drop x23.toNat)) hF hS (i := 1) rfl rfl rfl (SlR.src (hS.fc (i := 0) rfl)) psl76 pb3 pz3 rfl (by decide) (by decide) hx69 (by decide) (fun A127 c128 a W hF hS => ?_)
                    refine sq_nil (then_j ⟨?_, ?_⟩)
                    · exact fun _ _ => (hS.keep (List.Sublist.refl _) (List.nil_sublist _) ⟨⟨3, rfl⟩, ⟨4, rfl⟩, ⟨5, rfl⟩, trivial⟩)
                    ·
                     have hQC : (fun _ => St M w0 [] [] [fSl k_TAct A59 c60 x53.Mod.Acts, fAt k_TChange (p55.add (x8.toNat * 32)) (TChange.enc x53 A59 c60) x53, fSl k_TChange A0_0 c0_0 u0]) W W := (hS.keep (List.Sublist.refl _) (List.nil_sublist _) ⟨⟨3, rfl⟩, ⟨4, rfl⟩, ⟨5, rfl⟩, trivial⟩)
                     refine e_val (listed' := #[true, true, true, true, true, true, true, true, true, true, true, true, true, true, true, true, true]) 16 rfl (by kernel_rfl) (by kernel_rfl) (fun _ _ _ h => h) (fun W => (v_assign hF rfl)) hF (by decide) (fun a hF => ?_)
                     refine e_done (by kernel_rfl) ?_ _
                     obtain rfl := Option.some.inj h
                     exact then_j ⟨x68, A127, c128, rfl, (hF.keep ⟨rfl, rfl, rfl, trivial⟩), (hS.keep (List.Sublist.refl _) (.cons _ (List.Sublist.refl _)) ⟨⟨5, rfl⟩, trivial⟩)⟩
              ·
               refine sq_val (v_slice (κ := (kInt .i64)) (lo := x23.toNat) (hi := x5.length) hF rfl rfl rfl psl76 (.inr ⟨_, _, rfl, by omega, rfl⟩) (.inl ⟨rfl, rfl⟩) (by omega) (by omega) (hS.fc (i := 1) rfl).1) hF (by decide) (fun a hF => ?_)
               have hcut131 := SlR.cut (xs := x5) (hS.fc (i := 1) rfl) (lo := x23.toNat) (hi := x5.length) (by omega) (by omega)
               generalize (if c7 = x23.toNat then A6 else Option.map (fun (q : Addr) => q.add (x23.toNat * ((kInt .i64)).sz)) A6) = A129 at hF hcut131
               generalize c7 - x23.toNat = c130 at hF hcut131
               have hS := hS.addFact (f := fSl (kInt .i64) A129 c130 ((x5.take x5.length).drop x23.toNat)) hcut131
               refine sq_nil (then_j ⟨?_, ?_⟩)
               · exact fun _ _ => (hS.keep (List.Sublist.refl _) (List.nil_sublist _) ⟨⟨3, rfl⟩, ⟨4, rfl⟩, ⟨5, rfl⟩, trivial⟩)
               ·
                have hQC : (fun _ => St M w0 [] [] [fSl k_TAct A59 c60 x53.Mod.Acts, fAt k_TChange (p55.add (x8.toNat * 32)) (TChange.enc x53 A59 c60) x53, fSl k_TChange A0_0 c0_0 u0]) W W := (hS.keep (List.Sublist.refl _) (List.nil_sublist _) ⟨⟨3, rfl⟩, ⟨4, rfl⟩, ⟨5, rfl⟩, trivial⟩)
                refine e_listed (listed' := #[true, true, true, true, false, true, true, true, true, true, false, false, true, true, true, false, false]) (by kernel_rfl) ?_
                refine e_many [4, 10] (by kernel_rfl) (by decide) ⟨⟨_, rfl, ?_⟩, ⟨_, rfl, ?_⟩, trivial⟩
                ·
                 refine sq_append (ys := ((x5.take x23.toNat).drop 0)) hF hS (i := 0) rfl rfl rfl (SlR.src (hS.fc (i := 1) rfl)) psl76 pb3 pz3 rfl (by decide) (by decide) hx64 (by decide) (fun A132 c133 a W hF hS => ?_)
                 refine sq_nil (then_j ⟨?_, ?_⟩)
                 · exact fun _ _ => (hS.keep (List.Sublist.refl _) (List.nil_sublist _) ⟨⟨3, rfl⟩, ⟨4, rfl⟩, ⟨5, rfl⟩, trivial⟩)
                 ·
                  have hQC : (fun _ => St M w0 [] [] [fSl k_TAct A59 c60 x53.Mod.Acts, fAt k_TChange (p55.add (x8.toNat * 32)) (TChange.enc x53 A59 c60) x53, fSl k_TChange A0_0 c0_0 u0]) W W := (hS.keep (List.Sublist.refl _) (List.nil_sublist _) ⟨⟨3, rfl⟩, ⟨4, rfl⟩, ⟨5, rfl⟩, trivial⟩)
                  refine e_listed (listed' := #[true, true, true, true, true, true, true, true, true, true, false, false, true, true, true, false, false]) (by kernel_rfl) ?_
                  refine e_one (listed' := #[true, true, true, true, true, true, true, true, true, true, true, false, true, true, true, false, false]) 10 rfl (by kernel_rfl) (by kernel_rfl) ?_
                  refine sq_buildSlice (κ := (kInt .i64)) (xs := [.tmp 55]) (ys := [x53.Unit]) hF hS rfl rfl rfl (Els.cons rfl (Els.nil _ _ _)) rfl psl76 pz3 rfl (by decide) (by decide) (by decide) (fun A134 c135 a W hF hS => ?_)
                  refine sq_nil (then_j ⟨?_, ?_⟩)
                  · exact fun _ _ => (hS.keep (List.Sublist.refl _) (List.nil_sublist _) ⟨⟨3, rfl⟩, ⟨4, rfl⟩, ⟨5, rfl⟩, trivial⟩)
                  ·
                   have hQC : (fun _ => St M w0 [] [] [fSl k_TAct A59 c60 x53.Mod.Acts, fAt k_TChange (p55.add (x8.toNat * 32)) (TChange.enc x53 A59 c60) x53, fSl k_TChange A0_0 c0_0 u0]) W W := (hS.keep (List.Sublist.refl _) (List.nil_sublist _) ⟨⟨3, rfl⟩, ⟨4, rfl⟩, ⟨5, rfl⟩, trivial⟩)
                   refine e_one (listed' := #[true, true, true, true, true, true, true, true, true, true, true, true, true, true, true, false, false]) 11 rfl (by kernel_rfl) (by kernel_rfl) ?_
                   refine sq_append (ys := ([x53.Unit])) hF hS (i := 1) rfl rfl rfl (hS.rw_ (i := 0) rfl).src psl76 pb3 pz3 rfl (by decide) (by decide) hx66 (by decide) (fun A136 c137 a W hF hS => ?_)
                   refine sq_nil (then_j ⟨?_, ?_⟩)
                   · exact fun _ _ => (hS.keep (List.Sublist.refl _) (List.nil_sublist _) ⟨⟨3, rfl⟩, ⟨4, rfl⟩, ⟨5, rfl⟩, trivial⟩)
                   ·
                    have hQC : (fun _ => St M w0 [] [] [fSl k_TAct A59 c60 x53.Mod.Acts, fAt k_TChange (p55.add (x8.toNat * 32)) (TChange.enc x53 A59 c60) x53, fSl k_TChange A0_0 c0_0 u0]) W W := (hS.keep (List.Sublist.refl _) (List.nil_sublist _) ⟨⟨3, rfl⟩, ⟨4, rfl⟩, ⟨5, rfl⟩, trivial⟩)
                    refine e_one (listed' := #[true, true, true, true, true, true, true, true, true, true, true, true, true, true, true, true, false]) 15 rfl (by kernel_rfl) (by kernel_rfl) ?_
                    refine sq_append (ys := ((x5.take x5.length).drop x23.toNat)) hF hS (i := 1) rfl rfl rfl (SlR.src (hS.fc (i := 0) rfl)) psl76 pb3 pz3 rfl (by decide) (by decide) hx69 (by decide) (fun A138 c139 a W hF hS => ?_)
                    refine sq_nil (then_j ⟨?_, ?_⟩)
                    · exact fun _ _ => (hS.keep (List.Sublist.refl _) (List.nil_sublist _) ⟨⟨3, rfl⟩, ⟨4, rfl⟩, ⟨5, rfl⟩, trivial⟩)
                    ·
                     have hQC : (fun _ => St M w0 [] [] [fSl k_TAct A59 c60 x53.Mod.Acts, fAt k_TChange (p55.add (x8.toNat * 32)) (TChange.enc x53 A59 c60) x53, fSl k_TChange A0_0 c0_0 u0]) W W := (hS.keep (List.Sublist.refl _) (List.nil_sublist _) ⟨⟨3, rfl⟩, ⟨4, rfl⟩, ⟨5, rfl⟩, trivial⟩)
                     refine e_val (listed' := #[true, true, true, true, true, true, true, true, true, true, true, true, true, true, true, true, true]) 16 rfl (by kernel_rfl) (by kernel_rfl) (fun _ _ _ h => h) (fun W => (v_assign hF rfl)) hF (by decide) (fun a hF => ?_)
                     refine e_done (by kernel_rfl) ?_ _
                     obtain rfl := Option.some.inj h
                     exact then_j ⟨x68, A138, c139, rfl, (hF.keep ⟨rfl, rfl, rfl, trivial⟩), (hS.keep (List.Sublist.refl _) (.cons _ (List.Sublist.refl _)) ⟨⟨5, rfl⟩, trivial⟩)⟩
                ·
                 refine sq_buildSlice (κ := (kInt .i64)) (xs := [.tmp 55]) (ys := [x53.Unit]) hF hS rfl rfl rfl (Els.cons rfl (Els.nil _ _ _)) rfl psl76 pz3 rfl (by decide) (by decide) (by decide) (fun A140 c141 a W hF hS => ?_)
                 refine sq_nil (then_j ⟨?_, ?_⟩)
                 · exact fun _ _ => (hS.keep (List.Sublist.refl _) (List.nil_sublist _) ⟨⟨3, rfl⟩, ⟨4, rfl⟩, ⟨5, rfl⟩, trivial⟩)
                 ·
                  have hQC : (fun _ => St M w0 [] [] [fSl k_TAct A59 c60 x53.Mod.Acts, fAt k_TChange (p55.add (x8.toNat * 32)) (TChange.enc x53 A59 c60) x53, fSl k_TChange A0_0 c0_0 u0]) W W := (hS.keep (List.Sublist.refl _) (List.nil_sublist _) ⟨⟨3, rfl⟩, ⟨4, rfl⟩, ⟨5, rfl⟩, trivial⟩)
                  refine e_listed (listed' := #[true, true, true, true, false, true, true, true, true, true, true, false, true, true, true, false, false]) (by kernel_rfl) ?_
                  refine e_one (listed' := #[true, true, true, true, true, true, true, true, true, true, true, false, true, true, true, false, false]) 4 rfl (by kernel_rfl) (by kernel_rfl) ?_
                  refine sq_append (ys := ((x5.take x23.toNat).drop 0)) hF hS (i := 1) rfl rfl rfl (SlR.src (hS.fc (i := 1) rfl)) psl76 pb3 pz3 rfl (by decide) (by decide) hx64 (by decide) (fun A142 c143 a W hF hS => ?_)
                  refine sq_nil (then_j ⟨?_, ?_⟩)
                  · exact fun _ _ => (hS.keep (List.Sublist.refl _) (List.nil_sublist _) ⟨⟨3, rfl⟩, ⟨4, rfl⟩, ⟨5, rfl⟩, trivial⟩)
                  ·
                   have hQC : (fun _ => St M w0 [] [] [fSl k_TAct A59 c60 x53.Mod.Acts, fAt k_TChange (p55.add (x8.toNat * 32)) (TChange.enc x53 A59 c60) x53, fSl k_TChange A0_0 c0_0 u0]) W W := (hS.keep (List.Sublist.refl _) (List.nil_sublist _) ⟨⟨3, rfl⟩, ⟨4, rfl⟩, ⟨5, rfl⟩, trivial⟩)
                   refine e_one (listed' := #[true, true, true, true, true, true, true, true, true, true, true, true, true, true, true, false, false]) 11 rfl (by kernel_rfl) (by kernel_rfl) ?_
                   refine sq_append (ys := ([x53.Unit])) hF hS (i := 1) rfl rfl rfl (hS.rw_ (i := 0) rfl).src psl76 pb3 pz3 rfl (by decide) (by decide) hx66 (by decide) (fun A144 c145 a W hF hS => ?_)
                   refine sq_nil (then_j ⟨?_, ?_⟩)
                   · exact fun _ _ => (hS.keep (List.Sublist.refl _) (List.nil_sublist _) ⟨⟨3, rfl⟩, ⟨4, rfl⟩, ⟨5, rfl⟩, trivial⟩)
                   ·
                    have hQC : (fun _ => St M w0 [] [] [fSl k_TAct A59 c60 x53.Mod.Acts, fAt k_TChange (p55.add (x8.toNat * 32)) (TChange.enc x53 A59 c60) x53, fSl k_TChange A0_0 c0_0 u0]) W W := (hS.keep (List.Sublist.refl _) (List.nil_sublist _) ⟨⟨3, rfl⟩, ⟨4, rfl⟩, ⟨5, rfl⟩, trivial⟩)
                    refine e_one (listed' := #[true, true, true, true, true, true, true, true, true, true, true, true, true, true, true, true, false]) 15 rfl (by kernel_rfl) (by kernel_rfl) ?_
                    refine sq_append (ys := ((x5.take x5.length).drop x23.toNat)) hF hS (i := 1) rfl rfl rfl (SlR.src (hS.fc (i := 0) rfl)) psl76 pb3 pz3 rfl (by decide) (by decide) hx69 (by decide) (fun A146 c147 a W hF hS => ?_)
                    refine sq_nil (then_j ⟨?_, ?_⟩)
                    · exact fun _ _ => (hS.keep (List.Sublist.refl _) (List.nil_sublist _) ⟨⟨3, rfl⟩, ⟨4, rfl⟩, ⟨5, rfl⟩, trivial⟩)
                    ·
                     have hQC : (fun _ => St M w0 [] [] [fSl k_TAct A59 c60 x53.Mod.Acts, fAt k_TChange (p55.add (x8.toNat * 32)) (TChange.enc x53 A59 c60) x53, fSl k_TChange A0_0 c0_0 u0]) W W := (hS.keep (List.Sublist.refl _) (List.nil_sublist _) ⟨⟨3, rfl⟩, ⟨4, rfl⟩, ⟨5, rfl⟩, trivial⟩)
                     refine e_val (listed' := #[true, true, true, true, true, true, true, true, true, true, true, true, true, true, true, true, true]) 16 rfl (by kernel_rfl) (by kernel_rfl) (fun _ _ _ h => h) (fun W => (v_assign hF rfl)) hF (by decide) (fun a hF => ?_)
                     refine e_done (by kernel_rfl) ?_ _
                     obtain rfl := Option.some.inj h
                     exact then_j ⟨x68, A146, c147, rfl, (hF.keep ⟨rfl, rfl, rfl, trivial⟩), (hS.keep (List.Sublist.refl _) (.cons _ (List.Sublist.refl _)) ⟨⟨5, rfl⟩, trivial⟩)⟩
            ·
             refine sq_buildSlice (κ := (kInt .i64)) (xs := [.tmp 55]) (ys := [x53.Unit]) hF hS rfl rfl rfl (Els.cons rfl (Els.nil _ _ _)) rfl psl76 pz3 rfl (by decide) (by decide) (by decide) (fun A148 c149 a W hF hS => ?_)
             refine sq_nil (then_j ⟨?_, ?_⟩)
             · exact fun _ _ => (hS.keep (List.Sublist.refl _) (List.nil_sublist _) ⟨⟨0, rfl⟩, ⟨1, rfl⟩, ⟨2, rfl⟩, trivial⟩)
             ·
              have hQC : (fun _ => St M w0 [] [] [fSl k_TAct A59 c60 x53.Mod.Acts, fAt k_TChange (p55.add (x8.toNat * 32)) (TChange.enc x53 A59 c60) x53, fSl k_TChange A0_0 c0_0 u0]) W W := (hS.keep (List.Sublist.refl _) (List.nil_sublist _) ⟨⟨0, rfl⟩, ⟨1, rfl⟩, ⟨2, rfl⟩, trivial⟩)
              refine e_listed (listed' := #[true, true, true, false, false, true, true, true, true, true, true, false, true, true, false, false, false]) (by kernel_rfl) ?_
              refine e_many [3, 14] (by kernel_rfl) (by decide) ⟨⟨_, rfl, ?_⟩, ⟨_, rfl, ?_⟩, trivial⟩
              ·
               have hS := hS.freeze (i := 2) rfl (posB rfl)
               refine sq_val (v_slice (κ := (kInt .i64)) (lo := 0) (hi := x23.toNat) hF rfl rfl rfl psl76 (.inl ⟨rfl, rfl⟩) (.inr ⟨_, _, rfl, by omega, rfl⟩) (by omega) (by omega) (hS.fc (i := 0) rfl).1) hF (by decide) (fun a hF => ?_)
               have hcut152 := SlR.cut (xs := x5) (hS.fc (i := 0) rfl) (lo := 0) (hi := x23.toNat) (by omega) (by omega)
               generalize (if c7 = 0 then A6 else Option.map (fun (q : Addr) => q.add (0 * ((kInt .i64)).sz)) A6) = A150 at hF hcut152
               generalize c7 - 0 = c151 at hF hcut152
               have hS := hS.addFact (f := fSl (kInt .i64) A150 c151 ((x5.take x23.toNat).drop 0)) hcut152
               refine sq_nil (then_j ⟨?_, ?_⟩)
               · exact fun _ _ => (hS.keep (List.Sublist.refl _) (List.nil_sublist _) ⟨⟨2, rfl⟩, ⟨3, rfl⟩, ⟨4, rfl⟩, trivial⟩)
               ·
                have hQC : (fun _ => St M w0 [] [] [fSl k_TAct A59 c60 x53.Mod.Acts, fAt k_TChange (p55.add (x8.toNat * 32)) (TChange.enc x53 A59 c60) x53, fSl k_TChange A0_0 c0_0 u0]) W W := (hS.keep (List.Sublist.refl _) (List.nil_sublist _) ⟨⟨2, rfl⟩, ⟨3, rfl⟩, ⟨4, rfl⟩, trivial⟩)
                refine e_listed (listed' := #[true, true, true, true, false, true, true, true, true, true, true, false, true, true, false, false, false]) (by kernel_rfl) ?_
                refine e_many [4, 14] (by kernel_rfl) (by decide) ⟨⟨_, rfl, ?_⟩, ⟨_, rfl, ?_⟩, trivial⟩
                ·
                 refine sq_append (ys := ((x5.take x23.toNat).drop 0)) hF hS (i := 1) rfl rfl rfl (SlR.src (hS.fc (i := 0) rfl)) psl76 pb3 pz3 rfl (by decide) (by decide) hx64 (by decide) (fun A153 c154 a W hF hS => ?_)
                 refine sq_nil (then_j ⟨?_, ?_⟩)
                 · exact fun _ _ => (hS.keep (List.Sublist.refl _) (List.nil_sublist _) ⟨⟨2, rfl⟩, ⟨3, rfl⟩, ⟨4, rfl⟩, trivial⟩)
                 ·
                  have hQC : (fun _ => St M w0 [] [] [fSl k_TAct A59 c60 x53.Mod.Acts, fAt k_TChange (p55.add (x8.toNat * 32)) (TChange.enc x53 A59 c60) x53, fSl k_TChange A0_0 c0_0 u0]) W W := (hS.keep (List.Sublist.refl _) (List.nil_sublist _) ⟨⟨2, rfl⟩, ⟨3, rfl⟩, ⟨4, rfl⟩, trivial⟩)
                  refine e_listed (listed' := #[true, true, true, true, true, true, true, true, true, true, true, false, true, true, false, false, false]) (by kernel_rfl) ?_
                  refine e_many [11, 14] (by kernel_rfl) (by decide) ⟨⟨_, rfl, ?_⟩, ⟨_, rfl, ?_⟩, trivial⟩
                  ·
                   refine sq_append (ys := ([x53.Unit])) hF hS (i := 1) rfl rfl rfl (hS.rw_ (i := 0) rfl).src psl76 pb3 pz3 rfl (by decide) (by decide) hx66 (by decide) (fun A155 c156 a W hF hS => ?_)
                   refine sq_nil (then_j ⟨?_, ?_⟩)
                   · exact fun _ _ => (hS.keep (List.Sublist.refl _) (List.nil_sublist _) ⟨⟨2, rfl⟩, ⟨3, rfl⟩, ⟨4, rfl⟩, trivial⟩)
                   ·
                    have hQC : (fun _ => St M w0 [] [] [fSl k_TAct A59 c60 x53.Mod.Acts, fAt k_TChange (p55.add (x8.toNat * 32)) (TChange.enc x53 A59 c60) x53, fSl k_TChange A0_0 c0_0 u0]) W W := (hS.keep (List.Sublist.refl _) (List.nil_sublist _) ⟨⟨2, rfl⟩, ⟨3, rfl⟩, ⟨4, rfl⟩, trivial⟩)
                    refine e_listed (listed' := #[true, true, true, true, true, true, true, true, true, true, true, true, true, true, false, false, false]) (by kernel_rfl) ?_
                    refine e_one (listed' := #[true, true, true, true, true, true, true, true, true, true, true, true, true, true, true, false, false]) 14 rfl (by kernel_rfl) (by kernel_rfl) ?_
                    refine sq_val (v_slice (κ := (kInt .i64)) (lo := x23.toNat) (hi := x5.length) hF rfl rfl rfl psl76 (.inr ⟨_, _, rfl, by omega, rfl⟩) (.inl ⟨rfl, rfl⟩) (by omega) (by omega) (hS.fc (i := 1) rfl).1) hF (by decide) (fun a hF => ?_)
                    have hcut159 := SlR.cut (xs := x5) (hS.fc (i := 1) rfl) (lo := x23.toNat) (hi := x5.length) (by omega) (by omega)
                    generalize (if c7 = x23.toNat then A6 else Option.map (fun (q : Addr) => q.add (x23.toNat * ((kInt .i64)).sz)) A6) = A157 at hF hcut159
                    generalize c7 - x23.toNat = c158 at hF hcut159
                    have hS := hS.addFact (f := fSl (kInt .i64) A157 c158 ((x5.take x5.length).drop x23.toNat)) hcut159
                    refine sq_nil (then_j ⟨?_, ?_⟩)
                    · exact fun _ _ => (hS.keep (List.Sublist.refl _) (List.nil_sublist _) ⟨⟨3, rfl⟩, ⟨4, rfl⟩, ⟨5, rfl⟩, trivial⟩)
                    ·
                     have hQC : (fun _ => St M w0 [] [] [fSl k_TAct A59 c60 x53.Mod.Acts, fAt k_TChange (p55.add (x8.toNat * 32)) (TChange.enc x53 A59 c60) x53, fSl k_TChange A0_0 c0_0 u0]) W W := (hS.keep (List.Sublist.refl _) (List.nil_sublist _) ⟨⟨3, rfl⟩, ⟨4, rfl⟩, ⟨5, rfl⟩, trivial⟩)
                     refine e_one (listed' := #[true, true, true, true, true, true, true, true, true, true, true, true, true, true, true, true, false]) 15 rfl (by kernel_rfl) (by kernel_rfl) ?_
                     refine sq_append (ys := ((x5.take x5.length).drop x23.toNat)) hF hS (i := 1) rfl rfl rfl (SlR.src (hS.fc (i := 0) rfl)) psl76 pb3 pz3 rfl (by decide) (by decide) hx69 (by decide) (fun A160 c161 a W hF hS => ?_)
                     refine sq_nil (then_j ⟨?_, ?_⟩)
                     · exact fun _ _ => (hS.keep (List.Sublist.refl _) (List.nil_sublist _) ⟨⟨3, rfl⟩, ⟨4, rfl⟩, ⟨5, rfl⟩, trivial⟩)
                     ·
                      have hQC : (fun _ => St M w0 [] [] [fSl k_TAct A59 c60 x53.Mod.Acts, fAt k_TChange (p55.add (x8.toNat * 32)) (TChange.enc x53 A59 c60) x53, fSl k_TChange A0_0 c0_0 u0]) W W := (hS.keep (List.Sublist.refl _) (List.nil_sublist _) ⟨⟨3, rfl⟩, ⟨4, rfl⟩, ⟨5, rfl⟩, trivial⟩)
                      refine e_val (listed' := #[true, true, true, true, true, true, true, true, true, true, true, true, true, true, true, true, true]) 16 rfl (by kernel_rfl) (by kernel_rfl) (fun _ _ _ h => h) (fun W => (v_assign hF rfl)) hF (by decide) (fun a hF => ?_)
                      refine e_done (by kernel_rfl) ?_ _
                      obtain rfl := Option.some.inj h
                      exact then_j ⟨x68, A160, c161, rfl, (hF.keep ⟨rfl, rfl, rfl, trivial⟩), (hS.keep (List.Sublist.refl _) (.cons _ (List.Sublist.refl _)) ⟨⟨5, rfl⟩, trivial⟩)⟩
                  ·
                   refine sq_val (v_slice (κ := (kInt .i64)) (lo := x23.toNat) (hi := x5.length) hF rfl rfl rfl psl76 (.inr ⟨_, _, rfl, by omega, rfl⟩) (.inl ⟨rfl, rfl⟩) (by omega) (by omega) (hS.fc (i := 1) rfl).1) hF (by decide) (fun a hF => ?_)
                   have hcut164 := SlR.cut (xs := x5) (hS.fc (i := 1) rfl) (lo := x23.toNat) (hi := x5.length) (by omega) (by omega)
                   generalize (if c7 = x23.toNat then A6 else Option.map (fun (q : Addr) => q.add (x23.toNat * ((kInt .i64)).sz)) A6) = A162 at hF hcut164
                   generalize c7 - x23.toNat = c163 at hF hcut164
                   have hS := hS.addFact (f := fSl (kInt .i64) A162 c163 ((x5.take x5.length).drop x23.toNat)) hcut164
                   refine sq_nil (then_j ⟨?_, ?_⟩)
                   · exact fun _ _ => (hS.keep (List.Sublist.refl _) (List.nil_sublist _) ⟨⟨3, rfl⟩, ⟨4, rfl⟩, ⟨5, rfl⟩, trivial⟩)
                   ·
                    have hQC : (fun _ => St M w0 [] [] [fSl k_TAct A59 c60 x53.Mod.Acts, fAt k_TChange (p55.add (x8.toNat * 32)) (TChange.enc x53 A59 c60) x53, fSl k_TChange A0_0 c0_0 u0]) W W := (hS.keep (List.Sublist.refl _) (List.nil_sublist _) ⟨⟨3, rfl⟩, ⟨4, rfl⟩, ⟨5, rfl⟩, trivial⟩)
                    refine e_listed (listed' := #[true, true, true, true, true, true, true, true, true, true, true, false, true, true, true, false, false]) (by kernel_rfl) ?_
                    refine e_one (listed' := #[true, true, true, true, true, true, true, true, true, true, true, true, true, true, true, false, false]) 11 rfl (by kernel_rfl) (by kernel_rfl) ?_
                    refine sq_append (ys := ([x53.Unit])) hF hS (i := 1) rfl rfl rfl (hS.rw_ (i := 0) rfl).src psl76 pb3 pz3 rfl (by decide) (by decide) hx66 (by decide) (fun A165 c166 a W hF hS => ?_)
                    refine sq_nil (then_j ⟨?_, ?_⟩)
                    · exact fun _ _ => (hS.keep (List.Sublist.refl _) (List.nil_sublist _) ⟨⟨3, rfl⟩, ⟨4, rfl⟩, ⟨5, rfl⟩, trivial⟩)
                    ·
                     have hQC : (fun _ => St M w0 [] [] [fSl k_TAct A59 c60 x53.Mod.Acts, fAt k_TChange (p55.add (x8.toNat * 32)) (TChange.enc x53 A59 c60) x53, fSl k_TChange A0_0 c0_0 u0]) W W := (hS.keep (List.Sublist.refl _) (List.nil_sublist _) ⟨⟨3, rfl⟩, ⟨4, rfl⟩, ⟨5, rfl⟩, trivial⟩)
                     refine e_one (listed' := #[true, true, true, true, true, true, true, true, true, true, true, true, true, true, true, true, false]) 15 rfl (by kernel_rfl) (by kernel_rfl) ?_
                     refine sq_append (ys := ((x5.take x5.length).drop x23.toNat)) hF hS (i := 1) rfl rfl rfl (SlR.src (hS.fc (i := 0) rfl)) psl76 pb3 pz3 rfl (by decide) (by decide) hx69 (by decide) (fun A167 c168 a W hF hS => ?_)
                     refine sq_nil (then_j ⟨?_, ?_⟩)
                     · exact fun _ _ => (hS.keep (List.Sublist.refl _) (List.nil_sublist _) ⟨⟨3, rfl⟩, ⟨4, rfl⟩, ⟨5, rfl⟩, trivial⟩)
                     ·
                      have hQC : (fun _ => St M w0 [] [] [fSl k_TAct A59 c60 x53.Mod.Acts, fAt k_TChange (p55.add (x8.toNat * 32)) (TChange.enc x53 A59 c60) x53, fSl k_TChange A0_0 c0_0 u0]) W W := (hS.keep (List.Sublist.refl _) (List.nil_sublist _) ⟨⟨3, rfl⟩, ⟨4, rfl⟩, ⟨5, rfl⟩, trivial⟩)
                      refine e_val (listed' := #[true, true, true, true, true, true, true, true, true, true, true, true, true, true, true, true, true]) 16 rfl (by kernel_rfl) (by kernel_rfl) (fun _ _ _ h => h) (fun W => (v_assign hF rfl)) hF (by decide) (fun a hF => ?_)
                      refine e_done (by kernel_rfl) ?_ _
                      obtain rfl := Option.some.inj h
                      exact then_j ⟨x68, A167, c168, rfl, (hF.keep ⟨rfl, rfl, rfl, trivial⟩), (hS.keep (List.Sublist.refl _) (.cons _ (List.Sublist.refl _)) ⟨⟨5, rfl⟩, trivial⟩)⟩
                ·
                 refine sq_val (v_slice (κ := (kInt .i64)) (lo := x23.toNat) (hi := x5.length) hF rfl rfl rfl psl76 (.inr ⟨_, _, rfl, by omega, rfl⟩) (.inl ⟨rfl, rfl⟩) (by omega) (by omega) (hS.fc (i := 1) rfl).1) hF (by decide) (fun a hF => ?_)
                 have hcut171 := SlR.cut (xs := x5) (hS.fc (i := 1) rfl) (lo := x23.toNat) (hi := x5.length) (by omega) (by omega)
                 generalize (if c7 = x23.toNat then A6 else Option.map (fun (q : Addr) => q.add (x23.toNat * ((kInt .i64)).sz)) A6) = A169 at hF hcut171
                 generalize c7 - x23.toNat = c170 at hF hcut171
                 have hS := hS.addFact (f := fSl (kInt .i64) A169 c170 ((x5.take x5.length).drop x23.toNat)) hcut171
                 refine sq_nil (then_j ⟨?_, ?_⟩)
                 · exact fun _ _ => (hS.keep (List.Sublist.refl _) (List.nil_sublist _) ⟨⟨3, rfl⟩, ⟨4, rfl⟩, ⟨5, rfl⟩, trivial⟩)
                 ·
                  have hQC : (fun _ => St M w0 [] [] [fSl k_TAct A59 c60 x53.Mod.Acts, fAt k_TChange (p55.add (x8.toNat * 32)) (TChange.enc x53 A59 c60) x53, fSl k_TChange A0_0 c0_0 u0]) W W := (hS.keep (List.Sublist.refl _) (List.nil_sublist _) ⟨⟨3, rfl⟩, ⟨4, rfl⟩, ⟨5, rfl⟩, trivial⟩)
                  refine e_listed (listed' := #[true, true, true, true, false, true, true, true, true, true, true, false, true, true, true, false, false]) (by kernel_rfl) ?_
                  refine e_one (listed' := #[true, true, true, true, true, true, true, true, true, true, true, false, true, true, true, false, false]) 4 rfl (by kernel_rfl) (by kernel_rfl) ?_
                  refine sq_append (ys := ((x5.take x23.toNat).drop 0)) hF hS (i := 1) rfl rfl rfl (SlR.src (hS.fc (i := 1) rfl)) psl76 pb3 pz3 rfl (by decide) (by decide) hx64 (by decide) (fun A172 c173 a W hF hS => ?_)
                  refine sq_nil (then_j ⟨?_, ?_⟩)
                  · exact fun _ _ => (hS.keep (List.Sublist.refl _) (List.nil_sublist _) ⟨⟨3, rfl⟩, ⟨4, rfl⟩, ⟨5, rfl⟩, trivial⟩)
                  ·
                   have hQC : (fun _ => St M w0 [] [] [fSl k_TAct A59 c60 x53.Mod.Acts, fAt k_TChange (p55.add (x8.toNat * 32)) (TChange.enc x53 A59 c60) x53, fSl k_TChange A0_0 c0_0 u0]) W W := (hS.keep (List.Sublist.refl _) (List.nil_sublist _) ⟨⟨3, rfl⟩, ⟨4, rfl⟩, ⟨5, rfl⟩, trivial⟩)
                   refine e_one (listed' := #[true, true, true, true, true, true, true, true, true, true, true, true, true, true, true, false, false]) 11 rfl (by kernel_rfl) (by kernel_rfl) ?_
                   refine sq_append (ys := ([x53.Unit])) hF hS (i := 1) rfl rfl rfl (hS.rw_ (i := 0) rfl).src psl76 pb3 pz3 rfl (by decide) (by decide) hx66 (by decide) (fun A174 c175 a W hF hS => ?_)
                   refine sq_nil (then_j ⟨?_, ?_⟩)
                   · exact fun _ _ => (hS.keep (List.Sublist.refl _) (List.nil_sublist _) ⟨⟨3, rfl⟩, ⟨4, rfl⟩, ⟨5, rfl⟩, trivial⟩)
                   ·
                    have hQC : (fun _ => St M w0 [] [] [fSl k_TAct A59 c60 x53.Mod.Acts, fAt k_TChange (p55.add (x8.toNat * 32)) (TChange.enc x53 A59 c60) x53, fSl k_TChange A0_0 c0_0 u0]) W W := (hS.keep (List.Sublist.refl _) (List.nil_sublist _) ⟨⟨3, rfl⟩, ⟨4, rfl⟩, ⟨5, rfl⟩, trivial⟩)
                    refine e_one (listed' := #[true, true, true, true, true, true, true, true, true, true, true, true, true, true, true, true, false]) 15 rfl (by kernel_rfl) (by kernel_rfl) ?_
                    refine sq_append (ys := ((x5.take x5.length).drop x23.toNat)) hF hS (i := 1) rfl rfl rfl (SlR.src (hS.fc (i := 0) rfl)) psl76 pb3 pz3 rfl (by decide) (by decide) hx69 (by decide) (fun A176 c177 a W hF hS => ?_)
                    refine sq_nil (then_j ⟨?_, ?_⟩)
                    · exact fun _ _ => (hS.keep (List.Sublist.refl _) (List.nil_sublist _) ⟨⟨3, rfl⟩, ⟨4, rfl⟩, ⟨5, rfl⟩, trivial⟩)
                    ·
                     have hQC : (fun _ => St M w0 [] [] [fSl k_TAct A59 c60 x53.Mod.Acts, fAt k_TChange (p55.add (x8.toNat * 32)) (TChange.enc x53 A59 c60) x53, fSl k_TChange A0_0 c0_0 u0]) W W := (hS.keep (List.Sublist.refl _) (List.nil_sublist _) ⟨⟨3, rfl⟩, ⟨4, rfl⟩, ⟨5, rfl⟩, trivial⟩)
                     refine e_val (listed' := #[true, true, true, true, true, true, true, true, true, true, true, true, true, true, true, true, true]) 16 rfl (by kernel_rfl) (by kernel_rfl) (fun _ _ _ h => h) (fun W => (v_assign hF rfl)) hF (by decide) (fun a hF => ?_)
                     refine e_done (by kernel_rfl) ?_ _
                     obtain rfl := Option.some.inj h
                     exact then_j ⟨x68, A176, c177, rfl, (hF.keep ⟨rfl, rfl, rfl, trivial⟩), (hS.keep (List.Sublist.refl _) (.cons _ (List.Sublist.refl _)) ⟨⟨5, rfl⟩, trivial⟩)⟩
              ·
               have hS := hS.freeze (i := 2) rfl (posB rfl)
               refine sq_val (v_slice (κ := (kInt .i64)) (lo := x23.toNat) (hi := x5.length) hF rfl rfl rfl psl76 (.inr ⟨_, _, rfl, by omega, rfl⟩) (.inl ⟨rfl, rfl⟩) (by omega) (by omega) (hS.fc (i := 0) rfl).1) hF (by decide) (fun a hF => ?_)
               have hcut180 := SlR.cut (xs := x5) (hS.fc (i := 0) rfl) (lo := x23.toNat) (hi := x5.length) (by omega) (by omega)
               generalize (if c7 = x23.toNat then A6 else Option.map (fun (q : Addr) => q.add (x23.toNat * ((kInt .i64)).sz)) A6) = A178 at hF hcut180
               generalize c7 - x23.toNat = c179 at hF hcut180
               have hS := hS.addFact (f := fSl (kInt .i64) A178 c179 ((x5.take x5.length).drop x23.toNat)) hcut180
               refine sq_nil (then_j ⟨?_, ?_⟩)
               · exact fun _ _ => (hS.keep (List.Sublist.refl _) (List.nil_sublist _) ⟨⟨2, rfl⟩, ⟨3, rfl⟩, ⟨4, rfl⟩, trivial⟩)
               ·
                have hQC : (fun _ => St M w0 [] [] [fSl k_TAct A59 c60 x53.Mod.Acts, fAt k_TChange (p55.add (x8.toNat * 32)) (TChange.enc x53 A59 c60) x53, fSl k_TChange A0_0 c0_0 u0]) W W := (hS.keep (List.Sublist.refl _) (List.nil_sublist _) ⟨⟨2, rfl⟩, ⟨3, rfl⟩, ⟨4, rfl⟩, trivial⟩)
                refine e_listed (listed' := #[true, true, true, false, false, true, true, true, true, true, true, false, true, true, true, false, false]) (by kernel_rfl) ?_
                refine e_one (listed' := #[true, true, true, true, false, true, true, true, true, true, true, false, true, true, true, false, false]) 3 rfl (by kernel_rfl) (by kernel_rfl) ?_
                refine sq_val (v_slice (κ := (kInt .i64)) (lo := 0) (hi := x23.toNat) hF rfl rfl rfl psl76 (.inl ⟨rfl, rfl⟩) (.inr ⟨_, _, rfl, by omega, rfl⟩) (by omega) (by omega) (hS.fc (i := 1) rfl).1) hF (by decide) (fun a hF => ?_)
                have hcut183 := SlR.cut (xs := x5) (hS.fc (i := 1) rfl) (lo := 0) (hi := x23.toNat) (by omega) (by omega)
                generalize (if c7 = 0 then A6 else Option.map (fun (q : Addr) => q.add (0 * ((kInt .i64)).sz)) A6) = A181 at hF hcut183
                generalize c7 - 0 = c182 at hF hcut183
                have hS := hS.addFact (f := fSl (kInt .i64) A181 c182 ((x5.take x23.toNat).drop 0)) hcut183
                refine sq_nil (then_j ⟨?_, ?_⟩)
                · exact fun _ _ => (hS.keep (List.Sublist.refl _) (List.nil_sublist _) ⟨⟨3, rfl⟩, ⟨4, rfl⟩, ⟨5, rfl⟩, trivial⟩)
                ·
                 have hQC : (fun _ => St M w0 [] [] [fSl k_TAct A59 c60 x53.Mod.Acts, fAt k_TChange (p55.add (x8.toNat * 32)) (TChange.enc x53 A59 c60) x53, fSl k_TChange A0_0 c0_0 u0]) W W := (hS.keep (List.Sublist.refl _) (List.nil_sublist _) ⟨⟨3, rfl⟩, ⟨4, rfl⟩, ⟨5, rfl⟩, trivial⟩)
                 refine e_one (listed' := #[true, true, true, true, true, true, true, true, true, true, true, false, true, true, true, false, false]) 4 rfl (by kernel_rfl) (by kernel_rfl) ?_
                 refine sq_append (ys := ((x5.take x23.toNat).drop 0)) hF hS (i := 1) rfl rfl rfl (SlR.src (hS.fc (i := 0) rfl)) psl76 pb3 pz3 rfl (by decide) (by decide) hx64 (by decide) (fun A184 c185 a W hF hS => ?_)
                 refine sq_nil (then_j ⟨?_, ?_⟩)
                 · exact fun _ _ => (hS.keep (List.Sublist.refl _) (List.nil_sublist _) ⟨⟨3, rfl⟩, ⟨4, rfl⟩, ⟨5, rfl⟩, trivial⟩)
                 ·
                  have hQC : (fun _ => St M w0 [] [] [fSl k_TAct A59 c60 x53.Mod.Acts, fAt k_TChange (p55.add (x8.toNat * 32)) (TChange.enc x53 A59 c60) x53, fSl k_TChange A0_0 c0_0 u0]) W W := (hS.keep (List.Sublist.refl _) (List.nil_sublist _) ⟨⟨3, rfl⟩, ⟨4, rfl⟩, ⟨5, rfl⟩, trivial⟩)
                  refine e_one (listed' := #[true, true, true, true, true, true, true, true, true, true, true, true, true, true, true, false, false]) 11 rfl (by kernel_rfl) (by kernel_rfl) ?_
                  refine sq_append (ys := ([x53.Unit])) hF hS (i := 1) rfl rfl rfl (hS.rw_ (i := 0) rfl).src psl76 pb3 pz3 rfl (by decide) (by decide) hx66 (by decide) (fun A186 c187 a W hF hS => ?_)
                  refine sq_nil (then_j ⟨?_, ?_⟩)
                  · exact fun _ _ => (hS.keep (List.Sublist.refl _) (List.nil_sublist _) ⟨⟨3, rfl⟩, ⟨4, rfl⟩, ⟨5, rfl⟩, trivial⟩)
                  ·
                   have hQC : (fun _ => St M w0 [] [] [fSl k_TAct A59 c60 x53.Mod.Acts, fAt k_TChange (p55.add (x8.toNat * 32)) (TChange.enc x53 A59 c60) x53, fSl k_TChange A0_0 c0_0 u0]) W W := (hS.keep (List.Sublist.refl _) (List.nil_sublist _) ⟨⟨3, rfl⟩, ⟨4, rfl⟩, ⟨5, rfl⟩, trivial⟩)
                   refine e_one (listed' := #[true, true, true, true, true, true, true, true, true, true, true, true, true, true, true, true, false]) 15 rfl (by kernel_rfl) (by kernel_rfl) ?_
                   refine sq_append (ys := ((x5.take x5.length).drop x23.toNat)) hF hS (i := 1) rfl rfl rfl (SlR.src (hS.fc (i := 1) rfl)) psl76 pb3 pz3 rfl (by decide) (by decide) hx69 (by decide) (fun A188 c189 a W hF hS => ?_)
                   refine sq_nil (then_j ⟨?_, ?_⟩)
                   · exact fun _ _ => (hS.keep (List.Sublist.refl _) (List.nil_sublist _) ⟨⟨3, rfl⟩, ⟨4, rfl⟩, ⟨5, rfl⟩, trivial⟩)
                   ·
                    have hQC : (fun _ => St M w0 [] [] [fSl k_TAct A59 c60 x53.Mod.Acts, fAt k_TChange (p55.add (x8.toNat * 32)) (TChange.enc x53 A59 c60) x53, fSl k_TChange A0_0 c0_0 u0]) W W := (hS.keep (List.Sublist.refl _) (List.nil_sublist _) ⟨⟨3, rfl⟩, ⟨4, rfl⟩, ⟨5, rfl⟩, trivial⟩)
                    refine e_val (listed' := #[true, true, true, true, true, true, true, true, true, true, true, true, true, true, true, true, true]) 16 rfl (by kernel_rfl) (by kernel_rfl) (fun _ _ _ h => h) (fun W => (v_assign hF rfl)) hF (by decide) (fun a hF => ?_)
                    refine e_done (by kernel_rfl) ?_ _
                    obtain rfl := Option.some.inj h
                    exact then_j ⟨x68, A188, c189, rfl, (hF.keep ⟨rfl, rfl, rfl, trivial⟩), (hS.keep (List.Sublist.refl _) (.cons _ (List.Sublist.refl _)) ⟨⟨5, rfl⟩, trivial⟩)⟩
            ·
             have hS := hS.freeze (i := 1) rfl (posB rfl)
             refine sq_val (v_slice (κ := (kInt .i64)) (lo := x23.toNat) (hi := x5.length) hF rfl rfl rfl psl76 (.inr ⟨_, _, rfl, by omega, rfl⟩) (.inl ⟨rfl, rfl⟩) (by omega) (by omega) (hS.fc (i := 0) rfl).1) hF (by decide) (fun a hF => ?_)
             have hcut192 := SlR.cut (xs := x5) (hS.fc (i := 0) rfl) (lo := x23.toNat) (hi := x5.length) (by omega) (by omega)
             generalize (if c7 = x23.toNat then A6 else Option.map (fun (q : Addr) => q.add (x23.toNat * ((kInt .i64)).sz)) A6) = A190 at hF hcut192
             generalize c7 - x23.toNat = c191 at hF hcut192
             have hS := hS.addFact (f := fSl (kInt .i64) A190 c191 ((x5.take x5.length).drop x23.toNat)) hcut192
             refine sq_nil (then_j ⟨?_, ?_⟩)
             · exact fun _ _ => (hS.keep (List.Sublist.refl _) (List.nil_sublist _) ⟨⟨2, rfl⟩, ⟨3, rfl⟩, ⟨4, rfl⟩, trivial⟩)
             ·
              have hQC : (fun _ => St M w0 [] [] [fSl k_TAct A59 c60 x53.Mod.Acts, fAt k_TChange (p55.add (x8.toNat * 32)) (TChange.enc x53 A59 c60) x53, fSl k_TChange A0_0 c0_0 u0]) W W := (hS.keep (List.Sublist.refl _) (List.nil_sublist _) ⟨⟨2, rfl⟩, ⟨3, rfl⟩, ⟨4, rfl⟩, trivial⟩)
              refine e_listed (listed' := #[true, true, true, false, false, true, true, true, true, true, false, false, true, true, true, false, false]) (by kernel_rfl) ?_
              refine e_many [3, 10] (by kernel_rfl) (by decide) ⟨⟨_, rfl, ?_⟩, ⟨_, rfl, ?_⟩, trivial⟩
              ·
               refine sq_val (v_slice (κ := (kInt .i64)) (lo := 0) (hi := x23.toNat) hF rfl rfl rfl psl76 (.inl ⟨rfl, rfl⟩) (.inr ⟨_, _, rfl, by omega, rfl⟩) (by omega) (by omega) (hS.fc (i := 1) rfl).1) hF (by decide) (fun a hF => ?_)
               have hcut195 := SlR.cut (xs := x5) (hS.fc (i := 1) rfl) (lo := 0) (hi := x23.toNat) (by omega) (by omega)
               generalize (if c7 = 0 then A6 else Option.map (fun (q : Addr) => q.add (0 * ((kInt .i64)).sz)) A6) = A193 at hF hcut195
               generalize c7 - 0 = c194 at hF hcut195
               have hS := hS.addFact (f := fSl (kInt .i64) A193 c194 ((x5.take x23.toNat).drop 0)) hcut195
               refine sq_nil (then_j ⟨?_, ?_⟩)
               · exact fun _ _ => (hS.keep (List.Sublist.refl _) (List.nil_sublist _) ⟨⟨3, rfl⟩, ⟨4, rfl⟩, ⟨5, rfl⟩, trivial⟩)
               ·
                have hQC : (fun _ => St M w0 [] [] [fSl k_TAct A59 c60 x53.Mod.Acts, fAt k_TChange (p55.add (x8.toNat * 32)) (TChange.enc x53 A59 c60) x53, fSl k_TChange A0_0 c0_0 u0]) W W := (hS.keep (List.Sublist.refl _) (List.nil_sublist _) ⟨⟨3, rfl⟩, ⟨4, rfl⟩, ⟨5, rfl⟩, trivial⟩)
                refine e_listed (listed' := #[true, true, true, true, false, true, true, true, true, true, false, false, true, true, true, false, false]) (by kernel_rfl) ?_
                refine e_many [4, 10] (by kernel_rfl) (by decide) ⟨⟨_, rfl, ?_⟩, ⟨_, rfl, ?_⟩, trivial⟩
                ·
                 refine sq_append (ys := ((x5.take x23.toNat).drop 0)) hF hS (i := 0) rfl rfl rfl (SlR.src (hS.fc (i := 0) rfl)) psl76 pb3 pz3 rfl (by decide) (by decide) hx64 (by decide) (fun A196 c197 a W hF hS => ?_)
                 refine sq_nil (then_j ⟨?_, ?_⟩)
                 · exact fun _ _ => (hS.keep (List.Sublist.refl _) (List.nil_sublist _) ⟨⟨3, rfl⟩, ⟨4, rfl⟩, ⟨5, rfl⟩, trivial⟩)
                 ·
                  have hQC : (fun _ => St M w0 [] [] [fSl k_TAct A59 c60 x53.Mod.Acts, fAt k_TChange (p55.add (x8.toNat * 32)) (TChange.enc x53 A59 c60) x53, fSl k_TChange A0_0 c0_0 u0]) W W := (hS.keep (List.Sublist.refl _) (List.nil_sublist _) ⟨⟨3, rfl⟩, ⟨4, rfl⟩, ⟨5, rfl⟩, trivial⟩)
                  refine e_listed (listed' := #[true, true, true, true, true, true, true, true, true, true, false, false, true, true, true, false, false]) (by kernel_rfl) ?_
                  refine e_one (listed' := #[true, true, true, true, true, true, true, true, true, true, true, false, true, true, true, false, false]) 10 rfl (by kernel_rfl) (by kernel_rfl) ?_
                  refine sq_buildSlice (κ := (kInt .i64)) (xs := [.tmp 55]) (ys := [x53.Unit]) hF hS rfl rfl rfl (Els.cons rfl (Els.nil _ _ _)) rfl psl76 pz3 rfl (by decide) (by decide) (by decide) (fun A198 c199 a W hF hS => ?_)
                  refine sq_nil (then_j ⟨?_, ?_⟩)
                  · exact fun _ _ => (hS.keep (List.Sublist.refl _) (List.nil_sublist _) ⟨⟨3, rfl⟩, ⟨4, rfl⟩, ⟨5, rfl⟩, trivial⟩)
                  ·
                   have hQC : (fun _ => St M w0 [] [] [fSl k_TAct A59 c60 x53.Mod.Acts, fAt k_TChange (p55.add (x8.toNat * 32)) (TChange.enc x53 A59 c60) x53, fSl k_TChange A0_0 c0_0 u0]) W W := (hS.keep (List.Sublist.refl _) (List.nil_sublist _) ⟨⟨3, rfl⟩, ⟨4, rfl⟩, ⟨5, rfl⟩, trivial⟩)
                   refine e_one (listed' := #[true, true, true, true, true, true, true, true, true, true, true, true, true, true, true, false, false]) 11 rfl (by kernel_rfl) (by kernel_rfl) ?_
                   refine sq_append (ys := ([x53.Unit])) hF hS (i := 1) rfl rfl rfl (hS.rw_ (i := 0) rfl).src psl76 pb3 pz3 rfl (by decide) (by decide) hx66 (by decide) (fun A200 c201 a W hF hS => ?_)
                   refine sq_nil (then_j ⟨?_, ?_⟩)
                   · exact fun _ _ => (hS.keep (List.Sublist.refl _) (List.nil_sublist _) ⟨⟨3, rfl⟩, ⟨4, rfl⟩, ⟨5, rfl⟩, trivial⟩)
                   ·
                    have hQC : (fun _ => St M w0 [] [] [fSl k_TAct A59 c60 x53.Mod.Acts, fAt k_TChange (p55.add (x8.toNat * 32)) (TChange.enc x53 A59 c60) x53, fSl k_TChange A0_0 c0_0 u0]) W W := (hS.keep (List.Sublist.refl _) (List.nil_sublist _) ⟨⟨3, rfl⟩, ⟨4, rfl⟩, ⟨5, rfl⟩, trivial⟩)
                    refine e_one (listed' := #[true, true, true, true, true, true, true, true, true, true, true, true, true, true, true, true, false]) 15 rfl (by kernel_rfl) (by kernel_rfl) ?_
                    refine sq_append (ys := ((x5.take x5.length).drop x23.toNat)) hF hS (i := 1) rfl rfl rfl (SlR.src (hS.fc (i := 1) rfl)) psl76 pb3 pz3 rfl (by decide) (by decide) hx69 (by decide) (fun A202 c203 a W hF hS => ?_)
                    refine sq_nil (then_j ⟨?_, ?_⟩)
                    · exact fun _ _ => (hS.keep (List.Sublist.refl _) (List.nil_sublist _) ⟨⟨3, rfl⟩, ⟨4, rfl⟩, ⟨5, rfl⟩, trivial⟩)
                    ·
                     have hQC : (fun _ => St M w0 [] [] [fSl k_TAct A59 c60 x53.Mod.Acts, fAt k_TChange (p55.add (x8.toNat * 32)) (TChange.enc x53 A59 c60) x53, fSl k_TChange A0_0 c0_0 u0]) W W := (hS.keep (List.Sublist.refl _) (List.nil_sublist _) ⟨⟨3, rfl⟩, ⟨4, rfl⟩, ⟨5, rfl⟩, trivial⟩)
                     refine e_val (listed' := #[true, true, true, true, true, true, true, true, true, true, true, true, true, true, true, true, true]) 16 rfl (by kernel_rfl) (by kernel_rfl) (fun _ _ _ h => h) (fun W => (v_assign hF rfl)) hF (by decide) (fun a hF => ?_)
                     refine e_done (by kernel_rfl) ?_ _
                     obtain rfl := Option.some.inj h
                     exact then_j ⟨x68, A202, c203, rfl, (hF.keep ⟨rfl, rfl, rfl, trivial⟩), (hS.keep (List.Sublist.refl _) (.cons _ (List.Sublist.refl _)) ⟨⟨5, rfl⟩, trivial⟩)⟩
                ·
                 refine sq_buildSlice (κ := (kInt .i64)) (xs := [.tmp 55]) (ys := [x53.Unit]) hF hS rfl rfl rfl (Els.cons rfl (Els.nil _ _ _)) rfl psl76 pz3 rfl (by decide) (by decide) (by decide) (fun A204 c205 a W hF hS => ?_)
                 refine sq_nil (then_j ⟨?_, ?_⟩)
                 · exact fun _ _ => (hS.keep (List.Sublist.refl _) (List.nil_sublist _) ⟨⟨3, rfl⟩, ⟨4, rfl⟩, ⟨5, rfl⟩, trivial⟩)
                 ·
                  have hQC : (fun _ => St M w0 [] [] [fSl k_TAct A59 c60 x53.Mod.Acts, fAt k_TChange (p55.add (x8.toNat * 32)) (TChange.enc x53 A59 c60) x53, fSl k_TChange A0_0 c0_0 u0]) W W := (hS.keep (List.Sublist.refl _) (List.nil_sublist _) ⟨⟨3, rfl⟩, ⟨4, rfl⟩, ⟨5, rfl⟩, trivial⟩)
                  refine e_listed (listed' := #[true, true, true, true, false, true, true, true, true, true, true, false, true, true, true, false, false]) (by kernel_rfl) ?_
                  refine e_one (listed' := #[true, true, true, true, true, true, true, true, true, true, true, false, true, true, true, false, false]) 4 rfl (by kernel_rfl) (by kernel_rfl) ?_
                  refine sq_append (ys := ((x5.take x23.toNat).drop 0)) hF hS (i := 1) rfl rfl rfl (SlR.src (hS.fc (i := 0) rfl)) psl76 pb3 pz3 rfl (by decide) (by decide) hx64 (by decide) (fun A206 c207 a W hF hS => ?_)
                  refine sq_nil (then_j ⟨?_, ?_⟩)
                  · exact fun _ _ => (hS.keep (List.Sublist.refl _) (List.nil_sublist _) ⟨⟨3, rfl⟩, ⟨4, rfl⟩, ⟨5, rfl⟩, trivial⟩)
                  ·
                   have hQC : (fun _ => St M w0 [] [] [fSl k_TAct A59 c60 x53.Mod.Acts, fAt k_TChange (p55.add (x8.toNat * 32)) (TChange.enc x53 A59 c60) x53, fSl k_TChange A0_0 c0_0 u0]) W W := (hS.keep (List.Sublist.refl _) (List.nil_sublist _) ⟨⟨3, rfl⟩, ⟨4, rfl⟩, ⟨5, rfl⟩, trivial⟩)
                   refine e_one (listed' := #[true, true, true, true, true, true, true, true, true, true, true, true, true, true, true, false, false]) 11 rfl (by kernel_rfl) (by kernel_rfl) ?_
                   refine sq_append (ys := ([x53.Unit])) hF hS (i := 1) rfl rfl rfl (hS.rw_ (i := 0) rfl).src psl76 pb3 pz3 rfl (by decide) (by decide) hx66 (by decide) (fun A208 c209 a W hF hS => ?_)
                   refine sq_nil (then_j ⟨?_, ?_⟩)
                   · exact fun _ _ => (hS.keep (List.Sublist.refl _) (List.nil_sublist _) ⟨⟨3, rfl⟩, ⟨4, rfl⟩, ⟨5, rfl⟩, trivial⟩)
                   ·
                    have hQC : (fun _ => St M w0 [] [] [fSl k_TAct A59 c60 x53.Mod.Acts, fAt k_TChange (p55.add (x8.toNat * 32)) (TChange.enc x53 A59 c60) x53, fSl k_TChange A0_0 c0_0 u0]) W W := (hS.keep (List.Sublist.refl _) (List.nil_sublist _) ⟨⟨3, rfl⟩, ⟨4, rfl⟩, ⟨5, rfl⟩, trivial⟩)
                    refine e_one (listed' := #[true, true, true, true, true, true, true, true, true, true, true, true, true, true, true, true, false]) 15 rfl (by kernel_rfl) (by kernel_rfl) ?_
                    refine sq_append (ys := ((x5.take x5.length).drop x23.toNat)) hF hS (i := 1) rfl rfl rfl (SlR.src (hS.fc (i := 1) rfl)) psl76 pb3 pz3 rfl (by decide) (by decide) hx69 (by decide) (fun A210 c211 a W hF hS => ?_)
                    refine sq_nil (then_j ⟨?_, ?_⟩)
                    · exact fun _ _ => (hS.keep (List.Sublist.refl _) (List.nil_sublist _) ⟨⟨3, rfl⟩, ⟨4, rfl⟩, ⟨5, rfl⟩, trivial⟩)
                    ·
                     have hQC : (fun _ => St M w0 [] [] [fSl k_TAct A59 c60 x53.Mod.Acts, fAt k_TChange (p55.add (x8.toNat * 32)) (TChange.enc x53 A59 c60) x53, fSl k_TChange A0_0 c0_0 u0]) W W := (hS.keep (List.Sublist.refl _) (List.nil_sublist _) ⟨⟨3, rfl⟩, ⟨4, rfl⟩, ⟨5, rfl⟩, trivial⟩)
                     refine e_val (listed' := #[true, true, true, true, true, true, true, true, true, true, true, true, true, true, true, true, true]) 16 rfl (by kernel_rfl) (by kernel_rfl) (fun _ _ _ h => h) (fun W => (v_assign hF rfl)) hF (by decide) (fun a hF => ?_)
                     refine e_done (by kernel_rfl) ?_ _
                     obtain rfl := Option.some.inj h
                     exact then_j ⟨x68, A210, c211, rfl, (hF.keep ⟨rfl, rfl, rfl, trivial⟩), (hS.keep (List.Sublist.refl _) (.cons _ (List.Sublist.refl _)) ⟨⟨5, rfl⟩, trivial⟩)⟩
              ·
               refine sq_buildSlice (κ := (kInt .i64)) (xs := [.tmp 55]) (ys := [x53.Unit]) hF hS rfl rfl rfl (Els.cons rfl (Els.nil _ _ _)) rfl psl76 pz3 rfl (by decide) (by decide) (by decide) (fun A212 c213 a W hF hS => ?_)
               refine sq_nil (then_j ⟨?_, ?_⟩)
               · exact fun _ _ => (hS.keep (List.Sublist.refl _) (List.nil_sublist _) ⟨⟨2, rfl⟩, ⟨3, rfl⟩, ⟨4, rfl⟩, trivial⟩)
               ·
                have hQC : (fun _ => St M w0 [] [] [fSl k_TAct A59 c60 x53.Mod.Acts, fAt k_TChange (p55.add (x8.toNat * 32)) (TChange.enc x53 A59 c60) x53, fSl k_TChange A0_0 c0_0 u0]) W W := (hS.keep (List.Sublist.refl _) (List.nil_sublist _) ⟨⟨2, rfl⟩, ⟨3, rfl⟩, ⟨4, rfl⟩, trivial⟩)
                refine e_listed (listed' := #[true, true, true, false, false, true, true, true, true, true, true, false, true, true, true, false, false]) (by kernel_rfl) ?_
                refine e_one (listed' := #[true, true, true, true, false, true, true, true, true, true, true, false, true, true, true, false, false]) 3 rfl (by kernel_rfl) (by kernel_rfl) ?_
                refine sq_val (v_slice (κ := (kInt .i64)) (lo := 0) (hi := x23.toNat) hF rfl rfl rfl psl76 (.inl ⟨rfl, rfl⟩) (.inr ⟨_, _, rfl, by omega, rfl⟩) (by omega) (by omega) (hS.fc (i := 1) rfl).1) hF (by decide) (fun a hF => ?_)
                have hcut216 := SlR.cut (xs := x5) (hS.fc (i := 1) rfl) (lo := 0) (hi := x23.toNat) (by omega) (by omega)
                generalize (if c7 = 0 then A6 else Option.map (fun (q : Addr) => q.add (0 * ((kInt .i64)).sz)) A6) = A214 at hF hcut216
                generalize c7 - 0 = c215 at hF hcut216
                have hS := hS.addFact (f := fSl (kInt .i64) A214 c215 ((x5.take x23.toNat).drop 0)) hcut216
                refine sq_nil (then_j ⟨?_, ?_⟩)
                · exact fun _ _ => (hS.keep (List.Sublist.refl _) (List.nil_sublist _) ⟨⟨3, rfl⟩, ⟨4, rfl⟩, ⟨5, rfl⟩, trivial⟩)
                ·
                 have hQC : (fun _ => St M w0 [] [] [fSl k_TAct A59 c60 x53.Mod.Acts, fAt k_TChange (p55.add (x8.toNat * 32)) (TChange.enc x53 A59 c60) x53, fSl k_TChange A0_0 c0_0 u0]) W W := (hS.keep (List.Sublist.refl _) (List.nil_sublist _) ⟨⟨3, rfl⟩, ⟨4, rfl⟩, ⟨5, rfl⟩, trivial⟩)
                 refine e_one (listed' := #[true, true, true, true, true, true, true, true, true, true, true, false, true, true, true, false, false]) 4 rfl (by kernel_rfl) (by kernel_rfl) ?_
                 refine sq_append (ys := ((x5.take x23.toNat).drop 0)) hF hS (i := 1) rfl rfl rfl (SlR.src (hS.fc (i := 0) rfl)) psl76 pb3 pz3 rfl (by decide) (by decide) hx64 (by decide) (fun A217 c218 a W hF hS => ?_)
                 refine sq_nil (then_j ⟨?_, ?_⟩)
                 · exact fun _ _ => (hS.keep (List.Sublist.refl _) (List.nil_sublist _) ⟨⟨3, rfl⟩, ⟨4, rfl⟩, ⟨5, rfl⟩, trivial⟩)
                 ·
                  have hQC : (fun _ => St M w0 [] [] [fSl k_TAct A59 c60 x53.Mod.Acts, fAt k_TChange (p55.add (x8.toNat * 32)) (TChange.enc x53 A59 c60) x53, fSl k_TChange A0_0 c0_0 u0]) W W := (hS.keep (List.Sublist.refl _) (List.nil_sublist _) ⟨⟨3, rfl⟩, ⟨4, rfl⟩, ⟨5, rfl⟩, trivial⟩)
                  refine e_one (listed' := #[true, true, true, true, true, true, true, true, true, true, true, true, true, true, true, false, false]) 11 rfl (by kernel_rfl) (by kernel_rfl) ?_
                  refine sq_append (ys := ([x53.Unit])) hF hS (i := 1) rfl rfl rfl (hS.rw_ (i := 0) rfl).src psl76 pb3 pz3 rfl (by decide) (by decide) hx66 (by decide) (fun A219 c220 a W hF hS => ?_)
                  refine sq_nil (then_j ⟨?_, ?_⟩)
                  · exact fun _ _ => (hS.keep (List.Sublist.refl _) (List.nil_sublist _) ⟨⟨3, rfl⟩, ⟨4, rfl⟩, ⟨5, rfl⟩, trivial⟩)
                  ·
                   have hQC : (fun _ => St M w0 [] [] [fSl k_TAct A59 c60 x53.Mod.Acts, fAt k_TChange (p55.add (x8.toNat * 32)) (TChange.enc x53 A59 c60) x53, fSl k_TChange A0_0 c0_0 u0]) W W := (hS.keep (List.Sublist.refl _) (List.nil_sublist _) ⟨⟨3, rfl⟩, ⟨4, rfl⟩, ⟨5, rfl⟩, trivial⟩)
                   refine e_one (listed' := #[true, true, true, true, true, true, true, true, true, true, true, true, true, true, true, true, false]) 15 rfl (by kernel_rfl) (by kernel_rfl) ?_
                   refine sq_append (ys := ((x5.take x5.length).drop x23.toNat)) hF hS (i := 1) rfl rfl rfl (SlR.src (hS.fc (i := 1) rfl)) psl76 pb3 pz3 rfl (by decide) (by decide) hx69 (by decide) (fun A221 c222 a W hF hS => ?_)
                   refine sq_nil (then_j ⟨?_, ?_⟩)
                   · exact fun _ _ => (hS.keep (List.Sublist.refl _) (List.nil_sublist _) ⟨⟨3, rfl⟩, ⟨4, rfl⟩, ⟨5, rfl⟩, trivial⟩)
                   ·
                    have hQC : (fun _ => St M w0 [] [] [fSl k_TAct A59 c60 x53.Mod.Acts, fAt k_TChange (p55.add (x8.toNat * 32)) (TChange.enc x53 A59 c60) x53, fSl k_TChange A0_0 c0_0 u0]) W W := (hS.keep (List.Sublist.refl _) (List.nil_sublist _) ⟨⟨3, rfl⟩, ⟨4, rfl⟩, ⟨5, rfl⟩, trivial⟩)
                    refine e_val (listed' := #[true, true, true, true, true, true, true, true, true, true, true, true, true, true, true, true, true]) 16 rfl (by kernel_rfl) (by kernel_rfl) (fun _ _ _ h => h) (fun W => (v_assign hF rfl)) hF (by decide) (fun a hF => ?_)
                    refine e_done (by kernel_rfl) ?_ _
                    obtain rfl := Option.some.inj h
                    exact then_j ⟨x68, A221, c222, rfl, (hF.keep ⟨rfl, rfl, rfl, trivial⟩), (hS.keep (List.Sublist.refl _) (.cons _ (List.Sublist.refl _)) ⟨⟨5, rfl⟩, trivial⟩)⟩
          ·
           have hS := hS.freeze (i := 0) rfl (posB rfl)
           refine sq_val (v_slice (κ := (kInt .i64)) (lo := 0) (hi := x23.toNat) hF rfl rfl rfl psl76 (.inl ⟨rfl, rfl⟩) (.inr ⟨_, _, rfl, by omega, rfl⟩) (by omega) (by omega) (hS.fc (i := 0) rfl).1) hF (by decide) (fun a hF => ?_)
           have hcut225 := SlR.cut (xs := x5) (hS.fc (i := 0) rfl) (lo := 0) (hi := x23.toNat) (by omega) (by omega)
           generalize (if c7 = 0 then A6 else Option.map (fun (q : Addr) => q.add (0 * ((kInt .i64)).sz)) A6) = A223 at hF hcut225
           generalize c7 - 0 = c224 at hF hcut225
           have hS := hS.addFact (f := fSl (kInt .i64) A223 c224 ((x5.take x23.toNat).drop 0)) hcut225
           refine sq_nil (then_j ⟨?_, ?_⟩)
           · exact fun _ _ => (hS.keep (List.Sublist.refl _) (List.Sublist.refl _) ⟨⟨2, rfl⟩, ⟨3, rfl⟩, ⟨4, rfl⟩, trivial⟩)
           ·
            have hQC : (fun _ => St M w0 [] [] [fSl k_TAct A59 c60 x53.Mod.Acts, fAt k_TChange (p55.add (x8.toNat * 32)) (TChange.enc x53 A59 c60) x53, fSl k_TChange A0_0 c0_0 u0]) W W := (hS.keep (List.Sublist.refl _) (List.Sublist.refl _) ⟨⟨2, rfl⟩, ⟨3, rfl⟩, ⟨4, rfl⟩, trivial⟩)
            refine e_listed (listed' := #[false, true, true, true, false, true, true, true, true, true, false, false, true, true, false, false, false]) (by kernel_rfl) ?_
            refine e_many [0, 10, 14] (by kernel_rfl) (by decide) ⟨⟨_, rfl, ?_⟩, ⟨_, rfl, ?_⟩, ⟨_, rfl, ?_⟩, trivial⟩
            ·
             refine sq_buildSlice (κ := (kInt .i64)) (xs := []) (ys := ([] : List Int)) hF hS rfl rfl rfl (Els.nil _ _ _) rfl psl76 pz3 rfl (by decide) (by decide) (by decide) (fun A226 c227 a W hF hS => ?_)
             refine sq_nil (then_j ⟨?_, ?_⟩)
             · exact fun _ _ => (hS.keep (List.Sublist.refl _) (List.nil_sublist _) ⟨⟨2, rfl⟩, ⟨3, rfl⟩, ⟨4, rfl⟩, trivial⟩)
             ·
              have hQC : (fun _ => St M w0 [] [] [fSl k_TAct A59 c60 x53.Mod.Acts, fAt k_TChange (p55.add (x8.toNat * 32)) (TChange.enc x53 A59 c60) x53, fSl k_TChange A0_0 c0_0 u0]) W W := (hS.keep (List.Sublist.refl _) (List.nil_sublist _) ⟨⟨2, rfl⟩, ⟨3, rfl⟩, ⟨4, rfl⟩, trivial⟩)
              refine e_listed (listed' := #[true, true, true, true, false, true, true, true, true, true, false, false, true, true, false, false, false]) (by kernel_rfl) ?_
              refine e_many [4, 10, 14] (by kernel_rfl) (by decide) ⟨⟨_, rfl, ?_⟩, ⟨_, rfl, ?_⟩, ⟨_, rfl, ?_⟩, trivial⟩
              ·
               refine sq_append (ys := ((x5.take x23.toNat).drop 0)) hF hS (i := 0) rfl rfl rfl (SlR.src (hS.fc (i := 0) rfl)) psl76 pb3 pz3 rfl (by decide) (by decide) hx64 (by decide) (fun A228 c229 a W hF hS => ?_)
               refine sq_nil (then_j ⟨?_, ?_⟩)
               · exact fun _ _ => (hS.keep (List.Sublist.refl _) (List.nil_sublist _) ⟨⟨2, rfl⟩, ⟨3, rfl⟩, ⟨4, rfl⟩, trivial⟩)
               ·
                have hQC : (fun _ => St M w0 [] [] [fSl k_TAct A59 c60 x53.Mod.Acts, fAt k_TChange (p55.add (x8.toNat * 32)) (TChange.enc x53 A59 c60) x53, fSl k_TChange A0_0 c0_0 u0]) W W := (hS.keep (List.Sublist.refl _) (List.nil_sublist _) ⟨⟨2, rfl⟩, ⟨3, rfl⟩, ⟨4, rfl⟩, trivial⟩)
                refine e_listed (listed' := #[true, true, true, true, true, true, true, true, true, true, false, false, true, true, false, false, false]) (by kernel_rfl) ?_
                refine e_many [10, 14] (by kernel_rfl) (by decide) ⟨⟨_, rfl, ?_⟩, ⟨_, rfl, ?_⟩, trivial⟩
                ·
                 refine sq_buildSlice (κ := (kInt .i64)) (xs := [.tmp 55]) (ys := [x53.Unit]) hF hS rfl rfl rfl (Els.cons rfl (Els.nil _ _ _)) rfl psl76 pz3 rfl (by decide) (by decide) (by decide) (fun A230 c231 a W hF hS => ?_)
                 refine sq_nil (then_j ⟨?_, ?_⟩)
                 · exact fun _ _ => (hS.keep (List.Sublist.refl _) (List.nil_sublist _) ⟨⟨2, rfl⟩, ⟨3, rfl⟩, ⟨4, rfl⟩, trivial⟩)
                 ·
                  have hQC : (fun _ => St M w0 [] [] [fSl k_TAct A59 c60 x53.Mod.Acts, fAt k_TChange (p55.add (x8.toNat * 32)) (TChange.enc x53 A59 c60) x53, fSl k_TChange A0_0 c0_0 u0]) W W := (hS.keep (List.Sublist.refl _) (List.nil_sublist _) ⟨⟨2, rfl⟩, ⟨3, rfl⟩, ⟨4, rfl⟩, trivial⟩)
                  refine e_listed (listed' := #[true, true, true, true, true, true, true, true, true, true, true, false, true, true, false, false, false]) (by kernel_rfl) ?_
                  refine e_many [11, 14] (by kernel_rfl) (by decide) ⟨⟨_, rfl, ?_⟩, ⟨_, rfl, ?_⟩, trivial⟩
                  ·
                   refine sq_append (ys := ([x53.Unit])) hF hS (i := 1) rfl rfl rfl (hS.rw_ (i := 0) rfl).src psl76 pb3 pz3 rfl (by decide) (by decide) hx66 (by decide) (fun A232 c233 a W hF hS => ?_)
                   refine sq_nil (then_j ⟨?_, ?_⟩)
                   · exact fun _ _ => (hS.keep (List.Sublist.refl _) (List.nil_sublist _) ⟨⟨2, rfl⟩, ⟨3, rfl⟩, ⟨4, rfl⟩, trivial⟩)
                   ·
                    have hQC : (fun _ => St M w0 [] [] [fSl k_TAct A59 c60 x53.Mod.Acts, fAt k_TChange (p55.add (x8.toNat * 32)) (TChange.enc x53 A59 c60) x53, fSl k_TChange A0_0 c0_0 u0]) W W := (hS.keep (List.Sublist.refl _) (List.nil_sublist _) ⟨⟨2, rfl⟩, ⟨3, rfl⟩, ⟨4, rfl⟩, trivial⟩)
                    refine e_listed (listed' := #[true, true, true, true, true, true, true, true, true, true, true, true, true, true, false, false, false]) (by kernel_rfl) ?_
                    refine e_one (listed' := #[true, true, true, true, true, true, true, true, true, true, true, true, true, true, true, false, false]) 14 rfl (by kernel_rfl) (by kernel_rfl) ?_
                    refine sq_val (v_slice (κ := (kInt .i64)) (lo := x23.toNat) (hi := x5.length) hF rfl rfl rfl psl76 (.inr ⟨_, _, rfl, by omega, rfl⟩) (.inl ⟨rfl, rfl⟩) (by omega) (by omega) (hS.fc (i := 1) rfl).1) hF (by decide) (fun a hF => ?_)
                    have hcut236 := SlR.cut (xs := x5) (hS.fc (i := 1) rfl) (lo := x23.toNat) (hi := x5.length) (by omega) (by omega)
                    generalize (if c7 = x23.toNat then A6 else Option.map (fun (q : Addr) => q.add (x23.toNat * ((kInt .i64)).sz)) A6) = A234 at hF hcut236
                    generalize c7 - x23.toNat = c235 at hF hcut236
                    have hS := hS.addFact (f := fSl (kInt .i64) A234 c235 ((x5.take x5.length).drop x23.toNat)) hcut236
                    refine sq_nil (then_j ⟨?_, ?_⟩)
                    · exact fun _ _ => (hS.keep (List.Sublist.refl _) (List.nil_sublist _) ⟨⟨3, rfl⟩, ⟨4, rfl⟩, ⟨5, rfl⟩, trivial⟩)
                    ·
                     have hQC : (fun _ => St M w0 [] [] [fSl k_TAct A59 c60 x53.Mod.Acts, fAt k_TChange (p55.add (x8.toNat * 32)) (TChange.enc x53 A59 c60) x53, fSl k_TChange A0_0 c0_0 u0]) W W := (hS.keep (List.Sublist.refl _) (List.nil_sublist _) ⟨⟨3, rfl⟩, ⟨4, rfl⟩, ⟨5, rfl⟩, trivial⟩)
                     refine e_one (listed' := #[true, true, true, true, true, true, true, true, true, true, true, true, true, true, true, true, false]) 15 rfl (by kernel_rfl) (by kernel_rfl) ?_
                     refine sq_append (ys := ((x5.take x5.length).drop x23.toNat)) hF hS (i := 1) rfl rfl rfl (SlR.src (hS.fc (i := 0) rfl)) psl76 pb3 pz3 rfl (by decide) (by decide) hx69 (by decide) (fun A237 c238 a W hF hS => ?_)
                     refine sq_nil (then_j ⟨?_, ?_⟩)
                     · exact fun _ _ => (hS.keep (List.Sublist.refl _) (List.nil_sublist _) ⟨⟨3, rfl⟩, ⟨4, rfl⟩, ⟨5, rfl⟩, trivial⟩)
                     ·
                      have hQC : (fun _ => St M w0 [] [] [fSl k_TAct A59 c60 x53.Mod.Acts, fAt k_TChange (p55.add (x8.toNat * 32)) (TChange.enc x53 A59 c60) x53, fSl k_TChange A0_0 c0_0 u0]) W W := (hS.keep (List.Sublist.refl _) (List.nil_sublist _) ⟨⟨3, rfl⟩, ⟨4, rfl⟩, ⟨5, rfl⟩, trivial⟩)
                      refine e_val (listed' := #[true, true, true, true, true, true, true, true, true, true, true, true, true, true, true, true, true]) 16 rfl (by kernel_rfl) (by kernel_rfl) (fun _ _ _ h => h) (fun W => (v_assign hF rfl)) hF (by decide) (fun a hF => ?_)
                      refine e_done (by kernel_rfl) ?_ _
                      obtain rfl := Option.some.inj h
                      exact then_j ⟨x68, A237, c238, rfl, (hF.keep ⟨rfl, rfl, rfl, trivial⟩), (hS.keep (List.Sublist.refl _) (.cons _ (List.Sublist.refl _)) ⟨⟨5, rfl⟩, trivial⟩)⟩
                  ·
                   refine sq_val (v_slice (κ := (kInt .i64)) (lo := x23.toNat) (hi := x5.length) hF rfl rfl rfl psl76 (.inr ⟨_, _, rfl, by omega, rfl⟩) (.inl ⟨rfl, rfl⟩) (by omega) (by omega) (hS.fc (i := 1) rfl).1) hF (by decide) (fun a hF => ?_)
                   have hcut241 := SlR.cut (xs := x5) (hS.fc (i := 1) rfl) (lo := x23.toNat) (hi := x5.length) (by omega) (by omega)
                   generalize (if c7 = x23.toNat then A6 else Option.map (fun (q : Addr) => q.add (x23.toNat * ((kInt .i64)).sz)) A6) = A239 at hF hcut241
                   generalize c7 - x23.toNat = c240 at hF hcut241
                   have hS := hS.addFact (f := fSl (kInt .i64) A239 c240 ((x5.take x5.length).drop x23.toNat)) hcut241
                   refine sq_nil (then_j ⟨?_, ?_⟩)
                   · exact fun _ _ => (hS.keep (List.Sublist.refl _) (List.nil_sublist _) ⟨⟨3, rfl⟩, ⟨4, rfl⟩, ⟨5, rfl⟩, trivial⟩)
                   ·
                    have hQC : (fun _ => St M w0 [] [] [fSl k_TAct A59 c60 x53.Mod.Acts, fAt k_TChange (p55.add (x8.toNat * 32)) (TChange.enc x53 A59 c60) x53, fSl k_TChange A0_0 c0_0 u0]) W W := (hS.keep (List.Sublist.refl _) (List.nil_sublist _) ⟨⟨3, rfl⟩, ⟨4, rfl⟩, ⟨5, rfl⟩, trivial⟩)
                    refine e_listed (listed' := #[true, true, true, true, true, true, true, true, true, true, true, false, true, true, true, false, false]) (by kernel_rfl) ?_
                    refine e_one (listed' := #[true, true, true, true, true, true, true, true, true, true, true, true, true, true, true, false, false]) 11 rfl (by kernel_rfl) (by kernel_rfl) ?_
                    refine sq_append (ys := ([x53.Unit])) hF hS (i := 1) rfl rfl rfl (hS.rw_ (i := 0) rfl).src psl76 pb3 pz3 rfl (by decide) (by decide) hx66 (by decide) (fun A242 c243 a W hF hS => ?_)
                    refine sq_nil (then_j ⟨?_, ?_⟩)
                    · exact fun _ _ => (hS.keep (List.Sublist.refl _) (List.nil_sublist _) ⟨⟨3, rfl⟩, ⟨4, rfl⟩, ⟨5, rfl⟩, trivial⟩)
                    ·
                     have hQC : (fun _ => St M w0 [] [] [fSl k_TAct A59 c60 x53.Mod.Acts, fAt k_TChange (p55.add (x8.toNat * 32)) (TChange.enc x53 A59 c60) x53, fSl k_TChange A0_0 c0_0 u0]) W W := (hS.keep (List.Sublist.refl _) (List.nil_sublist _) ⟨⟨3, rfl⟩, ⟨4, rfl⟩, ⟨5, rfl⟩, trivial⟩)
                     refine e_one (listed' := #[true, true, true, true, true, true, true, true, true, true, true, true, true, true, true, true, false]) 15 rfl (by kernel_rfl) (by kernel_rfl) ?_
                     refine sq_append (ys := ((x5.take x5.length).drop x23.toNat)) hF hS (i := 1) rfl rfl rfl (SlR.src (hS.fc (i := 0) rfl)) psl76 pb3 pz3 rfl (by decide) (by decide) hx69 (by decide) (fun A244 c245 a W hF hS => ?_)
                     refine sq_nil (then_j ⟨?_, ?_⟩)
                     · exact fun _ _ => (hS.keep (List.Sublist.refl _) (List.nil_sublist _) ⟨⟨3, rfl⟩, ⟨4, rfl⟩, ⟨5, rfl⟩, trivial⟩)
                     ·
                      have hQC : (fun _ => St M w0 [] [] [fSl k_TAct A59 c60 x53.Mod.Acts, fAt k_TChange (p55.add (x8.toNat * 32)) (TChange.enc x53 A59 c60) x53, fSl k_TChange A0_0 c0_0 u0]) W W := (hS.keep (List.Sublist.refl _) (List.nil_sublist _) ⟨⟨3, rfl⟩, ⟨4, rfl⟩, ⟨5, rfl⟩, trivial⟩)
                      refine e_val (listed' := #[true, true, true, true, true, true, true, true, true, true, true, true, true, true, true, true, true]) 16 rfl (by kernel_rfl) (by kernel_rfl) (fun _ _ _ h => h) (fun W => (v_assign hF rfl)) hF (by decide) (fun a hF => ?_)
                      refine e_done (by kernel_rfl) ?_ _
                      obtain rfl := Option.some.inj h
                      exact then_j ⟨x68, A244, c245, rfl, (hF.keep ⟨rfl, rfl, rfl, trivial⟩), (hS.keep (List.Sublist.refl _) (.cons _ (List.Sublist.refl _)) ⟨⟨5, rfl⟩, trivial⟩)⟩
                ·
                 refine sq_val (v_slice (κ := (kInt .i64)) (lo := x23.toNat) (hi := x5.length) hF rfl rfl rfl psl76 (.inr ⟨_, _, rfl, by omega, rfl⟩) (.inl ⟨rfl, rfl⟩) (by omega) (by omega) (hS.fc (i := 1) rfl).1) hF (by decide) (fun a hF => ?_)
                 have hcut248 := SlR.cut (xs := x5) (hS.fc (i := 1) rfl) (lo := x23.toNat) (hi := x5.length) (by omega) (by omega)
                 generalize (if c7 = x23.toNat then A6 else Option.map (fun (q : Addr) => q.add (x23.toNat * ((kInt .i64)).sz)) A6) = A246 at hF hcut248
                 generalize c7 - x23.toNat = c247 at hF hcut248
                 have hS := hS.addFact (f := fSl (kInt .i64) A246 c247 ((x5.take x5.length).drop x23.toNat)) hcut248
                 refine sq_nil (then_j ⟨?_, ?_⟩)
                 · exact fun _ _ => (hS.keep (List.Sublist.refl _) (List.nil_sublist _) ⟨⟨3, rfl⟩, ⟨4, rfl⟩, ⟨5, rfl⟩, trivial⟩)
                 ·
                  have hQC : (fun _ => St M w0 [] [] [fSl k_TAct A59 c60 x53.Mod.Acts, fAt k_TChange (p55.add (x8.toNat * 32)) (TChange.enc x53 A59 c60) x53, fSl k_TChange A0_0 c0_0 u0]) W W := (hS.keep (List.Sublist.refl _) (List.nil_sublist _) ⟨⟨3, rfl⟩, ⟨4, rfl⟩, ⟨5, rfl⟩, trivial⟩)
                  refine e_listed (listed' := #[true, true, true, true, true, true, true, true, true, true, false, false, true, true, true, false, false]) (by kernel_rfl) ?_
                  refine e_one (listed' := #[true, true, true, true, true, true, true, true, true, true, true, false, true, true, true, false, false]) 10 rfl (by kernel_rfl) (by kernel_rfl) ?_
                  refine sq_buildSlice (κ := (kInt .i64)) (xs := [.tmp 55]) (ys := [x53.Unit]) hF hS rfl rfl rfl (Els.cons rfl (Els.nil _ _ _)) rfl psl76 pz3 rfl (by decide) (by decide) (by decide) (fun A249 c250 a W hF hS => ?_)
                  refine sq_nil (then_j ⟨?_, ?_⟩)
                  · exact fun _ _ => (hS.keep (List.Sublist.refl _) (List.nil_sublist _) ⟨⟨3, rfl⟩, ⟨4, rfl⟩, ⟨5, rfl⟩, trivial⟩)
                  ·
                   have hQC : (fun _ => St M w0 [] [] [fSl k_TAct A59 c60 x53.Mod.Acts, fAt k_TChange (p55.add (x8.toNat * 32)) (TChange.enc x53 A59 c60) x53, fSl k_TChange A0_0 c0_0 u0]) W W := (hS.keep (List.Sublist.refl _) (List.nil_sublist _) ⟨⟨3, rfl⟩, ⟨4, rfl⟩, ⟨5, rfl⟩, trivial⟩)
                   refine e_one (listed' := #[true, true, true, true, true, true, true, true, true, true, true, true, true, true, true, false, false]) 11 rfl (by kernel_rfl) (by kernel_rfl) ?_
                   refine sq_append (ys := ([x53.Unit])) hF hS (i := 1) rfl rfl rfl (hS.rw_ (i := 0) rfl).src psl76 pb3 pz3 rfl (by decide) (by decide) hx66 (by decide) (fun A251 c252 a W hF hS => ?_)
                   refine sq_nil (then_j ⟨?_, ?_⟩)
                   · exact fun _ _ => (hS.keep (List.Sublist.refl _) (List.nil_sublist _) ⟨⟨3, rfl⟩, ⟨4, rfl⟩, ⟨5, rfl⟩, trivial⟩)
                   ·
                    have hQC : (fun _ => St M w0 [] [] [fSl k_TAct A59 c60 x53.Mod.Acts, fAt k_TChange (p55.add (x8.toNat * 32)) (TChange.enc x53 A59 c60) x53, fSl k_TChange A0_0 c0_0 u0]) W W := (hS.keep (List.Sublist.refl _) (List.nil_sublist _) ⟨⟨3, rfl⟩, ⟨4, rfl⟩, ⟨5, rfl⟩, trivial⟩)
                    refine e_one (listed' := #[true, true, true, true, true, true, true, true, true, true, true, true, true, true, true, true, false]) 15 rfl (by kernel_rfl) (by kernel_rfl) ?_
                    refine sq_append (ys := ((x5.take x5.length).drop x23.toNat)) hF hS (i := 1) rfl rfl rfl (SlR.src (hS.fc (i := 0) rfl)) psl76 pb3 pz3 rfl (by decide) (by decide) hx69 (by decide) (fun A253 c254 a W hF hS => ?_)
                    refine sq_nil (then_j ⟨?_, ?_⟩)
                    · exact fun _ _ => (hS.keep (List.Sublist.refl _) (List.nil_sublist _) ⟨⟨3, rfl⟩, ⟨4, rfl⟩, ⟨5, rfl⟩, trivial⟩)
                    ·
                     have hQC : (fun _ => St M w0 [] [] [fSl k_TAct A59 c60 x53.Mod.Acts, fAt k_TChange (p55.add (x8.toNat * 32)) (TChange.enc x53 A59 c60) x53, fSl k_TChange A0_0 c0_0 u0]) W W := (hS.keep (List.Sublist.refl _) (List.nil_sublist _) ⟨⟨3, rfl⟩, ⟨4, rfl⟩, ⟨5, rfl⟩, trivial⟩)
                     refine e_val (listed' := #[true, true, true, true, true, true, true, true, true, true, true, true, true, true, true, true, true]) 16 rfl (by kernel_rfl) (by kernel_rfl) (fun _ _ _ h => h) (fun W => (v_assign hF rfl)) hF (by decide) (fun a hF => ?_)
                     refine e_done (by kernel_rfl) ?_ _
                     obtain rfl := Option.some.inj h
                     exact then_j ⟨x68, A253, c254, rfl, (hF.keep ⟨rfl, rfl, rfl, trivial⟩), (hS.keep (List.Sublist.refl _) (.cons _ (List.Sublist.refl _)) ⟨⟨5, rfl⟩, trivial⟩)⟩
              ·
               refine sq_buildSlice (κ := (kInt .i64)) (xs := [.tmp 55]) (ys := [x53.Unit]) hF hS rfl rfl rfl (Els.cons rfl (Els.nil _ _ _)) rfl psl76 pz3 rfl (by decide) (by decide) (by decide) (fun A255 c256 a W hF hS => ?_)
               refine sq_nil (then_j ⟨?_, ?_⟩)
               · exact fun _ _ => (hS.keep (List.Sublist.refl _) (List.nil_sublist _) ⟨⟨2, rfl⟩, ⟨3, rfl⟩, ⟨4, rfl⟩, trivial⟩)
               ·
                have hQC : (fun _ => St M w0 [] [] [fSl k_TAct A59 c60 x53.Mod.Acts, fAt k_TChange (p55.add (x8.toNat * 32)) (TChange.enc x53 A59 c60) x53, fSl k_TChange A0_0 c0_0 u0]) W W := (hS.keep (List.Sublist.refl _) (List.nil_sublist _) ⟨⟨2, rfl⟩, ⟨3, rfl⟩, ⟨4, rfl⟩, trivial⟩)
                refine e_listed (listed' := #[true, true, true, true, false, true, true, true, true, true, true, false, true, true, false, false, false]) (by kernel_rfl) ?_
                refine e_many [4, 14] (by kernel_rfl) (by decide) ⟨⟨_, rfl, ?_⟩, ⟨_, rfl, ?_⟩, trivial⟩
                ·
                 refine sq_append (ys := ((x5.take x23.toNat).drop 0)) hF hS (i := 1) rfl rfl rfl (SlR.src (hS.fc (i := 0) rfl)) psl76 pb3 pz3 rfl (by decide) (by decide) hx64 (by decide) (fun A257 c258 a W hF hS => ?_)
                 refine sq_nil (then_j ⟨?_, ?_⟩)
                 · exact fun _ _ => (hS.keep (List.Sublist.refl _) (List.nil_sublist _) ⟨⟨2, rfl⟩, ⟨3, rfl⟩, ⟨4, rfl⟩, trivial⟩)
                 ·
                  have hQC : (fun _ => St M w0 [] [] [fSl k_TAct A59 c60 x53.Mod.Acts, fAt k_TChange (p55.add (x8.toNat * 32)) (TChange.enc x53 A59 c60) x53, fSl k_TChange A0_0 c0_0 u0]) W W := (hS.keep (List.Sublist.refl _) (List.nil_sublist _) ⟨⟨2, rfl⟩, ⟨3, rfl⟩, ⟨4, rfl⟩, trivial⟩)
                  refine e_listed (listed' := #[true, true, true, true, true, true, true, true, true, true, true, false, true, true, false, false, false]) (by kernel_rfl) ?_
                  refine e_many [11, 14] (by kernel_rfl) (by decide) ⟨⟨_, rfl, ?_⟩, ⟨_, rfl, ?_⟩, trivial⟩
                  ·
                   refine sq_append (ys := ([x53.Unit])) hF hS (i := 1) rfl rfl rfl (hS.rw_ (i := 0) rfl).src psl76 pb3 pz3 rfl (by decide) (by decide) hx66 (by decide) (fun A259 c260 a W hF hS => ?_)
                   refine sq_nil (then_j ⟨?_, ?_⟩)
                   · exact fun _ _ => (hS.keep (List.Sublist.refl _) (List.nil_sublist _) ⟨⟨2, rfl⟩, ⟨3, rfl⟩, ⟨4, rfl⟩, trivial⟩)
                   ·
                    have hQC : (fun _ => St M w0 [] [] [fSl k_TAct A59 c60 x53.Mod.Acts, fAt k_TChange (p55.add (x8.toNat * 32)) (TChange.enc x53 A59 c60) x53, fSl k_TChange A0_0 c0_0 u0]) W W := (hS.keep (List.Sublist.refl _) (List.nil_sublist _) ⟨⟨2, rfl⟩, ⟨3, rfl⟩, ⟨4, rfl⟩, trivial⟩)
                    refine e_listed (listed' := #[true, true, true, true, true, true, true, true, true, true, true, true, true, true, false, false, false]) (by kernel_rfl) ?_
                    refine e_one (listed' := #[true, true, true, true, true, true, true, true, true, true, true, true, true, true, true, false, false]) 14 rfl (by kernel_rfl) (by kernel_rfl) ?_
                    refine sq_val (v_slice (κ := (kInt .i64)) (lo := x23.toNat) (hi := x5.length) hF rfl rfl rfl psl76 (.inr ⟨_, _, rfl, by omega, rfl⟩) (.inl ⟨rfl, rfl⟩) (by omega) (by omega) (hS.fc (i := 1) rfl).1) hF (by decide) (fun a hF => ?_)
                    have hcut263 := SlR.cut (xs := x5) (hS.fc (i := 1) rfl) (lo := x23.toNat) (hi := x5.length) (by omega) (by omega)
                    generalize (if c7 = x23.toNat then A6 else Option.map (fun (q : Addr) => q.add (x23.toNat * ((kInt .i64)).sz)) A6) = A261 at hF hcut263
                    generalize c7 - x23.toNat = c262 at hF hcut263
                    have hS := hS.addFact (f := fSl (kInt .i64) A261 c262 ((x5.take x5.length).drop x23.toNat)) hcut263
                    refine sq_nil (then_j ⟨?_, ?_⟩)
                    · exact fun _ _ => (hS.keep (List.Sublist.refl _) (List.nil_sublist _) ⟨⟨3, rfl⟩, ⟨4, rfl⟩, ⟨5, rfl⟩, trivial⟩)
                    ·
                     have hQC : (fun _ => St M w0 [] [] [fSl k_TAct A59 c60 x53.Mod.Acts, fAt k_TChange (p55.add (x8.toNat * 32)) (TChange.enc x53 A59 c60) x53, fSl k_TChange A0_0 c0_0 u0]) W W := (hS.keep (List.Sublist.refl _) (List.nil_sublist _) ⟨⟨3, rfl⟩, ⟨4, rfl⟩, ⟨5, rfl⟩, trivial⟩)
                     refine e_one (listed' := #[true, true, true, true, true, true, true, true, true, true, true, true, true, true, true, true, false]) 15 rfl (by kernel_rfl) (by kernel_rfl) ?_
                     refine sq_append (ys := ((x5.take x5.length).drop x23.toNat)) hF hS (i := 1) rfl rfl rfl (SlR.src (hS.fc (i := 0) rfl)) psl76 pb3 pz3 rfl (by decide) (by decide) hx69 (by decide) (fun A264 c265 a W hF hS => ?_)
                     refine sq_nil (then_j ⟨?_, ?_⟩)
                     · exact fun _ _ => (hS.keep (List.Sublist.refl _) (List.nil_sublist _) ⟨⟨3, rfl⟩, ⟨4, rfl⟩, ⟨5, rfl⟩, trivial⟩)
                     ·
                      have hQC : (fun _ => St M w0 [] [] [fSl k_TAct A59 c60 x53.Mod.Acts, fAt k_TChange (p55.add (x8.toNat * 32)) (TChange.enc x53 A59 c60) x53, fSl k_TChange A0_0 c0_0 u0]) W W := (hS.keep (List.Sublist.refl _) (List.nil_sublist _) ⟨⟨3, rfl⟩, ⟨4, rfl⟩, ⟨5, rfl⟩, trivial⟩)
                      refine e_val (listed' := #[true, true, true, true, true, true, true, true, true, true, true, true, true, true, true, true, true]) 16 rfl (by kernel_rfl) (by kernel_rfl) (fun _ _ _ h => h) (fun W => (v_assign hF rfl)) hF (by decide) (fun a hF => ?_)
                      refine e_done (by kernel_rfl) ?_ _
                      obtain rfl := Option.some.inj h
                      exact then_j ⟨x68, A264, c265, rfl, (hF.keep ⟨rfl, rfl, rfl, trivial⟩), (hS.keep (List.Sublist.refl _) (.cons _ (List.Sublist.refl _)) ⟨⟨5, rfl⟩, trivial⟩)⟩
                  ·
                   refine sq_val (v_slice (κ := (kInt .i64)) (lo := x23.toNat) (hi := x5.length) hF rfl rfl rfl psl76 (.inr ⟨_, _, rfl, by omega, rfl⟩) (.inl ⟨rfl, rfl⟩) (by omega) (by omega) (hS.fc (i := 1) rfl).1) hF (by decide) (fun a hF => ?_)
                   have hcut268 := SlR.cut (xs := x5) (hS.fc (i := 1) rfl) (lo := x23.toNat) (hi := x5.length) (by omega) (by omega)
                   generalize (if c7 = x23.toNat then A6 else Option.map (fun (q : Addr) => q.add (x23.toNat * ((kInt .i64)).sz)) A6) = A266 at hF hcut268
                   generalize c7 - x23.toNat = c267 at hF hcut268
                   have hS := hS.addFact (f := fSl (kInt .i64) A266 c267 ((x5.take x5.length).drop x23.toNat)) hcut268
                   refine sq_nil (then_j ⟨?_, ?_⟩)
                   · exact fun _ _ => (hS.keep (List.Sublist.refl _) (List.nil_sublist _) ⟨⟨3, rfl⟩, ⟨4, rfl⟩, ⟨5, rfl⟩, trivial⟩)
                   ·
                    have hQC : (fun _ => St M w0 [] [] [fSl k_TAct A59 c60 x53.Mod.Acts, fAt k_TChange (p55.add (x8.toNat * 32)) (TChange.enc x53 A59 c60) x53, fSl k_TChange A0_0 c0_0 u0]) W W := (hS.keep (List.Sublist.refl _) (List.nil_sublist _) ⟨⟨3, rfl⟩, ⟨4, rfl⟩, ⟨5, rfl⟩, trivial⟩)
                    refine e_listed (listed' := #[true, true, true, true, true, true, true, true, true, true, true, false, true, true, true, false, false]) (by kernel_rfl) ?_
                    refine e_one (listed' := #[true, true, true, true, true, true, true, true, true, true, true, true, true, true, true, false, false]) 11 rfl (by kernel_rfl) (by kernel_rfl) ?_
                    refine sq_append (ys := ([x53.Unit])) hF hS (i := 1) rfl rfl rfl (hS.rw_ (i := 0) rfl).src psl76 pb3 pz3 rfl (by decide) (by decide) hx66 (by decide) (fun A269 c270 a W hF hS => ?_)
                    refine sq_nil (then_j ⟨?_, ?_⟩)
                    · exact fun _ _ => (hS.keep (List.Sublist.refl _) (List.nil_sublist _) ⟨⟨3, rfl⟩, ⟨4, rfl⟩, ⟨5, rfl⟩, trivial⟩)
                    ·
                     have hQC : (fun _ => St M w0 [] [] [fSl k_TAct A59 c60 x53.Mod.Acts, fAt k_TChange (p55.add (x8.toNat * 32)) (TChange.enc x53 A59 c60) x53, fSl k_TChange A0_0 c0_0 u0]) W W := (hS.keep (List.Sublist.refl _) (List.nil_sublist _) ⟨⟨3, rfl⟩, ⟨4, rfl⟩, ⟨5, rfl⟩, trivial⟩)
                     refine e_one (listed' := #[true, true, true, true, true, true, true, true, true, true, true, true, true, true, true, true, false]) 15 rfl (by kernel_rfl) (by kernel_rfl) ?_
                     refine sq_append (ys := ((x5.take x5.length).drop x23.toNat)) hF hS (i := 1) rfl rfl rfl (SlR.src (hS.fc (i := 0) rfl)) psl76 pb3 pz3 rfl (by decide) (by decide) hx69 (by decide) (fun A271 c272 a W hF hS => ?_)
                     refine sq_nil (then_j ⟨?_, ?_⟩)
                     · exact fun _ _ => (hS.keep (List.Sublist.refl _) (List.nil_sublist _) ⟨⟨3, rfl⟩, ⟨4, rfl⟩, ⟨5, rfl⟩, trivial⟩)
                     ·
                      have hQC : (fun _ => St M w0 [] [] [fSl k_TAct A59 c60 x53.Mod.Acts, fAt k_TChange (p55.add (x8.toNat * 32)) (TChange.enc x53 A59 c60) x53, fSl k_TChange A0_0 c0_0 u0]) W W := (hS.keep (List.Sublist.refl _) (List.nil_sublist _) ⟨⟨3, rfl⟩, ⟨4, rfl⟩, ⟨5, rfl⟩, trivial⟩)
                      refine e_val (listed' := #[true, true, true, true, true, true, true, true, true, true, true, true, true, true, true, true, true]) 16 rfl (by kernel_rfl) (by kernel_rfl) (fun _ _ _ h => h) (fun W => (v_assign hF rfl)) hF (by decide) (fun a hF => ?_)
                      refine e_done (by kernel_rfl) ?_ _
                      obtain rfl := Option.some.inj h
                      exact then_j ⟨x68, A271, c272, rfl, (hF.keep ⟨rfl, rfl, rfl, trivial⟩), (hS.keep (List.Sublist.refl _) (.cons _ (List.Sublist.refl _)) ⟨⟨5, rfl⟩, trivial⟩)⟩
                ·
                 refine sq_val (v_slice (κ := (kInt .i64)) (lo := x23.toNat) (hi := x5.length) hF rfl rfl rfl psl76 (.inr ⟨_, _, rfl, by omega, rfl⟩) (.inl ⟨rfl, rfl⟩) (by omega) (by omega) (hS.fc (i := 1) rfl).1) hF (by decide) (fun a hF => ?_)
                 have hcut275 := SlR.cut (xs := x5) (hS.fc (i := 1) rfl) (lo := x23.toNat) (hi := x5.length) (by omega) (by omega)
                 generalize (if c7 = x23.toNat then A6 else Option.map (fun (q : Addr) => q.add (x23.toNat * ((kInt .i64)).sz)) A6) = A273 at hF hcut275
                 generalize c7 - x23.toNat = c274 at hF hcut275
                 have hS := hS.addFact (f := fSl (kInt .i64) A273 c274 ((x5.take x5.length).drop x23.toNat)) hcut275
                 refine sq_nil (then_j ⟨?_, ?_⟩)
                 · exact fun _ _ => (hS.keep (List.Sublist.refl _) (List.nil_sublist _) ⟨⟨3, rfl⟩, ⟨4, rfl⟩, ⟨5, rfl⟩, trivial⟩)
                 ·
                  have hQC : (fun _ => St M w0 [] [] [fSl k_TAct A59 c60 x53.Mod.Acts, fAt k_TChange (p55.add (x8.toNat * 32)) (TChange.enc x53 A59 c60) x53, fSl k_TChange A0_0 c0_0 u0]) W W := (hS.keep (List.Sublist.refl _) (List.nil_sublist _) ⟨⟨3, rfl⟩, ⟨4, rfl⟩, ⟨5, rfl⟩, trivial⟩)
                  refine e_listed (listed' := #[true, true, true, true, false, true, true, true, true, true, true, false, true, true, true, false, false]) (by kernel_rfl) ?_
                  refine e_one (listed' := #[true, true, true, true, true, true, true, true, true, true, true, false, true, true, true, false, false]) 4 rfl (by kernel_rfl) (by kernel_rfl) ?_
                  refine sq_append (ys := ((x5.take x23.toNat).drop 0)) hF hS (i := 1) rfl rfl rfl (SlR.src (hS.fc (i := 1) rfl)) psl76 pb3 pz3 rfl (by decide) (by decide) hx64 (by decide) (fun A276 c277 a W hF hS => ?_)
                  refine sq_nil (then_j ⟨?_, ?_⟩)
                  · exact fun _ _ => (hS.keep (List.Sublist.refl _) (List.nil_sublist _) ⟨⟨3, rfl⟩, ⟨4, rfl⟩, ⟨5, rfl⟩, trivial⟩)
                  ·
                   have hQC : (fun _ => St M w0 [] [] [fSl k_TAct A59 c60 x53.Mod.Acts, fAt k_TChange (p55.add (x8.toNat * 32)) (TChange.enc x53 A59 c60) x53, fSl k_TChange A0_0 c0_0 u0]) W W := (hS.keep (List.Sublist.refl _) (List.nil_sublist _) ⟨⟨3, rfl⟩, ⟨4, rfl⟩, ⟨5, rfl⟩, trivial⟩)
                   refine e_one (listed' := #[true, true, true, true, true, true, true, true, true, true, true, true, true, true, true, false, false]) 11 rfl (by kernel_rfl) (by kernel_rfl) ?_
                   refine sq_append (ys := ([x53.Unit])) hF hS (i := 1) rfl rfl rfl (hS.rw_ (i := 0) rfl).src psl76 pb3 pz3 rfl (by decide) (by decide) hx66 (by decide) (fun A278 c279 a W hF hS => ?_)
                   refine sq_nil (then_j ⟨?_, ?_⟩)
                   · exact fun _ _ => (hS.keep (List.Sublist.refl _) (List.nil_sublist _) ⟨⟨3, rfl⟩, ⟨4, rfl⟩, ⟨5, rfl⟩, trivial⟩)
                   ·
                    have hQC : (fun _ => St M w0 [] [] [fSl k_TAct A59 c60 x53.Mod.Acts, fAt k_TChange (p55.add (x8.toNat * 32)) (TChange.enc x53 A59 c60) x53, fSl k_TChange A0_0 c0_0 u0]) W W := (hS.keep (List.Sublist.refl _) (List.nil_sublist _) ⟨⟨3, rfl⟩, ⟨4, rfl⟩, ⟨5, rfl⟩, trivial⟩)
                    refine e_one (listed' := #[true, true, true, true, true, true, true, true, true, true, true, true, true, true, true, true, false]) 15 rfl (by kernel_rfl) (by kernel_rfl) ?_
                    refine sq_append (ys := ((x5.take x5.length).drop x23.toNat)) hF hS (i := 1) rfl rfl rfl (SlR.src (hS.fc (i := 0) rfl)) psl76 pb3 pz3 rfl (by decide) (by decide) hx69 (by decide) (fun A280 c281 a W hF hS => ?_)
                    refine sq_nil (then_j ⟨?_, ?_⟩)
                    · exact fun _ _ => (hS.keep (List.Sublist.refl _) (List.nil_sublist _) ⟨⟨3, rfl⟩, ⟨4, rfl⟩, ⟨5, rfl⟩, trivial⟩)
                    ·
                     have hQC : (fun _ => St M w0 [] [] [fSl k_TAct A59 c60 x53.Mod.Acts, fAt k_TChange (p55.add (x8.toNat * 32)) (TChange.enc x53 A59 c60) x53, fSl k_TChange A0_0 c0_0 u0]) W W := (hS.keep (List.Sublist.refl _) (List.nil_sublist _) ⟨⟨3, rfl⟩, ⟨4, rfl⟩, ⟨5, rfl⟩, trivial⟩)
                     refine e_val (listed' := #[true, true, true, true, true, true, true, true, true, true, true, true, true, true, true, true, true]) 16 rfl (by kernel_rfl) (by kernel_rfl) (fun _ _ _ h => h) (fun W => (v_assign hF rfl)) hF (by decide) (fun a hF => ?_)
                     refine e_done (by kernel_rfl) ?_ _
                     obtain rfl := Option.some.inj h
                     exact then_j ⟨x68, A280, c281, rfl, (hF.keep ⟨rfl, rfl, rfl, trivial⟩), (hS.keep (List.Sublist.refl _) (.cons _ (List.Sublist.refl _)) ⟨⟨5, rfl⟩, trivial⟩)⟩
              ·
               refine sq_val (v_slice (κ := (kInt .i64)) (lo := x23.toNat) (hi := x5.length) hF rfl rfl rfl psl76 (.inr ⟨_, _, rfl, by omega, rfl⟩) (.inl ⟨rfl, rfl⟩) (by omega) (by omega) (hS.fc (i := 1) rfl).1) hF (by decide) (fun a hF => ?_)
               have hcut284 := SlR.cut (xs := x5) (hS.fc (i := 1) rfl) (lo := x23.toNat) (hi := x5.length) (by omega) (by omega)
               generalize (if c7 = x23.toNat then A6 else Option.map (fun (q : Addr) => q.add (x23.toNat * ((kInt .i64)).sz)) A6) = A282 at hF hcut284
               generalize c7 - x23.toNat = c283 at hF hcut284
               have hS := hS.addFact (f := fSl (kInt .i64) A282 c283 ((x5.take x5.length).drop x23.toNat)) hcut284
               refine sq_nil (then_j ⟨?_, ?_⟩)
               · exact fun _ _ => (hS.keep (List.Sublist.refl _) (List.nil_sublist _) ⟨⟨3, rfl⟩, ⟨4, rfl⟩, ⟨5, rfl⟩, trivial⟩)
               ·
                have hQC : (fun _ => St M w0 [] [] [fSl k_TAct A59 c60 x53.Mod.Acts, fAt k_TChange (p55.add (x8.toNat * 32)) (TChange.enc x53 A59 c60) x53, fSl k_TChange A0_0 c0_0 u0]) W W := (hS.keep (List.Sublist.refl _) (List.nil_sublist _) ⟨⟨3, rfl⟩, ⟨4, rfl⟩, ⟨5, rfl⟩, trivial⟩)
                refine e_listed (listed' := #[true, true, true, true, false, true, true, true, true, true, false, false, true, true, true, false, false]) (by kernel_rfl) ?_
                refine e_many [4, 10] (by kernel_rfl) (by decide) ⟨⟨_, rfl, ?_⟩, ⟨_, rfl, ?_⟩, trivial⟩
                ·
                 refine sq_append (ys := ((x5.take x23.toNat).drop 0)) hF hS (i := 0) rfl rfl rfl (SlR.src (hS.fc (i := 1) rfl)) psl76 pb3 pz3 rfl (by decide) (by decide) hx64 (by decide) (fun A285 c286 a W hF hS => ?_)
                 refine sq_nil (then_j ⟨?_, ?_⟩)
                 · exact fun _ _ => (hS.keep (List.Sublist.refl _) (List.nil_sublist _) ⟨⟨3, rfl⟩, ⟨4, rfl⟩, ⟨5, rfl⟩, trivial⟩)
                 ·
                  have hQC : (fun _ => St M w0 [] [] [fSl k_TAct A59 c60 x53.Mod.Acts, fAt k_TChange (p55.add (x8.toNat * 32)) (TChange.enc x53 A59 c60) x53, fSl k_TChange A0_0 c0_0 u0]) W W := (hS.keep (List.Sublist.refl _) (List.nil_sublist _) ⟨⟨3, rfl⟩, ⟨4, rfl⟩, ⟨5, rfl⟩, trivial⟩)
                  refine e_listed (listed' := #[true, true, true, true, true, true, true, true, true, true, false, false, true, true, true, false, false]) (by kernel_rfl) ?_
                  refine e_one (listed' := #[true, true, true, true, true, true, true, true, true, true, true, false, true, true, true, false, false]) 10 rfl (by kernel_rfl) (by kernel_rfl) ?_
                  refine sq_buildSlice (κ := (kInt .i64)) (xs := [.tmp 55]) (ys := [x53.Unit]) hF hS rfl rfl rfl (Els.cons rfl (Els.nil _ _ _)) rfl psl76 pz3 rfl (by decide) (by decide) (by decide) (fun A287 c288 a W hF hS => ?_)
                  refine sq_nil (then_j ⟨?_, ?_⟩)
                  · exact fun _ _ => (hS.keep (List.Sublist.refl _) (List.nil_sublist _) ⟨⟨3, rfl⟩, ⟨4, rfl⟩, ⟨5, rfl⟩, trivial⟩)
                  ·
                   have hQC : (fun _ => St M w0 [] [] [fSl k_TAct A59 c60 x53.Mod.Acts, fAt k_TChange (p55.add (x8.toNat * 32)) (TChange.enc x53 A59 c60) x53, fSl k_TChange A0_0 c0_0 u0]) W W := (hS.keep (List.Sublist.refl _) (List.nil_sublist _) ⟨⟨3, rfl⟩, ⟨4, rfl⟩, ⟨5, rfl⟩, trivial⟩)
                   refine e_one (listed' := #[true, true, true, true, true, true, true, true, true, true, true, true, true, true, true, false, false]) 11 rfl (by kernel_rfl) (by kernel_rfl) ?_
                   refine sq_append (ys := ([x53.Unit])) hF hS (i := 1) rfl rfl rfl (hS.rw_ (i := 0) rfl).src psl76 pb3 pz3 rfl (by decide) (by decide) hx66 (by decide) (fun A289 c290 a W hF hS => ?_)
                   refine sq_nil (then_j ⟨?_, ?_⟩)
                   · exact fun _ _ => (hS.keep (List.Sublist.refl _) (List.nil_sublist _) ⟨⟨3, rfl⟩, ⟨4, rfl⟩, ⟨5, rfl⟩, trivial⟩)
                   ·
                    have hQC : (fun _ => St M w0 [] [] [fSl k_TAct A59 c60 x53.Mod.Acts, fAt k_TChange (p55.add (x8.toNat * 32)) (TChange.enc x53 A59 c60) x53, fSl k_TChange A0_0 c0_0 u0]) W W := (hS.keep (List.Sublist.refl _) (List.nil_sublist _) ⟨⟨3, rfl⟩, ⟨4, rfl⟩, ⟨5, rfl⟩, trivial⟩)
                    refine e_one (listed' := #[true, true, true, true, true, true, true, true, true, true, true, true, true, true, true, true, false]) 15 rfl (by kernel_rfl) (by kernel_rfl) ?_
                    refine sq_append (ys := ((x5.take x5.length).drop x23.toNat)) hF hS (i := 1) rfl rfl rfl (SlR.src (hS.fc (i := 0) rfl)) psl76 pb3 pz3 rfl (by decide) (by decide) hx69 (by decide) (fun A291 c292 a W hF hS => ?_)
                    refine sq_nil (then_j ⟨?_, ?_⟩)
                    · exact fun _ _ => (hS.keep (List.Sublist.refl _) (List.nil_sublist _) ⟨⟨3, rfl⟩, ⟨4, rfl⟩, ⟨5, rfl⟩, trivial⟩)
                    ·
                     have hQC : (fun _ => St M w0 [] [] [fSl k_TAct A59 c60 x53.Mod.Acts, fAt k_TChange (p55.add (x8.toNat * 32)) (TChange.enc x53 A59 c60) x53, fSl k_TChange A0_0 c0_0 u0]) W W := (hS.keep (List.Sublist.refl _) (List.nil_sublist _) ⟨⟨3, rfl⟩, ⟨4, rfl⟩, ⟨5, rfl⟩, trivial⟩)
                     refine e_val (listed' := #[true, true, true, true, true, true, true, true, true, true, true, true, true, true, true, true, true]) 16 rfl (by kernel_rfl) (by kernel_rfl) (fun _ _ _ h => h) (fun W => (v_assign hF rfl)) hF (by decide) (fun a hF => ?_)
                     refine e_done (by kernel_rfl) ?_ _
                     obtain rfl := Option.some.inj h
                     exact then_j ⟨x68, A291, c292, rfl, (hF.keep ⟨rfl, rfl, rfl, trivial⟩), (hS.keep (List.Sublist.refl _) (.cons _ (List.Sublist.refl _)) ⟨⟨5, rfl⟩, trivial⟩)⟩
                ·
                 refine sq_buildSlice (κ := (kInt .i64)) (xs := [.tmp 55]) (ys := [x53.Unit]) hF hS rfl rfl rfl (Els.cons rfl (Els.nil _ _ _)) rfl psl76 pz3 rfl (by decide) (by decide) (by decide) (fun A293 c294 a W hF hS => ?_)
                 refine sq_nil (then_j ⟨?_, ?_⟩)
                 · exact fun _ _ => (hS.keep (List.Sublist.refl _) (List.nil_sublist _) ⟨⟨3, rfl⟩, ⟨4, rfl⟩, ⟨5, rfl⟩, trivial⟩)
                 ·
                  have hQC : (fun _ => St M w0 [] [] [fSl k_TAct A59 c60 x53.Mod.Acts, fAt k_TChange (p55.add (x8.toNat * 32)) (TChange.enc x53 A59 c60) x53, fSl k_TChange A0_0 c0_0 u0]) W W := (hS.keep (List.Sublist.refl _) (List.nil_sublist _) ⟨⟨3, rfl⟩, ⟨4, rfl⟩, ⟨5, rfl⟩, trivial⟩)
                  refine e_listed (listed' := #[true, true, true, true, false, true, true, true, true, true, true, false, true, true, true, false, false]) (by kernel_rfl) ?_
                  refine e_one (listed' := #[true, true, true, true, true, true, true, true, true, true, true, false, true, true, true, false, false]) 4 rfl (by kernel_rfl) (by kernel_rfl) ?_
                  refine sq_append (ys := ((x5.take x23.toNat).drop 0)) hF hS (i := 1) rfl rfl rfl (SlR.src (hS.fc (i := 1) rfl)) psl76 pb3 pz3 rfl (by decide) (by decide) hx64 (by decide) (fun A295 c296 a W hF hS => ?_)
                  refine sq_nil (then_j ⟨?_, ?_⟩)
                  · exact fun _ _ => (hS.keep (List.Sublist.refl _) (List.nil_sublist _) ⟨⟨3, rfl⟩, ⟨4, rfl⟩, ⟨5, rfl⟩, trivial⟩)
                  ·
                   have hQC : (fun _ => St M w0 [] [] [fSl k_TAct A59 c60 x53.Mod.Acts, fAt k_TChange (p55.add (x8.toNat * 32)) (TChange.enc x53 A59 c60) x53, fSl k_TChange A0_0 c0_0 u0]) W W := (hS.keep (List.Sublist.refl _) (List.nil_sublist _) ⟨⟨3, rfl⟩, ⟨4, rfl⟩, ⟨5, rfl⟩, trivial⟩)
                   refine e_one (listed' := #[true, true, true, true, true, true, true, true, true, true, true, true, true, true, true, false, false]) 11 rfl (by kernel_rfl) (by kernel_rfl) ?_
                   refine sq_append (ys := ([x53.Unit])) hF hS (i := 1) rfl rfl rfl (hS.rw_ (i := 0) rfl).src psl76 pb3 pz3 rfl (by decide) (by decide) hx66 (by decide) (fun A297 c298 a W hF hS => ?_)
                   refine sq_nil (then_j ⟨?_, ?_⟩)
                   · exact fun _ _ => (hS.keep (List.Sublist.refl _) (List.nil_sublist _) ⟨⟨3, rfl⟩, ⟨4, rfl⟩, ⟨5, rfl⟩, trivial⟩)
                   ·
                    have hQC : (fun _ => St M w0 [] [] [fSl k_TAct A59 c60 x53.Mod.Acts, fAt k_TChange (p55.add (x8.toNat * 32)) (TChange.enc x53 A59 c60) x53, fSl k_TChange A0_0 c0_0 u0]) W W := (hS.keep (List.Sublist.refl _) (List.nil_sublist _) ⟨⟨3, rfl⟩, ⟨4, rfl⟩, ⟨5, rfl⟩, trivial⟩)
                    refine e_one (listed' := #[true, true, true, true, true, true, true, true, true, true, true, true, true, true, true, true, false]) 15 rfl (by kernel_rfl) (by kernel_rfl) ?_
                    refine sq_append (ys := ((x5.take x5.length).drop x23.toNat)) hF hS (i := 1) rfl rfl rfl (SlR.src (hS.fc (i := 0) rfl)) psl76 pb3 pz3 rfl (by decide) (by decide) hx69 (by decide) (fun A299 c300 a W hF hS => ?_)
                    refine sq_nil (then_j ⟨?_, ?_⟩)
                    · exact fun _ _ => (hS.keep (List.Sublist.refl _) (List.nil_sublist _) ⟨⟨3, rfl⟩, ⟨4, rfl⟩, ⟨5, rfl⟩, trivial⟩)
                    ·
                     have hQC : (fun _ => St M w0 [] [] [fSl k_TAct A59 c60 x53.Mod.Acts, fAt k_TChange (p55.add (x8.toNat * 32)) (TChange.enc x53 A59 c60) x53, fSl k_TChange A0_0 c0_0 u0]) W W := (hS.keep (List.Sublist.refl _) (List.nil_sublist _) ⟨⟨3, rfl⟩, ⟨4, rfl⟩, ⟨5, rfl⟩, trivial⟩)
                     refine e_val (listed' := #[true, true, true, true, true, true, true, true, true, true, true, true, true, true, true, true, true]) 16 rfl (by kernel_rfl) (by kernel_rfl) (fun _ _ _ h => h) (fun W => (v_assign hF rfl)) hF (by decide) (fun a hF => ?_)
                     refine e_done (by kernel_rfl) ?_ _
                     obtain rfl := Option.some.inj h
                     exact then_j ⟨x68, A299, c300, rfl, (hF.keep ⟨rfl, rfl, rfl, trivial⟩), (hS.keep (List.Sublist.refl _) (.cons _ (List.Sublist.refl _)) ⟨⟨5, rfl⟩, trivial⟩)⟩
            ·
             refine sq_buildSlice (κ := (kInt .i64)) (xs := [.tmp 55]) (ys := [x53.Unit]) hF hS rfl rfl rfl (Els.cons rfl (Els.nil _ _ _)) rfl psl76 pz3 rfl (by decide) (by decide) (by decide) (fun A301 c302 a W hF hS => ?_)
             refine sq_nil (then_j ⟨?_, ?_⟩)
             · exact fun _ _ => (hS.keep (List.Sublist.refl _) (List.nil_sublist _) ⟨⟨2, rfl⟩, ⟨3, rfl⟩, ⟨4, rfl⟩, trivial⟩)
             ·
              have hQC : (fun _ => St M w0 [] [] [fSl k_TAct A59 c60 x53.Mod.Acts, fAt k_TChange (p55.add (x8.toNat * 32)) (TChange.enc x53 A59 c60) x53, fSl k_TChange A0_0 c0_0 u0]) W W := (hS.keep (List.Sublist.refl _) (List.nil_sublist _) ⟨⟨2, rfl⟩, ⟨3, rfl⟩, ⟨4, rfl⟩, trivial⟩)
              refine e_listed (listed' := #[false, true, true, true, false, true, true, true, true, true, true, false, true, true, false, false, false]) (by kernel_rfl) ?_
              refine e_many [0, 14] (by kernel_rfl) (by decide) ⟨⟨_, rfl, ?_⟩, ⟨_, rfl, ?_⟩, trivial⟩
              ·
               refine sq_buildSlice (κ := (kInt .i64)) (xs := []) (ys := ([] : List Int)) hF hS rfl rfl rfl (Els.nil _ _ _) rfl psl76 pz3 rfl (by decide) (by decide) (by decide) (fun A303 c304 a W hF hS => ?_)
               refine sq_nil (then_j ⟨?_, ?_⟩)
               · exact fun _ _ => (hS.keep (List.Sublist.refl _) (List.nil_sublist _) ⟨⟨2, rfl⟩, ⟨3, rfl⟩, ⟨4, rfl⟩, trivial⟩)
               ·
                have hQC : (fun _ => St M w0 [] [] [fSl k_TAct A59 c60 x53.Mod.Acts, fAt k_TChange (p55.add (x8.toNat * 32)) (TChange.enc x53 A59 c60) x53, fSl k_TChange A0_0 c0_0 u0]) W W := (hS.keep (List.Sublist.refl _) (List.nil_sublist _) ⟨⟨2, rfl⟩, ⟨3, rfl⟩, ⟨4, rfl⟩, trivial⟩)
                refine e_listed (listed' := #[true, true, true, true, false, true, true, true, true, true, true, false, true, true, false, false, false]) (by kernel_rfl) ?_
                refine e_many [4, 14] (by kernel_rfl) (by decide) ⟨⟨_, rfl, ?_⟩, ⟨_, rfl, ?_⟩, trivial⟩
                ·
                 refine sq_append (ys := ((x5.take x23.toNat).drop 0)) hF hS (i := 0) rfl rfl rfl (SlR.src (hS.fc (i := 0) rfl)) psl76 pb3 pz3 rfl (by decide) (by decide) hx64 (by decide) (fun A305 c306 a W hF hS => ?_)
                 refine sq_nil (then_j ⟨?_, ?_⟩)
                 · exact fun _ _ => (hS.keep (List.Sublist.refl _) (List.nil_sublist _) ⟨⟨2, rfl⟩, ⟨3, rfl⟩, ⟨4, rfl⟩, trivial⟩)
                 ·
                  have hQC : (fun _ => St M w0 [] [] [fSl k_TAct A59 c60 x53.Mod.Acts, fAt k_TChange (p55.add (x8.toNat * 32)) (TChange.enc x53 A59 c60) x53, fSl k_TChange A0_0 c0_0 u0]) W W := (hS.keep (List.Sublist.refl _) (List.nil_sublist _) ⟨⟨2, rfl⟩, ⟨3, rfl⟩, ⟨4, rfl⟩, trivial⟩)
                  refine e_listed (listed' := #[true, true, true, true, true, true, true, true, true, true, true, false, true, true, false, false, false]) (by kernel_rfl) ?_
                  refine e_many [11, 14] (by kernel_rfl) (by decide) ⟨⟨_, rfl, ?_⟩, ⟨_, rfl, ?_⟩, trivial⟩
                  ·
                   refine sq_append (ys := ([x53.Unit])) hF hS (i := 0) rfl rfl rfl (hS.rw_ (i := 1) rfl).src psl76 pb3 pz3 rfl (by decide) (by decide) hx66 (by decide) (fun A307 c308 a W hF hS => ?_)
                   refine sq_nil (then_j ⟨?_, ?_⟩)
                   · exact fun _ _ => (hS.keep (List.Sublist.refl _) (List.nil_sublist _) ⟨⟨2, rfl⟩, ⟨3, rfl⟩, ⟨4, rfl⟩, trivial⟩)
                   ·
                    have hQC : (fun _ => St M w0 [] [] [fSl k_TAct A59 c60 x53.Mod.Acts, fAt k_TChange (p55.add (x8.toNat * 32)) (TChange.enc x53 A59 c60) x53, fSl k_TChange A0_0 c0_0 u0]) W W := (hS.keep (List.Sublist.refl _) (List.nil_sublist _) ⟨⟨2, rfl⟩, ⟨3, rfl⟩, ⟨4, rfl⟩, trivial⟩)
                    refine e_listed (listed' := #[true, true, true, true, true, true, true, true, true, true, true, true, true, true, false, false, false]) (by kernel_rfl) ?_
                    refine e_one (listed' := #[true, true, true, true, true, true, true, true, true, true, true, true, true, true, true, false, false]) 14 rfl (by kernel_rfl) (by kernel_rfl) ?_
                    refine sq_val (v_slice (κ := (kInt .i64)) (lo := x23.toNat) (hi := x5.length) hF rfl rfl rfl psl76 (.inr ⟨_, _, rfl, by omega, rfl⟩) (.inl ⟨rfl, rfl⟩) (by omega) (by omega) (hS.fc (i := 1) rfl).1) hF (by decide) (fun a hF => ?_)
                    have hcut311 := SlR.cut (xs := x5) (hS.fc (i := 1) rfl) (lo := x23.toNat) (hi := x5.length) (by omega) (by omega)
                    generalize (if c7 = x23.toNat then A6 else Option.map (fun (q : Addr) => q.add (x23.toNat * ((kInt .i64)).sz)) A6) = A309 at hF hcut311
                    generalize c7 - x23.toNat = c310 at hF hcut311
                    have hS := hS.addFact (f := fSl (kInt .i64) A309 c310 ((x5.take x5.length).drop x23.toNat)) hcut311
                    refine sq_nil (then_j ⟨?_, ?_⟩)
                    · exact fun _ _ => (hS.keep (List.Sublist.refl _) (List.nil_sublist _) ⟨⟨3, rfl⟩, ⟨4, rfl⟩, ⟨5, rfl⟩, trivial⟩)
                    ·
                     have hQC : (fun _ => St M w0 [] [] [fSl k_TAct A59 c60 x53.Mod.Acts, fAt k_TChange (p55.add (x8.toNat * 32)) (TChange.enc x53 A59 c60) x53, fSl k_TChange A0_0 c0_0 u0]) W W := (hS.keep (List.Sublist.refl _) (List.nil_sublist _) ⟨⟨3, rfl⟩, ⟨4, rfl⟩, ⟨5, rfl⟩, trivial⟩)
                     refine e_one (listed' := #[true, true, true, true, true, true, true, true, true, true, true, true, true, true, true, true, false]) 15 rfl (by kernel_rfl) (by kernel_rfl) ?_
                     refine sq_append (ys := ((x5.take x5.length).drop x23.toNat)) hF hS (i := 0) rfl rfl rfl (SlR.src (hS.fc (i := 0) rfl)) psl76 pb3 pz3 rfl (by decide) (by decide) hx69 (by decide) (fun A312 c313 a W hF hS => ?_)
                     refine sq_nil (then_j ⟨?_, ?_⟩)
                     · exact fun _ _ => (hS.keep (List.Sublist.refl _) (List.nil_sublist _) ⟨⟨3, rfl⟩, ⟨4, rfl⟩, ⟨5, rfl⟩, trivial⟩)
                     ·
                      have hQC : (fun _ => St M w0 [] [] [fSl k_TAct A59 c60 x53.Mod.Acts, fAt k_TChange (p55.add (x8.toNat * 32)) (TChange.enc x53 A59 c60) x53, fSl k_TChange A0_0 c0_0 u0]) W W := (hS.keep (List.Sublist.refl _) (List.nil_sublist _) ⟨⟨3, rfl⟩, ⟨4, rfl⟩, ⟨5, rfl⟩, trivial⟩)
                      refine e_val (listed' := #[true, true, true, true, true, true, true, true, true, true, true, true, true, true, true, true, true]) 16 rfl (by kernel_rfl) (by kernel_rfl) (fun _ _ _ h => h) (fun W => (v_assign hF rfl)) hF (by decide) (fun a hF => ?_)
                      refine e_done (by kernel_rfl) ?_ _
                      obtain rfl := Option.some.inj h
                      exact then_j ⟨x68, A312, c313, rfl, (hF.keep ⟨rfl, rfl, rfl, trivial⟩), (hS.keep (List.Sublist.refl _) (.cons_cons _ (List.nil_sublist _)) ⟨⟨5, rfl⟩, trivial⟩)⟩
                  ·
                   refine sq_val (v_slice (κ := (kInt .i64)) (lo := x23.toNat) (hi := x5.length) hF rfl rfl rfl psl76 (.inr ⟨_, _, rfl, by omega, rfl⟩) (.inl ⟨rfl, rfl⟩) (by omega) (by omega) (hS.fc (i := 1) rfl).1) hF (by decide) (fun a hF => ?_)
                   have hcut316 := SlR.cut (xs := x5) (hS.fc (i := 1) rfl) (lo := x23.toNat) (hi := x5.length) (by omega) (by omega)
                   generalize (if c7 = x23.toNat then A6 else Option.map (fun (q : Addr) => q.add (x23.toNat * ((kInt .i64)).sz)) A6) = A314 at hF hcut316
                   generalize c7 - x23.toNat = c315 at hF hcut316
                   have hS := hS.addFact (f := fSl (kInt .i64) A314 c315 ((x5.take x5.length).drop x23.toNat)) hcut316
                   refine sq_nil (then_j ⟨?_, ?_⟩)
                   · exact fun _ _ => (hS.keep (List.Sublist.refl _) (List.nil_sublist _) ⟨⟨3, rfl⟩, ⟨4, rfl⟩, ⟨5, rfl⟩, trivial⟩)
                   ·
                    have hQC : (fun _ => St M w0 [] [] [fSl k_TAct A59 c60 x53.Mod.Acts, fAt k_TChange (p55.add (x8.toNat * 32)) (TChange.enc x53 A59 c60) x53, fSl k_TChange A0_0 c0_0 u0]) W W := (hS.keep (List.Sublist.refl _) (List.nil_sublist _) ⟨⟨3, rfl⟩, ⟨4, rfl⟩, ⟨5, rfl⟩, trivial⟩)
                    refine e_listed (listed' := #[true, true, true, true, true, true, true, true, true, true, true, false, true, true, true, false, false]) (by kernel_rfl) ?_
                    refine e_one (listed' := #[true, true, true, true, true, true, true, true, true, true, true, true, true, true, true, false, false]) 11 rfl (by kernel_rfl) (by kernel_rfl) ?_
                    refine sq_append (ys := ([x53.Unit])) hF hS (i := 0) rfl rfl rfl (hS.rw_ (i := 1) rfl).src psl76 pb3 pz3 rfl (by decide) (by decide) hx66 (by decide) (fun A317 c318 a W hF hS => ?_)
                    refine sq_nil (then_j ⟨?_, ?_⟩)
                    · exact fun _ _ => (hS.keep (List.Sublist.refl _) (List.nil_sublist _) ⟨⟨3, rfl⟩, ⟨4, rfl⟩, ⟨5, rfl⟩, trivial⟩)
                    ·
                     have hQC : (fun _ => St M w0 [] [] [fSl k_TAct A59 c60 x53.Mod.Acts, fAt k_TChange (p55.add (x8.toNat * 32)) (TChange.enc x53 A59 c60) x53, fSl k_TChange A0_0 c0_0 u0]) W W := (hS.keep (List.Sublist.refl _) (List.nil_sublist _) ⟨⟨3, rfl⟩, ⟨4, rfl⟩, ⟨5, rfl⟩, trivial⟩)
                     refine e_one (listed' := #[true, true, true, true, true, true, true, true, true, true, true, true, true, true, true, true, false]) 15 rfl (by kernel_rfl) (by kernel_rfl) ?_
                     refine sq_append (ys := ((x5.take x5.length).drop x23.toNat)) hF hS (i := 0) rfl rfl rfl (SlR.src (hS.fc (i := 0) rfl)) psl76 pb3 pz3 rfl (by decide) (by decide) hx69 (by decide) (fun A319 c320 a W hF hS => ?_)
                     refine sq_nil (then_j ⟨?_, ?_⟩)
                     · exact fun _ _ => (hS.keep (List.Sublist.refl _) (List.nil_sublist _) ⟨⟨3, rfl⟩, ⟨4, rfl⟩, ⟨5, rfl⟩, trivial⟩)
                     ·
                      have hQC : (fun _ => St M w0 [] [] [fSl k_TAct A59 c60 x53.Mod.Acts, fAt k_TChange (p55.add (x8.toNat * 32)) (TChange.enc x53 A59 c60) x53, fSl k_TChange A0_0 c0_0 u0]) W W := (hS.keep (List.Sublist.refl _) (List.nil_sublist _) ⟨⟨3, rfl⟩, ⟨4, rfl⟩, ⟨5, rfl⟩, trivial⟩)
                      refine e_val (listed' := #[true, true, true, true, true, true, true, true, true, true, true, true, true, true, true, true, true]) 16 rfl (by kernel_rfl) (by kernel_rfl) (fun _ _ _ h => h) (fun W => (v_assign hF rfl)) hF (by decide) (fun a hF => ?_)
                      refine e_done (by kernel_rfl) ?_ _
                      obtain rfl := Option.some.inj h
                      exact then_j ⟨x68, A319, c320, rfl, (hF.keep ⟨rfl, rfl, rfl, trivial⟩), (hS.keep (List.Sublist.refl _) (.cons_cons _ (List.nil_sublist _)) ⟨⟨5, rfl⟩, trivial⟩)⟩
                ·
                 refine sq_val (v_slice (κ := (kInt .i64)) (lo := x23.toNat) (hi := x5.length) hF rfl rfl rfl psl76 (.inr ⟨_, _, rfl, by omega, rfl⟩) (.inl ⟨rfl, rfl⟩) (by omega) (by omega) (hS.fc (i := 1) rfl).1) hF (by decide) (fun a hF => ?_)
                 have hcut323 := SlR.cut (xs := x5) (hS.fc (i := 1) rfl) (lo := x23.toNat) (hi := x5.length) (by omega) (by omega)
                 generalize (if c7 = x23.toNat then A6 else Option.map (fun (q : Addr) => q.add (x23.toNat * ((kInt .i64)).sz)) A6) = A321 at hF hcut323
                 generalize c7 - x23.toNat = c322 at hF hcut323
                 have hS := hS.addFact (f := fSl (kInt .i64) A321 c322 ((x5.take x5.length).drop x23.toNat)) hcut323
                 refine sq_nil (then_j ⟨?_, ?_⟩)
                 · exact fun _ _ => (hS.keep (List.Sublist.refl _) (List.nil_sublist _) ⟨⟨3, rfl⟩, ⟨4, rfl⟩, ⟨5, rfl⟩, trivial⟩)
                 ·
                  have hQC : (fun _ => St M w0 [] [] [fSl k_TAct A59 c60 x53.Mod.Acts, fAt k_TChange (p55.add (x8.toNat * 32)) (TChange.enc x53 A59 c60) x53, fSl k_TChange A0_0 c0_0 u0]) W W := (hS.keep (List.Sublist.refl _) (List.nil_sublist _) ⟨⟨3, rfl⟩, ⟨4, rfl⟩, ⟨5, rfl⟩, trivial⟩)
                  refine e_listed (listed' := #[true, true, true, true, false, true, true, true, true, true, true, false, true, true, true, false, false]) (by kernel_rfl) ?_
                  refine e_one (listed' := #[true, true, true, true, true, true, true, true, true, true, true, false, true, true, true, false, false]) 4 rfl (by kernel_rfl) (by kernel_rfl) ?_
                  refine sq_append (ys := ((x5.take x23.toNat).drop 0)) hF hS (i := 0) rfl rfl rfl (SlR.src (hS.fc (i := 1) rfl)) psl76 pb3 pz3 rfl (by decide) (by decide) hx64 (by decide) (fun A324 c325 a W hF hS => ?_)
                  refine sq_nil (then_j ⟨?_, ?_⟩)
                  · exact fun _ _ => (hS.keep (List.Sublist.refl _) (List.nil_sublist _) ⟨⟨3, rfl⟩, ⟨4, rfl⟩, ⟨5, rfl⟩, trivial⟩)
                  ·
                   have hQC : (fun _ => St M w0 [] [] [fSl k_TAct A59 c60 x53.Mod.Acts, fAt k_TChange (p55.add (x8.toNat * 32)) (TChange.enc x53 A59 c60) x53, fSl k_TChange A0_0 c0_0 u0]) W W := (hS.keep (List.Sublist.refl _) (List.nil_sublist _) ⟨⟨3, rfl⟩, ⟨4, rfl⟩, ⟨5, rfl⟩, trivial⟩)
                   refine e_one (listed' := #[true, true, true, true, true, true, true, true, true, true, true, true, true, true, true, false, false]) 11 rfl (by kernel_rfl) (by kernel_rfl) ?_
                   refine sq_append (ys := ([x53.Unit])) hF hS (i := 0) rfl rfl rfl (hS.rw_ (i := 1) rfl).src psl76 pb3 pz3 rfl (by decide) (by decide) hx66 (by decide) (fun A326 c327 a W hF hS => ?_)
                   refine sq_nil (then_j ⟨?_, ?_⟩)
                   · exact fun _ _ => (hS.keep (List.Sublist.refl _) (List.nil_sublist _) ⟨⟨3, rfl⟩, ⟨4, rfl⟩, ⟨5, rfl⟩, trivial⟩)
                   ·
                    have hQC : (fun _ => St M w0 [] [] [fSl k_TAct A59 c60 x53.Mod.Acts, fAt k_TChange (p55.add (x8.toNat * 32)) (TChange.enc x53 A59 c60) x53, fSl k_TChange A0_0 c0_0 u0]) W W := (hS.keep (List.Sublist.refl _) (List.nil_sublist _) ⟨⟨3, rfl⟩, ⟨4, rfl⟩, ⟨5, rfl⟩, trivial⟩)
                    refine e_one (listed' := #[true, true, true, true, true, true, true, true, true, true, true, true, true, true, true, true, false]) 15 rfl (by kernel_rfl) (by kernel_rfl) ?_
                    refine sq_append (ys := ((x5.take x5.length).drop x23.toNat)) hF hS (i := 0) rfl rfl rfl (SlR.src (hS.fc (i := 0) rfl)) psl76 pb3 pz3 rfl (by decide) (by decide) hx69 (by decide) (fun A328 c329 a W hF hS => ?_)
                    refine sq_nil (then_j ⟨?_, ?_⟩)
                    · exact fun _ _ => (hS.keep (List.Sublist.refl _) (List.nil_sublist _) ⟨⟨3, rfl⟩, ⟨4, rfl⟩, ⟨5, rfl⟩, trivial⟩)
                    ·
                     have hQC : (fun _ => St M w0 [] [] [fSl k_TAct A59 c60 x53.Mod.Acts, fAt k_TChange (p55.add (x8.toNat * 32)) (TChange.enc x53 A59 c60) x53, fSl k_TChange A0_0 c0_0 u0]) W W := (hS.keep (List.Sublist.refl _) (List.nil_sublist _) ⟨⟨3, rfl⟩, ⟨4, rfl⟩, ⟨5, rfl⟩, trivial⟩)
                     refine e_val (listed' := #[true, true, true, true, true, true, true, true, true, true, true, true, true, true, true, true, true]) 16 rfl (by kernel_rfl) (by kernel_rfl) (fun _ _ _ h => h) (fun W => (v_assign hF rfl)) hF (by decide) (fun a hF => ?_)
                     refine e_done (by kernel_rfl) ?_ _
                     obtain rfl := Option.some.inj h
                     exact then_j ⟨x68, A328, c329, rfl, (hF.keep ⟨rfl, rfl, rfl, trivial⟩), (hS.keep (List.Sublist.refl _) (.cons_cons _ (List.nil_sublist _)) ⟨⟨5, rfl⟩, trivial⟩)⟩
              ·
               refine sq_val (v_slice (κ := (kInt .i64)) (lo := x23.toNat) (hi := x5.length) hF rfl rfl rfl psl76 (.inr ⟨_, _, rfl, by omega, rfl⟩) (.inl ⟨rfl, rfl⟩) (by omega) (by omega) (hS.fc (i := 1) rfl).1) hF (by decide) (fun a hF => ?_)
               have hcut332 := SlR.cut (xs := x5) (hS.fc (i := 1) rfl) (lo := x23.toNat) (hi := x5.length) (by omega) (by omega)
               generalize (if c7 = x23.toNat then A6 else Option.map (fun (q : Addr) => q.add (x23.toNat * ((kInt .i64)).sz)) A6) = A330 at hF hcut332
               generalize c7 - x23.toNat = c331 at hF hcut332
               have hS := hS.addFact (f := fSl (kInt .i64) A330 c331 ((x5.take x5.length).drop x23.toNat)) hcut332
               refine sq_nil (then_j ⟨?_, ?_⟩)
               · exact fun _ _ => (hS.keep (List.Sublist.refl _) (List.nil_sublist _) ⟨⟨3, rfl⟩, ⟨4, rfl⟩, ⟨5, rfl⟩, trivial⟩)
               ·
                have hQC : (fun _ => St M w0 [] [] [fSl k_TAct A59 c60 x53.Mod.Acts, fAt k_TChange (p55.add (x8.toNat * 32)) (TChange.enc x53 A59 c60) x53, fSl k_TChange A0_0 c0_0 u0]) W W := (hS.keep (List.Sublist.refl _) (List.nil_sublist _) ⟨⟨3, rfl⟩, ⟨4, rfl⟩, ⟨5, rfl⟩, trivial⟩)
                refine e_listed (listed' := #[false, true, true, true, false, true, true, true, true, true, true, false, true, true, true, false, false]) (by kernel_rfl) ?_
                refine e_one (listed' := #[true, true, true, true, false, true, true, true, true, true, true, false, true, true, true, false, false]) 0 rfl (by kernel_rfl) (by kernel_rfl) ?_
                refine sq_buildSlice (κ := (kInt .i64)) (xs := []) (ys := ([] : List Int)) hF hS rfl rfl rfl (Els.nil _ _ _) rfl psl76 pz3 rfl (by decide) (by decide) (by decide) (fun A333 c334 a W hF hS => ?_)
                refine sq_nil (then_j ⟨?_, ?_⟩)
                · exact fun _ _ => (hS.keep (List.Sublist.refl _) (List.nil_sublist _) ⟨⟨3, rfl⟩, ⟨4, rfl⟩, ⟨5, rfl⟩, trivial⟩)
                ·
                 have hQC : (fun _ => St M w0 [] [] [fSl k_TAct A59 c60 x53.Mod.Acts, fAt k_TChange (p55.add (x8.toNat * 32)) (TChange.enc x53 A59 c60) x53, fSl k_TChange A0_0 c0_0 u0]) W W := (hS.keep (List.Sublist.refl _) (List.nil_sublist _) ⟨⟨3, rfl⟩, ⟨4, rfl⟩, ⟨5, rfl⟩, trivial⟩)
                 refine e_one (listed' := #[true, true, true, true, true, true, true, true, true, true, true, false, true, true, true, false, false]) 4 rfl (by kernel_rfl) (by kernel_rfl) ?_
                 refine sq_append (ys := ((x5.take x23.toNat).drop 0)) hF hS (i := 0) rfl rfl rfl (SlR.src (hS.fc (i := 1) rfl)) psl76 pb3 pz3 rfl (by decide) (by decide) hx64 (by decide) (fun A335 c336 a W hF hS => ?_)
                 refine sq_nil (then_j ⟨?_, ?_⟩)
                 · exact fun _ _ => (hS.keep (List.Sublist.refl _) (List.nil_sublist _) ⟨⟨3, rfl⟩, ⟨4, rfl⟩, ⟨5, rfl⟩, trivial⟩)
                 ·
                  have hQC : (fun _ => St M w0 [] [] [fSl k_TAct A59 c60 x53.Mod.Acts, fAt k_TChange (p55.add (x8.toNat * 32)) (TChange.enc x53 A59 c60) x53, fSl k_TChange A0_0 c0_0 u0]) W W := (hS.keep (List.Sublist.refl _) (List.nil_sublist _) ⟨⟨3, rfl⟩, ⟨4, rfl⟩, ⟨5, rfl⟩, trivial⟩)
                  refine e_one (listed' := #[true, true, true, true, true, true, true, true, true, true, true, true, true, true, true, false, false]) 11 rfl (by kernel_rfl) (by kernel_rfl) ?_
                  refine sq_append (ys := ([x53.Unit])) hF hS (i := 0) rfl rfl rfl (hS.rw_ (i := 1) rfl).src psl76 pb3 pz3 rfl (by decide) (by decide) hx66 (by decide) (fun A337 c338 a W hF hS => ?_)
                  refine sq_nil (then_j ⟨?_, ?_⟩)
                  · exact fun _ _ => (hS.keep (List.Sublist.refl _) (List.nil_sublist _) ⟨⟨3, rfl⟩, ⟨4, rfl⟩, ⟨5, rfl⟩, trivial⟩)
                  ·
                   have hQC : (fun _ => St M w0 [] [] [fSl k_TAct A59 c60 x53.Mod.Acts, fAt k_TChange (p55.add (x8.toNat * 32)) (TChange.enc x53 A59 c60) x53, fSl k_TChange A0_0 c0_0 u0]) W W := (hS.keep (List.Sublist.refl _) (List.nil_sublist _) ⟨⟨3, rfl⟩, ⟨4, rfl⟩, ⟨5, rfl⟩, trivial⟩)
                   refine e_one (listed' := #[true, true, true, true, true, true, true, true, true, true, true, true, true, true, true, true, false]) 15 rfl (by kernel_rfl) (by kernel_rfl) ?_
                   refine sq_append (ys := ((x5.take x5.length).drop x23.toNat)) hF hS (i := 0) rfl rfl rfl (SlR.src (hS.fc (i := 0) rfl)) psl76 pb3 pz3 rfl (by decide) (by decide) hx69 (by decide) (fun A339 c340 a W hF hS => ?_)
                   refine sq_nil (then_j ⟨?_, ?_⟩)
                   · exact fun _ _ => (hS.keep (List.Sublist.refl _) (List.nil_sublist _) ⟨⟨3, rfl⟩, ⟨4, rfl⟩, ⟨5, rfl⟩, trivial⟩)
                   ·
                    have hQC : (fun _ => St M w0 [] [] [fSl k_TAct A59 c60 x53.Mod.Acts, fAt k_TChange (p55.add (x8.toNat * 32)) (TChange.enc x53 A59 c60) x53, fSl k_TChange A0_0 c0_0 u0]) W W := (hS.keep (List.Sublist.refl _) (List.nil_sublist _) ⟨⟨3, rfl⟩, ⟨4, rfl⟩, ⟨5, rfl⟩, trivial⟩)
                    refine e_val (listed' := #[true, true, true, true, true, true, true, true, true, true, true, true, true, true, true, true, true]) 16 rfl (by kernel_rfl) (by kernel_rfl) (fun _ _ _ h => h) (fun W => (v_assign hF rfl)) hF (by decide) (fun a hF => ?_)
                    refine e_done (by kernel_rfl) ?_ _
                    obtain rfl := Option.some.inj h
                    exact then_j ⟨x68, A339, c340, rfl, (hF.keep ⟨rfl, rfl, rfl, trivial⟩), (hS.keep (List.Sublist.refl _) (.cons_cons _ (List.nil_sublist _)) ⟨⟨5, rfl⟩, trivial⟩)⟩
            ·
             refine sq_val (v_slice (κ := (kInt .i64)) (lo := x23.toNat) (hi := x5.length) hF rfl rfl rfl psl76 (.inr ⟨_, _, rfl, by omega, rfl⟩) (.inl ⟨rfl, rfl⟩) (by omega) (by omega) (hS.fc (i := 1) rfl).1) hF (by decide) (fun a hF => ?_)
             have hcut343 := SlR.cut (xs := x5) (hS.fc (i := 1) rfl) (lo := x23.toNat) (hi := x5.length) (by omega) (by omega)
             generalize (if c7 = x23.toNat then A6 else Option.map (fun (q : Addr) => q.add (x23.toNat * ((kInt .i64)).sz)) A6) = A341 at hF hcut343
             generalize c7 - x23.toNat = c342 at hF hcut343
             have hS := hS.addFact (f := fSl (kInt .i64) A341 c342 ((x5.take x5.length).drop x23.toNat)) hcut343
             refine sq_nil (then_j ⟨?_, ?_⟩)
             · exact fun _ _ => (hS.keep (List.Sublist.refl _) (List.Sublist.refl _) ⟨⟨3, rfl⟩, ⟨4, rfl⟩, ⟨5, rfl⟩, trivial⟩)
             ·
              have hQC : (fun _ => St M w0 [] [] [fSl k_TAct A59 c60 x53.Mod.Acts, fAt k_TChange (p55.add (x8.toNat * 32)) (TChange.enc x53 A59 c60) x53, fSl k_TChange A0_0 c0_0 u0]) W W := (hS.keep (List.Sublist.refl _) (List.Sublist.refl _) ⟨⟨3, rfl⟩, ⟨4, rfl⟩, ⟨5, rfl⟩, trivial⟩)
              refine e_listed (listed' := #[false, true, true, true, false, true, true, true, true, true, false, false, true, true, true, false, false]) (by kernel_rfl) ?_
              refine e_many [0, 10] (by kernel_rfl) (by decide) ⟨⟨_, rfl, ?_⟩, ⟨_, rfl, ?_⟩, trivial⟩
              ·
               refine sq_buildSlice (κ := (kInt .i64)) (xs := []) (ys := ([] : List Int)) hF hS rfl rfl rfl (Els.nil _ _ _) rfl psl76 pz3 rfl (by decide) (by decide) (by decide) (fun A344 c345 a W hF hS => ?_)
               refine sq_nil (then_j ⟨?_, ?_⟩)
               · exact fun _ _ => (hS.keep (List.Sublist.refl _) (List.nil_sublist _) ⟨⟨3, rfl⟩, ⟨4, rfl⟩, ⟨5, rfl⟩, trivial⟩)
               ·
                have hQC : (fun _ => St M w0 [] [] [fSl k_TAct A59 c60 x53.Mod.Acts, fAt k_TChange (p55.add (x8.toNat * 32)) (TChange.enc x53 A59 c60) x53, fSl k_TChange A0_0 c0_0 u0]) W W := (hS.keep (List.Sublist.refl _) (List.nil_sublist _) ⟨⟨3, rfl⟩, ⟨4, rfl⟩, ⟨5, rfl⟩, trivial⟩)
                refine e_listed (listed' := #[true, true, true, true, false, true, true, true, true, true, false, false, true, true, true, false, false]) (by kernel_rfl) ?_
                refine e_many [4, 10] (by kernel_rfl) (by decide) ⟨⟨_, rfl, ?_⟩, ⟨_, rfl, ?_⟩, trivial⟩
                ·
                 refine sq_append (ys := ((x5.take x23.toNat).drop 0)) hF hS (i := 0) rfl rfl rfl (SlR.src (hS.fc (i := 1) rfl)) psl76 pb3 pz3 rfl (by decide) (by decide) hx64 (by decide) (fun A346 c347 a W hF hS => ?_)
                 refine sq_nil (then_j ⟨?_, ?_⟩)
                 · exact fun _ _ => (hS.keep (List.Sublist.refl _) (List.nil_sublist _) ⟨⟨3, rfl⟩, ⟨4, rfl⟩, ⟨5, rfl⟩, trivial⟩)
                 ·
                  have hQC : (fun _ => St M w0 [] [] [fSl k_TAct A59 c60 x53.Mod.Acts, fAt k_TChange (p55.add (x8.toNat * 32)) (TChange.enc x53 A59 c60) x53, fSl k_TChange A0_0 c0_0 u0]) W W := (hS.keep (List.Sublist.refl _) (List.nil_sublist _) ⟨⟨3, rfl⟩, ⟨4, rfl⟩, ⟨5, rfl⟩, trivial⟩)
                  refine e_listed (listed' := #[true, true, true, true, true, true, true, true, true, true, false, false, true, true, true, false, false]) (by kernel_rfl) ?_
                  refine e_one (listed' := #[true, true, true, true, true, true, true, true, true, true, true, false, true, true, true, false, false]) 10 rfl (by kernel_rfl) (by kernel_rfl) ?_
                  refine sq_buildSlice (κ := (kInt .i64)) (xs := [.tmp 55]) (ys := [x53.Unit]) hF hS rfl rfl rfl (Els.cons rfl (Els.nil _ _ _)) rfl psl76 pz3 rfl (by decide) (by decide) (by decide) (fun A348 c349 a W hF hS => ?_)
                  refine sq_nil (then_j ⟨?_, ?_⟩)
                  · exact fun _ _ => (hS.keep (List.Sublist.refl _) (List.nil_sublist _) ⟨⟨3, rfl⟩, ⟨4, rfl⟩, ⟨5, rfl⟩, trivial⟩)
                  ·
                   have hQC : (fun _ => St M w0 [] [] [fSl k_TAct A59 c60 x53.Mod.Acts, fAt k_TChange (p55.add (x8.toNat * 32)) (TChange.enc x53 A59 c60) x53, fSl k_TChange A0_0 c0_0 u0]) W W := (hS.keep (List.Sublist.refl _) (List.nil_sublist _) ⟨⟨3, rfl⟩, ⟨4, rfl⟩, ⟨5, rfl⟩, trivial⟩)
                   refine e_one (listed' := #[true, true, true, true, true, true, true, true, true, true, true, true, true, true, true, false, false]) 11 rfl (by kernel_rfl) (by kernel_rfl) ?_
                   refine sq_append (ys := ([x53.Unit])) hF hS (i := 1) rfl rfl rfl (hS.rw_ (i := 0) rfl).src psl76 pb3 pz3 rfl (by decide) (by decide) hx66 (by decide) (fun A350 c351 a W hF hS => ?_)
                   refine sq_nil (then_j ⟨?_, ?_⟩)
                   · exact fun _ _ => (hS.keep (List.Sublist.refl _) (List.nil_sublist _) ⟨⟨3, rfl⟩, ⟨4, rfl⟩, ⟨5, rfl⟩, trivial⟩)
                   ·
                    have hQC : (fun _ => St M w0 [] [] [fSl k_TAct A59 c60 x53.Mod.Acts, fAt k_TChange (p55.add (x8.toNat * 32)) (TChange.enc x53 A59 c60) x53, fSl k_TChange A0_0 c0_0 u0]) W W := (hS.keep (List.Sublist.refl _) (List.nil_sublist _) ⟨⟨3, rfl⟩, ⟨4, rfl⟩, ⟨5, rfl⟩, trivial⟩)
                    refine e_one (listed' := #[true, true, true, true, true, true, true, true, true, true, true, true, true, true, true, true, false]) 15 rfl (by kernel_rfl) (by kernel_rfl) ?_
                    refine sq_append (ys := ((x5.take x5.length).drop x23.toNat)) hF hS (i := 1) rfl rfl rfl (SlR.src (hS.fc (i := 0) rfl)) psl76 pb3 pz3 rfl (by decide) (by decide) hx69 (by decide) (fun A352 c353 a W hF hS => ?_)
                    refine sq_nil (then_j ⟨?_, ?_⟩)
                    · exact fun _ _ => (hS.keep (List.Sublist.refl _) (List.nil_sublist _) ⟨⟨3, rfl⟩, ⟨4, rfl⟩, ⟨5, rfl⟩, trivial⟩)
                    ·
                     have hQC : (fun _ => St M w0 [] [] [fSl k_TAct A59 c60 x53.Mod.Acts, fAt k_TChange (p55.add (x8.toNat * 32)) (TChange.enc x53 A59 c60) x53, fSl k_TChange A0_0 c0_0 u0]) W W := (hS.keep (List.Sublist.refl _) (List.nil_sublist _) ⟨⟨3, rfl⟩, ⟨4, rfl⟩, ⟨5, rfl⟩, trivial⟩)
                     refine e_val (listed' := #[true, true, true, true, true, true, true, true, true, true, true, true, true, true, true, true, true]) 16 rfl (by kernel_rfl) (by kernel_rfl) (fun _ _ _ h => h) (fun W => (v_assign hF rfl)) hF (by decide) (fun a hF => ?_)
                     refine e_done (by kernel_rfl) ?_ _
                     obtain rfl := Option.some.inj h
                     exact then_j ⟨x68, A352, c353, rfl, (hF.keep ⟨rfl, rfl, rfl, trivial⟩), (hS.keep (List.Sublist.refl _) (.cons _ (List.Sublist.refl _)) ⟨⟨5, rfl⟩, trivial⟩)⟩
                ·
                 refine sq_buildSlice (κ := (kInt .i64)) (xs := [.tmp 55]) (ys := [x53.Unit]) hF hS rfl rfl rfl (Els.cons rfl (Els.nil _ _ _)) rfl psl76 pz3 rfl (by decide) (by decide) (by decide) (fun A354 c355 a W hF hS => ?_)
                 refine sq_nil (then_j ⟨?_, ?_⟩)
                 · exact fun _ _ => (hS.keep (List.Sublist.refl _) (List.nil_sublist _) ⟨⟨3, rfl⟩, ⟨4, rfl⟩, ⟨5, rfl⟩, trivial⟩)
                 ·
                  have hQC : (fun _ => St M w0 [] [] [fSl k_TAct A59 c60 x53.Mod.Acts, fAt k_TChange (p55.add (x8.toNat * 32)) (TChange.enc x53 A59 c60) x53, fSl k_TChange A0_0 c0_0 u0]) W W := (hS.keep (List.Sublist.refl _) (List.nil_sublist _) ⟨⟨3, rfl⟩, ⟨4, rfl⟩, ⟨5, rfl⟩, trivial⟩)
                  refine e_listed (listed' := #[true, true, true, true, false, true, true, true, true, true, true, false, true, true, true, false, false]) (by kernel_rfl) ?_
                  refine e_one (listed' := #[true, true, true, true, true, true, true, true, true, true, true, false, true, true, true, false, false]) 4 rfl (by kernel_rfl) (by kernel_rfl) ?_
                  refine sq_append (ys := ((x5.take x23.toNat).drop 0)) hF hS (i := 1) rfl rfl rfl (SlR.src (hS.fc (i := 1) rfl)) psl76 pb3 pz3 rfl (by decide) (by decide) hx64 (by decide) (fun A356 c357 a W hF hS => ?_)
                  refine sq_nil (then_j ⟨?_, ?_⟩)
                  · exact fun _ _ => (hS.keep (List.Sublist.refl _) (List.nil_sublist _) ⟨⟨3, rfl⟩, ⟨4, rfl⟩, ⟨5, rfl⟩, trivial⟩)
                  ·
                   have hQC : (fun _ => St M w0 [] [] [fSl k_TAct A59 c60 x53.Mod.Acts, fAt k_TChange (p55.add (x8.toNat * 32)) (TChange.enc x53 A59 c60) x53, fSl k_TChange A0_0 c0_0 u0]) W W := (hS.keep (List.Sublist.refl _) (List.nil_sublist _) ⟨⟨3, rfl⟩, ⟨4, rfl⟩, ⟨5, rfl⟩, trivial⟩)
                   refine e_one (listed' := #[true, true, true, true, true, true, true, true, true, true, true, true, true, true, true, false, false]) 11 rfl (by kernel_rfl) (by kernel_rfl) ?_
                   refine sq_append (ys := ([x53.Unit])) hF hS (i := 1) rfl rfl rfl (hS.rw_ (i := 0) rfl).src psl76 pb3 pz3 rfl (by decide) (by decide) hx66 (by decide) (fun A358 c359 a W hF hS => ?_)
                   refine sq_nil (then_j ⟨?_, ?_⟩)
                   · exact fun _ _ => (hS.keep (List.Sublist.refl _) (List.nil_sublist _) ⟨⟨3, rfl⟩, ⟨4, rfl⟩, ⟨5, rfl⟩, trivial⟩)
                   ·
                    have hQC : (fun _ => St M w0 [] [] [fSl k_TAct A59 c60 x53.Mod.Acts, fAt k_TChange (p55.add (x8.toNat * 32)) (TChange.enc x53 A59 c60) x53, fSl k_TChange A0_0 c0_0 u0]) W W := (hS.keep (List.Sublist.refl _) (List.nil_sublist _) ⟨⟨3, rfl⟩, ⟨4, rfl⟩, ⟨5, rfl⟩, trivial⟩)
                    refine e_one (listed' := #[true, true, true, true, true, true, true, true, true, true, true, true, true, true, true, true, false]) 15 rfl (by kernel_rfl) (by kernel_rfl) ?_
                    refine sq_append (ys := ((x5.take x5.length).drop x23.toNat)) hF hS (i := 1) rfl rfl rfl (SlR.src (hS.fc (i := 0) rfl)) psl76 pb3 pz3 rfl (by decide) (by decide) hx69 (by decide) (fun A360 c361 a W hF hS => ?_)
                    refine sq_nil (then_j ⟨?_, ?_⟩)
                    · exact fun _ _ => (hS.keep (List.Sublist.refl _) (List.nil_sublist _) ⟨⟨3, rfl⟩, ⟨4, rfl⟩, ⟨5, rfl⟩, trivial⟩)
                    ·
                     have hQC : (fun _ => St M w0 [] [] [fSl k_TAct A59 c60 x53.Mod.Acts, fAt k_TChange (p55.add (x8.toNat * 32)) (TChange.enc x53 A59 c60) x53, fSl k_TChange A0_0 c0_0 u0]) W W := (hS.keep (List.Sublist.refl _) (List.nil_sublist _) ⟨⟨3, rfl⟩, ⟨4, rfl⟩, ⟨5, rfl⟩, trivial⟩)
                     refine e_val (listed' := #[true, true, true, true, true, true, true, true, true, true, true, true, true, true, true, true, true]) 16 rfl (by kernel_rfl) (by kernel_rfl) (fun _ _ _ h => h) (fun W => (v_assign hF rfl)) hF (by decide) (fun a hF => ?_)
                     refine e_done (by kernel_rfl) ?_ _
                     obtain rfl := Option.some.inj h
                     exact then_j ⟨x68, A360, c361, rfl, (hF.keep ⟨rfl, rfl, rfl, trivial⟩), (hS.keep (List.Sublist.refl _) (.cons _ (List.Sublist.refl _)) ⟨⟨5, rfl⟩, trivial⟩)⟩
              ·
               refine sq_buildSlice (κ := (kInt .i64)) (xs := [.tmp 55]) (ys := [x53.Unit]) hF hS rfl rfl rfl (Els.cons rfl (Els.nil _ _ _)) rfl psl76 pz3 rfl (by decide) (by decide) (by decide) (fun A362 c363 a W hF hS => ?_)
               refine sq_nil (then_j ⟨?_, ?_⟩)
               · exact fun _ _ => (hS.keep (List.Sublist.refl _) (List.nil_sublist _) ⟨⟨3, rfl⟩, ⟨4, rfl⟩, ⟨5, rfl⟩, trivial⟩)
               ·
                have hQC : (fun _ => St M w0 [] [] [fSl k_TAct A59 c60 x53.Mod.Acts, fAt k_TChange (p55.add (x8.toNat * 32)) (TChange.enc x53 A59 c60) x53, fSl k_TChange A0_0 c0_0 u0]) W W := (hS.keep (List.Sublist.refl _) (List.nil_sublist _) ⟨⟨3, rfl⟩, ⟨4, rfl⟩, ⟨5, rfl⟩, trivial⟩)
                refine e_listed (listed' := #[false, true, true, true, false, true, true, true, true, true, true, false, true, true, true, false, false]) (by kernel_rfl) ?_
                refine e_one (listed' := #[true, true, true, true, false, true, true, true, true, true, true, false, true, true, true, false, false]) 0 rfl (by kernel_rfl) (by kernel_rfl) ?_
                refine sq_buildSlice (κ := (kInt .i64)) (xs := []) (ys := ([] : List Int)) hF hS rfl rfl rfl (Els.nil _ _ _) rfl psl76 pz3 rfl (by decide) (by decide) (by decide) (fun A364 c365 a W hF hS => ?_)
                refine sq_nil (then_j ⟨?_, ?_⟩)
                · exact fun _ _ => (hS.keep (List.Sublist.refl _) (List.nil_sublist _) ⟨⟨3, rfl⟩, ⟨4, rfl⟩, ⟨5, rfl⟩, trivial⟩)
                ·
                 have hQC : (fun _ => St M w0 [] [] [fSl k_TAct A59 c60 x53.Mod.Acts, fAt k_TChange (p55.add (x8.toNat * 32)) (TChange.enc x53 A59 c60) x53, fSl k_TChange A0_0 c0_0 u0]) W W := (hS.keep (List.Sublist.refl _) (List.nil_sublist _) ⟨⟨3, rfl⟩, ⟨4, rfl⟩, ⟨5, rfl⟩, trivial⟩)
                 refine e_one (listed' := #[true, true, true, true, true, true, true, true, true, true, true, false, true, true, true, false, false]) 4 rfl (by kernel_rfl) (by kernel_rfl) ?_
                 refine sq_append (ys := ((x5.take x23.toNat).drop 0)) hF hS (i := 0) rfl rfl rfl (SlR.src (hS.fc (i := 1) rfl)) psl76 pb3 pz3 rfl (by decide) (by decide) hx64 (by decide) (fun A366 c367 a W hF hS => ?_)
                 refine sq_nil (then_j ⟨?_, ?_⟩)
                 · exact fun _ _ => (hS.keep (List.Sublist.refl _) (List.nil_sublist _) ⟨⟨3, rfl⟩, ⟨4, rfl⟩, ⟨5, rfl⟩, trivial⟩)
                 ·
                  have hQC : (fun _ => St M w0 [] [] [fSl k_TAct A59 c60 x53.Mod.Acts, fAt k_TChange (p55.add (x8.toNat * 32)) (TChange.enc x53 A59 c60) x53, fSl k_TChange A0_0 c0_0 u0]) W W := (hS.keep (List.Sublist.refl _) (List.nil_sublist _) ⟨⟨3, rfl⟩, ⟨4, rfl⟩, ⟨5, rfl⟩, trivial⟩)
                  refine e_one (listed' := #[true, true, true, true, true, true, true, true, true, true, true, true, true, true, true, false, false]) 11 rfl (by kernel_rfl) (by kernel_rfl) ?_
                  refine sq_append (ys := ([x53.Unit])) hF hS (i := 0) rfl rfl rfl (hS.rw_ (i := 1) rfl).src psl76 pb3 pz3 rfl (by decide) (by decide) hx66 (by decide) (fun A368 c369 a W hF hS => ?_)
                  refine sq_nil (then_j ⟨?_, ?_⟩)
                  · exact fun _ _ => (hS.keep (List.Sublist.refl _) (List.nil_sublist _) ⟨⟨3, rfl⟩, ⟨4, rfl⟩, ⟨5, rfl⟩, trivial⟩)
                  ·
                   have hQC : (fun _ => St M w0 [] [] [fSl k_TAct A59 c60 x53.Mod.Acts, fAt k_TChange (p55.add (x8.toNat * 32)) (TChange.enc x53 A59 c60) x53, fSl k_TChange A0_0 c0_0 u0]) W W := (hS.keep (List.Sublist.refl _) (List.nil_sublist _) ⟨⟨3, rfl⟩, ⟨4, rfl⟩, ⟨5, rfl⟩, trivial⟩)
                   refine e_one (listed' := #[true, true, true, true, true, true, true, true, true, true, true, true, true, true, true, true, false]) 15 rfl (by kernel_rfl) (by kernel_rfl) ?_
                   refine sq_append (ys := ((x5.take x5.length).drop x23.toNat)) hF hS (i := 0) rfl rfl rfl (SlR.src (hS.fc (i := 0) rfl)) psl76 pb3 pz3 rfl (by decide) (by decide) hx69 (by decide) (fun A370 c371 a W hF hS => ?_)
                   refine sq_nil (then_j ⟨?_, ?_⟩)
                   · exact fun _ _ => (hS.keep (List.Sublist.refl _) (List.nil_sublist _) ⟨⟨3, rfl⟩, ⟨4, rfl⟩, ⟨5, rfl⟩, trivial⟩)
                   ·
                    have hQC : (fun _ => St M w0 [] [] [fSl k_TAct A59 c60 x53.Mod.Acts, fAt k_TChange (p55.add (x8.toNat * 32)) (TChange.enc x53 A59 c60) x53, fSl k_TChange A0_0 c0_0 u0]) W W := (hS.keep (List.Sublist.refl _) (List.nil_sublist _) ⟨⟨3, rfl⟩, ⟨4, rfl⟩, ⟨5, rfl⟩, trivial⟩)
                    refine e_val (listed' := #[true, true, true, true, true, true, true, true, true, true, true, true, true, true, true, true, true]) 16 rfl (by kernel_rfl) (by kernel_rfl) (fun _ _ _ h => h) (fun W => (v_assign hF rfl)) hF (by decide) (fun a hF => ?_)
                    refine e_done (by kernel_rfl) ?_ _
                    obtain rfl := Option.some.inj h
                    exact then_j ⟨x68, A370, c371, rfl, (hF.keep ⟨rfl, rfl, rfl, trivial⟩), (hS.keep (List.Sublist.refl _) (.cons_cons _ (List.nil_sublist _)) ⟨⟨5, rfl⟩, trivial⟩)⟩
          ·
           refine sq_buildSlice (κ := (kInt .i64)) (xs := [.tmp 55]) (ys := [x53.Unit]) hF hS rfl rfl rfl (Els.cons rfl (Els.nil _ _ _)) rfl psl76 pz3 rfl (by decide) (by decide) (by decide) (fun A372 c373 a W hF hS => ?_)
           refine sq_nil (then_j ⟨?_, ?_⟩)
           · exact fun _ _ => (hS.keep (List.Sublist.refl _) (List.nil_sublist _) ⟨⟨0, rfl⟩, ⟨1, rfl⟩, ⟨2, rfl⟩, trivial⟩)
           ·
            have hQC : (fun _ => St M w0 [] [] [fSl k_TAct A59 c60 x53.Mod.Acts, fAt k_TChange (p55.add (x8.toNat * 32)) (TChange.enc x53 A59 c60) x53, fSl k_TChange A0_0 c0_0 u0]) W W := (hS.keep (List.Sublist.refl _) (List.nil_sublist _) ⟨⟨0, rfl⟩, ⟨1, rfl⟩, ⟨2, rfl⟩, trivial⟩)
            refine e_listed (listed' := #[false, true, true, false, false, true, true, true, true, true, true, false, true, true, false, false, false]) (by kernel_rfl) ?_
            refine e_many [0, 3, 14] (by kernel_rfl) (by decide) ⟨⟨_, rfl, ?_⟩, ⟨_, rfl, ?_⟩, ⟨_, rfl, ?_⟩, trivial⟩
            ·
             refine sq_buildSlice (κ := (kInt .i64)) (xs := []) (ys := ([] : List Int)) hF hS rfl rfl rfl (Els.nil _ _ _) rfl psl76 pz3 rfl (by decide) (by decide) (by decide) (fun A374 c375 a W hF hS => ?_)
             refine sq_nil (then_j ⟨?_, ?_⟩)
             · exact fun _ _ => (hS.keep (List.Sublist.refl _) (List.nil_sublist _) ⟨⟨0, rfl⟩, ⟨1, rfl⟩, ⟨2, rfl⟩, trivial⟩)
             ·
              have hQC : (fun _ => St M w0 [] [] [fSl k_TAct A59 c60 x53.Mod.Acts, fAt k_TChange (p55.add (x8.toNat * 32)) (TChange.enc x53 A59 c60) x53, fSl k_TChange A0_0 c0_0 u0]) W W := (hS.keep (List.Sublist.refl _) (List.nil_sublist _) ⟨⟨0, rfl⟩, ⟨1, rfl⟩, ⟨2, rfl⟩, trivial⟩)
              refine e_listed (listed' := #[true, true, true, false, false, true, true, true, true, true, true, false, true, true, false, false, false]) (by kernel_rfl) ?_
              refine e_many [3, 14] (by kernel_rfl) (by decide) ⟨⟨_, rfl, ?_⟩, ⟨_, rfl, ?_⟩, trivial⟩
              ·
               have hS := hS.freeze (i := 2) rfl (posB rfl)
               refine sq_val (v_slice (κ := (kInt .i64)) (lo := 0) (hi := x23.toNat) hF rfl rfl rfl psl76 (.inl ⟨rfl, rfl⟩) (.inr ⟨_, _, rfl, by omega, rfl⟩) (by omega) (by omega) (hS.fc (i := 0) rfl).1) hF (by decide) (fun a hF => ?_)
               have hcut378 := SlR.cut (xs := x5) (hS.fc (i := 0) rfl) (lo := 0) (hi := x23.toNat) (by omega) (by omega)
               generalize (if c7 = 0 then A6 else Option.map (fun (q : Addr) => q.add (0 * ((kInt .i64)).sz)) A6) = A376 at hF hcut378
               generalize c7 - 0 = c377 at hF hcut378
               have hS := hS.addFact (f := fSl (kInt .i64) A376 c377 ((x5.take x23.toNat).drop 0)) hcut378
               refine sq_nil (then_j ⟨?_, ?_⟩)
               · exact fun _ _ => (hS.keep (List.Sublist.refl _) (List.nil_sublist _) ⟨⟨2, rfl⟩, ⟨3, rfl⟩, ⟨4, rfl⟩, trivial⟩)
               ·
                have hQC : (fun _ => St M w0 [] [] [fSl k_TAct A59 c60 x53.Mod.Acts, fAt k_TChange (p55.add (x8.toNat * 32)) (TChange.enc x53 A59 c60) x53, fSl k_TChange A0_0 c0_0 u0]) W W := (hS.keep (List.Sublist.refl _) (List.nil_sublist _) ⟨⟨2, rfl⟩, ⟨3, rfl⟩, ⟨4, rfl⟩, trivial⟩)
                refine e_listed (listed' := #[true, true, true, true, false, true, true, true, true, true, true, false, true, true, false, false, false]) (by kernel_rfl) ?_
                refine e_many [4, 14] (by kernel_rfl) (by decide) ⟨⟨_, rfl, ?_⟩, ⟨_, rfl, ?_⟩, trivial⟩
                ·
                 refine sq_append (ys := ((x5.take x23.toNat).drop 0)) hF hS (i := 0) rfl rfl rfl (SlR.src (hS.fc (i := 0) rfl)) psl76 pb3 pz3 rfl (by decide) (by decide) hx64 (by decide) (fun A379 c380 a W hF hS => ?_)
                 refine sq_nil (then_j ⟨?_, ?_⟩)
                 · exact fun _ _ => (hS.keep (List.Sublist.refl _) (List.nil_sublist _) ⟨⟨2, rfl⟩, ⟨3, rfl⟩, ⟨4, rfl⟩, trivial⟩)
                 ·
                  have hQC : (fun _ => St M w0 [] [] [fSl k_TAct A59 c60 x53.Mod.Acts, fAt k_TChange (p55.add (x8.toNat * 32)) (TChange.enc x53 A59 c60) x53, fSl k_TChange A0_0 c0_0 u0]) W W := (hS.keep (List.Sublist.refl _) (List.nil_sublist _) ⟨⟨2, rfl⟩, ⟨3, rfl⟩, ⟨4, rfl⟩, trivial⟩)
                  refine e_listed (listed' := #[true, true, true, true, true, true, true, true, true, true, true, false, true, true, false, false, false]) (by kernel_rfl) ?_
                  refine e_many [11, 14] (by kernel_rfl) (by decide) ⟨⟨_, rfl, ?_⟩, ⟨_, rfl, ?_⟩, trivial⟩
                  ·
                   refine sq_append (ys := ([x53.Unit])) hF hS (i := 0) rfl rfl rfl (hS.rw_ (i := 1) rfl).src psl76 pb3 pz3 rfl (by decide) (by decide) hx66 (by decide) (fun A381 c382 a W hF hS => ?_)
                   refine sq_nil (then_j ⟨?_, ?_⟩)
                   · exact fun _ _ => (hS.keep (List.Sublist.refl _) (List.nil_sublist _) ⟨⟨2, rfl⟩, ⟨3, rfl⟩, ⟨4, rfl⟩, trivial⟩)
                   ·
                    have hQC : (fun _ => St M w0 [] [] [fSl k_TAct A59 c60 x53.Mod.Acts, fAt k_TChange (p55.add (x8.toNat * 32)) (TChange.enc x53 A59 c60) x53, fSl k_TChange A0_0 c0_0 u0]) W W := (hS.keep (List.Sublist.refl _) (List.nil_sublist _) ⟨⟨2, rfl⟩, ⟨3, rfl⟩, ⟨4, rfl⟩, trivial⟩)
                    refine e_listed (listed' := #[true, true, true, true, true, true, true, true, true, true, true, true, true, true, false, false, false]) (by kernel_rfl) ?_
                    refine e_one (listed' := #[true, true, true, true, true, true, true, true, true, true, true, true, true, true, true, false, false]) 14 rfl (by kernel_rfl) (by kernel_rfl) ?_
                    refine sq_val (v_slice (κ := (kInt .i64)) (lo := x23.toNat) (hi := x5.length) hF rfl rfl rfl psl76 (.inr ⟨_, _, rfl, by omega, rfl⟩) (.inl ⟨rfl, rfl⟩) (by omega) (by omega) (hS.fc (i := 1) rfl).1) hF (by decide) (fun a hF => ?_)
                    have hcut385 := SlR.cut (xs := x5) (hS.fc (i := 1) rfl) (lo := x23.toNat) (hi := x5.length) (by omega) (by omega)
                    generalize (if c7 = x23.toNat then A6 else Option.map (fun (q : Addr) => q.add (x23.toNat * ((kInt .i64)).sz)) A6) = A383 at hF hcut385
                    generalize c7 - x23.toNat = c384 at hF hcut385
                    have hS := hS.addFact (f := fSl (kInt .i64) A383 c384 ((x5.take x5.length).drop x23.toNat)) hcut385
                    refine sq_nil (then_j ⟨?_, ?_⟩)
                    · exact fun _ _ => (hS.keep (List.Sublist.refl _) (List.nil_sublist _) ⟨⟨3, rfl⟩, ⟨4, rfl⟩, ⟨5, rfl⟩, trivial⟩)
                    ·
                     have hQC : (fun _ => St M w0 [] [] [fSl k_TAct A59 c60 x53.Mod.Acts, fAt k_TChange (p55.add (x8.toNat * 32)) (TChange.enc x53 A59 c60) x53, fSl k_TChange A0_0 c0_0 u0]) W W := (hS.keep (List.Sublist.refl _) (List.nil_sublist _) ⟨⟨3, rfl⟩, ⟨4, rfl⟩, ⟨5, rfl⟩, trivial⟩)
                     refine e_one (listed' := #[true, true, true, true, true, true, true, true, true, true, true, true, true, true, true, true, false]) 15 rfl (by kernel_rfl) (by kernel_rfl) ?_
                     refine sq_append (ys := ((x5.take x5.length).drop x23.toNat)) hF hS (i := 0) rfl rfl rfl (SlR.src (hS.fc (i := 0) rfl)) psl76 pb3 pz3 rfl (by decide) (by decide) hx69 (by decide) (fun A386 c387 a W hF hS => ?_)
                     refine sq_nil (then_j ⟨?_, ?_⟩)
                     · exact fun _ _ => (hS.keep (List.Sublist.refl _) (List.nil_sublist _) ⟨⟨3, rfl⟩, ⟨4, rfl⟩, ⟨5, rfl⟩, trivial⟩)
                     ·
                      have hQC : (fun _ => St M w0 [] [] [fSl k_TAct A59 c60 x53.Mod.Acts, fAt k_TChange (p55.add (x8.toNat * 32)) (TChange.enc x53 A59 c60) x53, fSl k_TChange A0_0 c0_0 u0]) W W := (hS.keep (List.Sublist.refl _) (List.nil_sublist _) ⟨⟨3, rfl⟩, ⟨4, rfl⟩, ⟨5, rfl⟩, trivial⟩)
                      refine e_val (listed' := #[true, true, true, true, true, true, true, true, true, true, true, true, true, true, true, true, true]) 16 rfl (by kernel_rfl) (by kernel_rfl) (fun _ _ _ h => h) (fun W => (v_assign hF rfl)) hF (by decide) (fun a hF => ?_)
                      refine e_done (by kernel_rfl) ?_ _
                      obtain rfl := Option.some.inj h
                      exact then_j ⟨x68, A386, c387, rfl, (hF.keep ⟨rfl, rfl, rfl, trivial⟩), (hS.keep (List.Sublist.refl _) (.cons_cons _ (List.nil_sublist _)) ⟨⟨5, rfl⟩, trivial⟩)⟩
                  ·
                   refine sq_val (v_slice (κ := (kInt .i64)) (lo := x23.toNat) (hi := x5.length) hF rfl rfl rfl psl76 (.inr ⟨_, _, rfl, by omega, rfl⟩) (.inl ⟨rfl, rfl⟩) (by omega) (by omega) (hS.fc (i := 1) rfl).1) hF (by decide) (fun a hF => ?_)
                   have hcut390 := SlR.cut (xs := x5) (hS.fc (i := 1) rfl) (lo := x23.toNat) (hi := x5.length) (by omega) (by omega)
                   generalize (if c7 = x23.toNat then A6 else Option.map (fun (q : Addr) => q.add (x23.toNat * ((kInt .i64)).sz)) A6) = A388 at hF hcut390
                   generalize c7 - x23.toNat = c389 at hF hcut390
                   have hS := hS.addFact (f := fSl (kInt .i64) A388 c389 ((x5.take x5.length).drop x23.toNat)) hcut390
                   refine sq_nil (then_j ⟨?_, ?_⟩)
                   · exact fun _ _ => (hS.keep (List.Sublist.refl _) (List.nil_sublist _) ⟨⟨3, rfl⟩, ⟨4, rfl⟩, ⟨5, rfl⟩, trivial⟩)
                   ·
                    have hQC : (fun _ => St M w0 [] [] [fSl k_TAct A59 c60 x53.Mod.Acts, fAt k_TChange (p55.add (x8.toNat * 32)) (TChange.enc x53 A59 c60) x53, fSl k_TChange A0_0 c0_0 u0]) W W := (hS.keep (List.Sublist.refl _) (List.nil_sublist _) ⟨⟨3, rfl⟩, ⟨4, rfl⟩, ⟨5, rfl⟩, trivial⟩)
                    refine e_listed (listed' := #[true, true, true, true, true, true, true, true, true, true, true, false, true, true, true, false, false]) (by kernel_rfl) ?_
                    refine e_one (listed' := #[true, true, true, true, true, true, true, true, true, true, true, true, true, true, true, false, false]) 11 rfl (by kernel_rfl) (by kernel_rfl) ?_
                    refine sq_append (ys := ([x53.Unit])) hF hS (i := 0) rfl rfl rfl (hS.rw_ (i := 1) rfl).src psl76 pb3 pz3 rfl (by decide) (by decide) hx66 (by decide) (fun A391 c392 a W hF hS => ?_)
                    refine sq_nil (then_j ⟨?_, ?_⟩)
                    · exact fun _ _ => (hS.keep (List.Sublist.refl _) (List.nil_sublist _) ⟨⟨3, rfl⟩, ⟨4, rfl⟩, ⟨5, rfl⟩, trivial⟩)
                    ·
                     have hQC : (fun _ => St M w0 [] [] [fSl k_TAct A59 c60 x53.Mod.Acts, fAt k_TChange (p55.add (x8.toNat * 32)) (TChange.enc x53 A59 c60) x53, fSl k_TChange A0_0 c0_0 u0]) W W := (hS.keep (List.Sublist.refl _) (List.nil_sublist _) ⟨⟨3, rfl⟩, ⟨4, rfl⟩, ⟨5, rfl⟩, trivial⟩)
                     refine e_one (listed' := #[true, true, true, true, true, true, true, true, true, true, true, true, true, true, true, true, false]) 15 rfl (by kernel_rfl) (by kernel_rfl) ?_
                     refine sq_append (ys := ((x5.take x5.length).drop x23.toNat)) hF hS (i := 0) rfl rfl rfl (SlR.src (hS.fc (i := 0) rfl)) psl76 pb3 pz3 rfl (by decide) (by decide) hx69 (by decide) (fun A393 c394 a W hF hS => ?_)
                     refine sq_nil (then_j ⟨?_, ?_⟩)
                     · exact fun _ _ => (hS.keep (List.Sublist.refl _) (List.nil_sublist _) ⟨⟨3, rfl⟩, ⟨4, rfl⟩, ⟨5, rfl⟩, trivial⟩)
                     ·
                      have hQC : (fun _ => St M w0 [] [] [fSl k_TAct A59 c60 x53.Mod.Acts, fAt k_TChange (p55.add (x8.toNat * 32)) (TChange.enc x53 A59 c60) x53, fSl k_TChange A0_0 c0_0 u0]) W W := (hS.keep (List.Sublist.refl _) (List.nil_sublist _) ⟨⟨3, rfl⟩, ⟨4, rfl⟩, ⟨5, rfl⟩, trivial⟩)
                      refine e_val (listed' := #[true, true, true, true, true, true, true, true, true, true, true, true, true, true, true, true, true]) 16 rfl (by kernel_rfl) (by kernel_rfl) (fun _ _ _ h => h) (fun W => (v_assign hF rfl)) hF (by decide) (fun a hF => ?_)
                      refine e_done (by kernel_rfl) ?_ _
                      obtain rfl := Option.some.inj h
                      exact then_j ⟨x68, A393, c394, rfl, (hF.keep ⟨rfl, rfl, rfl, trivial⟩), (hS.keep (List.Sublist.refl _) (.cons_cons _ (List.nil_sublist _)) ⟨⟨5, rfl⟩, trivial⟩)⟩
                ·
                 refine sq_val (v_slice (κ := (kInt .i64)) (lo := x23.toNat) (hi := x5.length) hF rfl rfl rfl psl76 (.inr ⟨_, _, rfl, by omega, rfl⟩) (.inl ⟨rfl, rfl⟩) (by omega) (by omega) (hS.fc (i := 1) rfl).1) hF (by decide) (fun a hF => ?_)
                 have hcut397 := SlR.cut (xs := x5) (hS.fc (i := 1) rfl) (lo := x23.toNat) (hi := x5.length) (by omega) (by omega)
                 generalize (if c7 = x23.toNat then A6 else Option.map (fun (q : Addr) => q.add (x23.toNat * ((kInt .i64)).sz)) A6) = A395 at hF hcut397
                 generalize c7 - x23.toNat = c396 at hF hcut397
                 have hS := hS.addFact (f := fSl (kInt .i64) A395 c396 ((x5.take x5.length).drop x23.toNat)) hcut397
                 refine sq_nil (then_j ⟨?_, ?_⟩)
                 · exact fun _ _ => (hS.keep (List.Sublist.refl _) (List.nil_sublist _) ⟨⟨3, rfl⟩, ⟨4, rfl⟩, ⟨5, rfl⟩, trivial⟩)
                 ·
                  have hQC : (fun _ => St M w0 [] [] [fSl k_TAct A59 c60 x53.Mod.Acts, fAt k_TChange (p55.add (x8.toNat * 32)) (TChange.enc x53 A59 c60) x53, fSl k_TChange A0_0 c0_0 u0]) W W := (hS.keep (List.Sublist.refl _) (List.nil_sublist _) ⟨⟨3, rfl⟩, ⟨4, rfl⟩, ⟨5, rfl⟩, trivial⟩)
                  refine e_listed (listed' := #[true, true, true, true, false, true, true, true, true, true, true, false, true, true, true, false, false]) (by kernel_rfl) ?_
                  refine e_one (listed' := #[true, true, true, true, true, true, true, true, true, true, true, false, true, true, true, false, false]) 4 rfl (by kernel_rfl) (by kernel_rfl) ?_
                  refine sq_append (ys := ((x5.take x23.toNat).drop 0)) hF hS (i := 0) rfl rfl rfl (SlR.src (hS.fc (i := 1) rfl)) psl76 pb3 pz3 rfl (by decide) (by decide) hx64 (by decide) (fun A398 c399 a W hF hS => ?_)
                  refine sq_nil (then_j ⟨?_, ?_⟩)
                  · exact fun _ _ => (hS.keep (List.Sublist.refl _) (List.nil_sublist _) ⟨⟨3, rfl⟩, ⟨4, rfl⟩, ⟨5, rfl⟩, trivial⟩)
                  ·
                   have hQC : (fun _ => St M w0 [] [] [fSl k_TAct A59 c60 x53.Mod.Acts, fAt k_TChange (p55.add (x8.toNat * 32)) (TChange.enc x53 A59 c60) x53, fSl k_TChange A0_0 c0_0 u0]) W W := (hS.keep (List.Sublist.refl _) (List.nil_sublist _) ⟨⟨3, rfl⟩, ⟨4, rfl⟩, ⟨5, rfl⟩, trivial⟩)
                   refine e_one (listed' := #[true, true, true, true, true, true, true, true, true, true, true, true, true, true, true, false, false]) 11 rfl (by kernel_rfl) (by kernel_rfl) ?_
                   refine sq_append (ys := ([x53.Unit])) hF hS (i := 0) rfl rfl rfl (hS.rw_ (i := 1) rfl).src psl76 pb3 pz3 rfl (by decide) (by decide) hx66 (by decide) (fun A400 c401 a W hF hS => ?_)
                   refine sq_nil (then_j ⟨?_, ?_⟩)
                   · exact fun _ _ => (hS.keep (List.Sublist.refl _) (List.nil_sublist _) ⟨⟨3, rfl⟩, ⟨4, rfl⟩, ⟨5, rfl⟩, trivial⟩)
                   ·
                    have hQC : (fun _ => St M w0 [] [] [fSl k_TAct A59 c60 x53.Mod.Acts, fAt k_TChange (p55.add (x8.toNat * 32)) (TChange.enc x53 A59 c60) x53, fSl k_TChange A0_0 c0_0 u0]) W W := (hS.keep (List.Sublist.refl _) (List.nil_sublist _) ⟨⟨3, rfl⟩, ⟨4, rfl⟩, ⟨5, rfl⟩, trivial⟩)
                    refine e_one (listed' := #[true, true, true, true, true, true, true, true, true, true, true, true, true, true, true, true, false]) 15 rfl (by kernel_rfl) (by kernel_rfl) ?_
                    refine sq_append (ys := ((x5.take x5.length).drop x23.toNat)) hF hS (i := 0) rfl rfl rfl (SlR.src (hS.fc (i := 0) rfl)) psl76 pb3 pz3 rfl (by decide) (by decide) hx69 (by decide) (fun A402 c403 a W hF hS => ?_)
                    refine sq_nil (then_j ⟨?_, ?_⟩)
                    · exact fun _ _ => (hS.keep (List.Sublist.refl _) (List.nil_sublist _) ⟨⟨3, rfl⟩, ⟨4, rfl⟩, ⟨5, rfl⟩, trivial⟩)
                    ·
                     have hQC : (fun _ => St M w0 [] [] [fSl k_TAct A59 c60 x53.Mod.Acts, fAt k_TChange (p55.add (x8.toNat * 32)) (TChange.enc x53 A59 c60) x53, fSl k_TChange A0_0 c0_0 u0]) W W := (hS.keep (List.Sublist.refl _) (List.nil_sublist _) ⟨⟨3, rfl⟩, ⟨4, rfl⟩, ⟨5, rfl⟩, trivial⟩)
                     refine e_val (listed' := #[true, true, true, true, true, true, true, true, true, true, true, true, true, true, true, true, true]) 16 rfl (by kernel_rfl) (by kernel_rfl) (fun _ _ _ h => h) (fun W => (v_assign hF rfl)) hF (by decide) (fun a hF => ?_)
                     refine e_done (by kernel_rfl) ?_ _
                     obtain rfl := Option.some.inj h
                     exact then_j ⟨x68, A402, c403, rfl, (hF.keep ⟨rfl, rfl, rfl, trivial⟩), (hS.keep (List.Sublist.refl _) (.cons_cons _ (List.nil_sublist _)) ⟨⟨5, rfl⟩, trivial⟩)⟩
              ·
               have hS := hS.freeze (i := 2) rfl (posB rfl)
               refine sq_val (v_slice (κ := (kInt .i64)) (lo := x23.toNat) (hi := x5.length) hF rfl rfl rfl psl76 (.inr ⟨_, _, rfl, by omega, rfl⟩) (.inl ⟨rfl, rfl⟩) (by omega) (by omega) (hS.fc (i := 0) rfl).1) hF (by decide) (fun a hF => ?_)
               have hcut406 := SlR.cut (xs := x5) (hS.fc (i := 0) rfl) (lo := x23.toNat) (hi := x5.length) (by omega) (by omega)
               generalize (if c7 = x23.toNat then A6 else Option.map (fun (q : Addr) => q.add (x23.toNat * ((kInt .i64)).sz)) A6) = A404 at hF hcut406
               generalize c7 - x23.toNat = c405 at hF hcut406
               have hS := hS.addFact (f := fSl (kInt .i64) A404 c405 ((x5.take x5.length).drop x23.toNat)) hcut406
               refine sq_nil (then_j ⟨?_, ?_⟩)
               · exact fun _ _ => (hS.keep (List.Sublist.refl _) (List.nil_sublist _) ⟨⟨2, rfl⟩, ⟨3, rfl⟩, ⟨4, rfl⟩, trivial⟩)
               ·
                have hQC : (fun _ => St M w0 [] [] [fSl k_TAct A59 c60 x53.Mod.Acts, fAt k_TChange (p55.add (x8.toNat * 32)) (TChange.enc x53 A59 c60) x53, fSl k_TChange A0_0 c0_0 u0]) W W := (hS.keep (List.Sublist.refl _) (List.nil_sublist _) ⟨⟨2, rfl⟩, ⟨3, rfl⟩, ⟨4, rfl⟩, trivial⟩)
                refine e_listed (listed' := #[true, true, true, false, false, true, true, true, true, true, true, false, true, true, true, false, false]) (by kernel_rfl) ?_
                refine e_one (listed' := #[true, true, true, true, false, true, true, true, true, true, true, false, true, true, true, false, false]) 3 rfl (by kernel_rfl) (by kernel_rfl) ?_
                refine sq_val (v_slice (κ := (kInt .i64)) (lo := 0) (hi := x23.toNat) hF rfl rfl rfl psl76 (.inl ⟨rfl, rfl⟩) (.inr ⟨_, _, rfl, by omega, rfl⟩) (by omega) (by omega) (hS.fc (i := 1) rfl).1) hF (by decide) (fun a hF => ?_)
                have hcut409 := SlR.cut (xs := x5) (hS.fc (i := 1) rfl) (lo := 0) (hi := x23.toNat) (by omega) (by omega)
                generalize (if c7 = 0 then A6 else Option.map (fun (q : Addr) => q.add (0 * ((kInt .i64)).sz)) A6) = A407 at hF hcut409
                generalize c7 - 0 = c408 at hF hcut409
                have hS := hS.addFact (f := fSl (kInt .i64) A407 c408 ((x5.take x23.toNat).drop 0)) hcut409
                refine sq_nil (then_j ⟨?_, ?_⟩)
                · exact fun _ _ => (hS.keep (List.Sublist.refl _) (List.nil_sublist _) ⟨⟨3, rfl⟩, ⟨4, rfl⟩, ⟨5, rfl⟩, trivial⟩)
                ·
                 have hQC : (fun _ => St M w0 [] [] [fSl k_TAct A59 c60 x53.Mod.Acts, fAt k_TChange (p55.add (x8.toNat * 32)) (TChange.enc x53 A59 c60) x53, fSl k_TChange A0_0 c0_0 u0]) W W := (hS.keep (List.Sublist.refl _) (List.nil_sublist _) ⟨⟨3, rfl⟩, ⟨4, rfl⟩, ⟨5, rfl⟩, trivial⟩)
                 refine e_one (listed' := #[true, true, true, true, true, true, true, true, true, true, true, false, true, true, true, false, false]) 4 rfl (by kernel_rfl) (by kernel_rfl) ?_
                 refine sq_append (ys := ((x5.take x23.toNat).drop 0)) hF hS (i := 0) rfl rfl rfl (SlR.src (hS.fc (i := 0) rfl)) psl76 pb3 pz3 rfl (by decide) (by decide) hx64 (by decide) (fun A410 c411 a W hF hS => ?_)
                 refine sq_nil (then_j ⟨?_, ?_⟩)
                 · exact fun _ _ => (hS.keep (List.Sublist.refl _) (List.nil_sublist _) ⟨⟨3, rfl⟩, ⟨4, rfl⟩, ⟨5, rfl⟩, trivial⟩)
                 ·
                  have hQC : (fun _ => St M w0 [] [] [fSl k_TAct A59 c60 x53.Mod.Acts, fAt k_TChange (p55.add (x8.toNat * 32)) (TChange.enc x53 A59 c60) x53, fSl k_TChange A0_0 c0_0 u0]) W W := (hS.keep (List.Sublist.refl _) (List.nil_sublist _) ⟨⟨3, rfl⟩, ⟨4, rfl⟩, ⟨5, rfl⟩, trivial⟩)
                  refine e_one (listed' := #[true, true, true, true, true, true, true, true, true, true, true, true, true, true, true, false, false]) 11 rfl (by kernel_rfl) (by kernel_rfl) ?_
                  refine sq_append (ys := ([x53.Unit])) hF hS (i := 0) rfl rfl rfl (hS.rw_ (i := 1) rfl).src psl76 pb3 pz3 rfl (by decide) (by decide) hx66 (by decide) (fun A412 c413 a W hF hS => ?_)
                  refine sq_nil (then_j ⟨?_, ?_⟩)
                  · exact fun _ _ => (hS.keep (List.Sublist.refl _) (List.nil_sublist _) ⟨⟨3, rfl⟩, ⟨4, rfl⟩, ⟨5, rfl⟩, trivial⟩)
                  ·
                   have hQC : (fun _ => St M w0 [] [] [fSl k_TAct A59 c60 x53.Mod.Acts, fAt k_TChange (p55.add (x8.toNat * 32)) (TChange.enc x53 A59 c60) x53, fSl k_TChange A0_0 c0_0 u0]) W W := (hS.keep (List.Sublist.refl _) (List.nil_sublist _) ⟨⟨3, rfl⟩, ⟨4, rfl⟩, ⟨5, rfl⟩, trivial⟩)
                   refine e_one (listed' := #[true, true, true, true, true, true, true, true, true, true, true, true, true, true, true, true, false]) 15 rfl (by kernel_rfl) (by kernel_rfl) ?_
                   refine sq_append (ys := ((x5.take x5.length).drop x23.toNat)) hF hS (i := 0) rfl rfl rfl (SlR.src (hS.fc (i := 1) rfl)) psl76 pb3 pz3 rfl (by decide) (by decide) hx69 (by decide) (fun A414 c415 a W hF hS => ?_)
                   refine sq_nil (then_j ⟨?_, ?_⟩)
                   · exact fun _ _ => (hS.keep (List.Sublist.refl _) (List.nil_sublist _) ⟨⟨3, rfl⟩, ⟨4, rfl⟩, ⟨5, rfl⟩, trivial⟩)
                   ·
                    have hQC : (fun _ => St M w0 [] [] [fSl k_TAct A59 c60 x53.Mod.Acts, fAt k_TChange (p55.add (x8.toNat * 32)) (TChange.enc x53 A59 c60) x53, fSl k_TChange A0_0 c0_0 u0]) W W := (hS.keep (List.Sublist.refl _) (List.nil_sublist _) ⟨⟨3, rfl⟩, ⟨4, rfl⟩, ⟨5, rfl⟩, trivial⟩)
                    refine e_val (listed' := #[true, true, true, true, true, true, true, true, true, true, true, true, true, true, true, true, true]) 16 rfl (by kernel_rfl) (by kernel_rfl) (fun _ _ _ h => h) (fun W => (v_assign hF rfl)) hF (by decide) (fun a hF => ?_)
                    refine e_done (by kernel_rfl) ?_ _
                    obtain rfl := Option.some.inj h
                    exact then_j ⟨x68, A414, c415, rfl, (hF.keep ⟨rfl, rfl, rfl, trivial⟩), (hS.keep (List.Sublist.refl _) (.cons_cons _ (List.nil_sublist _)) ⟨⟨5, rfl⟩, trivial⟩)⟩
            ·
             have hS := hS.freeze (i := 1) rfl (posB rfl)
             refine sq_val (v_slice (κ := (kInt .i64)) (lo := 0) (hi := x23.toNat) hF rfl rfl rfl psl76 (.inl ⟨rfl, rfl⟩) (.inr ⟨_, _, rfl, by omega, rfl⟩) (by omega) (by omega) (hS.fc (i := 0) rfl).1) hF (by decide) (fun a hF => ?_)
             have hcut418 := SlR.cut (xs := x5) (hS.fc (i := 0) rfl) (lo := 0) (hi := x23.toNat) (by omega) (by omega)
             generalize (if c7 = 0 then A6 else Option.map (fun (q : Addr) => q.add (0 * ((kInt .i64)).sz)) A6) = A416 at hF hcut418
             generalize c7 - 0 = c417 at hF hcut418
             have hS := hS.addFact (f := fSl (kInt .i64) A416 c417 ((x5.take x23.toNat).drop 0)) hcut418
             refine sq_nil (then_j ⟨?_, ?_⟩)
             · exact fun _ _ => (hS.keep (List.Sublist.refl _) (List.nil_sublist _) ⟨⟨2, rfl⟩, ⟨3, rfl⟩, ⟨4, rfl⟩, trivial⟩)
             ·
              have hQC : (fun _ => St M w0 [] [] [fSl k_TAct A59 c60 x53.Mod.Acts, fAt k_TChange (p55.add (x8.toNat * 32)) (TChange.enc x53 A59 c60) x53, fSl k_TChange A0_0 c0_0 u0]) W W := (hS.keep (List.Sublist.refl _) (List.nil_sublist _) ⟨⟨2, rfl⟩, ⟨3, rfl⟩, ⟨4, rfl⟩, trivial⟩)
              refine e_listed (listed' := #[false, true, true, true, false, true, true, true, true, true, true, false, true, true, false, false, false]) (by kernel_rfl) ?_
              refine e_many [0, 14] (by kernel_rfl) (by decide) ⟨⟨_, rfl, ?_⟩, ⟨_, rfl, ?_⟩, trivial⟩
              ·
               refine sq_buildSlice (κ := (kInt .i64)) (xs := []) (ys := ([] : List Int)) hF hS rfl rfl rfl (Els.nil _ _ _) rfl psl76 pz3 rfl (by decide) (by decide) (by decide) (fun A419 c420 a W hF hS => ?_)
               refine sq_nil (then_j ⟨?_, ?_⟩)
               · exact fun _ _ => (hS.keep (List.Sublist.refl _) (List.nil_sublist _) ⟨⟨2, rfl⟩, ⟨3, rfl⟩, ⟨4, rfl⟩, trivial⟩)
               ·
                have hQC : (fun _ => St M w0 [] [] [fSl k_TAct A59 c60 x53.Mod.Acts, fAt k_TChange (p55.add (x8.toNat * 32)) (TChange.enc x53 A59 c60) x53, fSl k_TChange A0_0 c0_0 u0]) W W := (hS.keep (List.Sublist.refl _) (List.nil_sublist _) ⟨⟨2, rfl⟩, ⟨3, rfl⟩, ⟨4, rfl⟩, trivial⟩)
                refine e_listed (listed' := #[true, true, true, true, false, true, true, true, true, true, true, false, true, true, false, false, false]) (by kernel_rfl) ?_
                refine e_many [4, 14] (by kernel_rfl) (by decide) ⟨⟨_, rfl, ?_⟩, ⟨_, rfl, ?_⟩, trivial⟩
                ·
                 refine sq_append (ys := ((x5.take x23.toNat).drop 0)) hF hS (i := 0) rfl rfl rfl (SlR.src (hS.fc (i := 0) rfl)) psl76 pb3 pz3 rfl (by decide) (by decide) hx64 (by decide) (fun A421 c422 a W hF hS => ?_)
                 refine sq_nil (then_j ⟨?_, ?_⟩)
                 · exact fun _ _ => (hS.keep (List.Sublist.refl _) (List.nil_sublist _) ⟨⟨2, rfl⟩, ⟨3, rfl⟩, ⟨4, rfl⟩, trivial⟩)
                 ·
                  have hQC : (fun _ => St M w0 [] [] [fSl k_TAct A59 c60 x53.Mod.Acts, fAt k_TChange (p55.add (x8.toNat * 32)) (TChange.enc x53 A59 c60) x53, fSl k_TChange A0_0 c0_0 u0]) W W := (hS.keep (List.Sublist.refl _) (List.nil_sublist _) ⟨⟨2, rfl⟩, ⟨3, rfl⟩, ⟨4, rfl⟩, trivial⟩)
                  refine e_listed (listed' := #[true, true, true, true, true, true, true, true, true, true, true, false, true, true, false, false, false]) (by kernel_rfl) ?_
                  refine e_many [11, 14] (by kernel_rfl) (by decide) ⟨⟨_, rfl, ?_⟩, ⟨_, rfl, ?_⟩, trivial⟩
                  ·
                   refine sq_append (ys := ([x53.Unit])) hF hS (i := 0) rfl rfl rfl (hS.rw_ (i := 1) rfl).src psl76 pb3 pz3 rfl (by decide) (by decide) hx66 (by decide) (fun A423 c424 a W hF hS => ?_)
                   refine sq_nil (then_j ⟨?_, ?_⟩)
                   · exact fun _ _ => (hS.keep (List.Sublist.refl _) (List.nil_sublist _) ⟨⟨2, rfl⟩, ⟨3, rfl⟩, ⟨4, rfl⟩, trivial⟩)
                   ·
                    have hQC : (fun _ => St M w0 [] [] [fSl k_TAct A59 c60 x53.Mod.Acts, fAt k_TChange (p55.add (x8.toNat * 32)) (TChange.enc x53 A59 c60) x53, fSl k_TChange A0_0 c0_0 u0]) W W := (hS.keep (List.Sublist.refl _) (List.nil_sublist _) ⟨⟨2, rfl⟩, ⟨3, rfl⟩, ⟨4, rfl⟩, trivial⟩)
                    refine e_listed (listed' := #[true, true, true, true, true, true, true, true, true, true, true, true, true, true, false, false, false]) (by kernel_rfl) ?_
                    refine e_one (listed' := #[true, true, true, true, true, true, true, true, true, true, true, true, true, true, true, false, false]) 14 rfl (by kernel_rfl) (by kernel_rfl) ?_
                    refine sq_val (v_slice (κ := (kInt .i64)) (lo := x23.toNat) (hi := x5.length) hF rfl rfl rfl psl76 (.inr ⟨_, _, rfl, by omega, rfl⟩) (.inl ⟨rfl, rfl⟩) (by omega) (by omega) (hS.fc (i := 1) rfl).1) hF (by decide) (fun a hF => ?_)
                    have hcut427 := SlR.cut (xs := x5) (hS.fc (i := 1) rfl) (lo := x23.toNat) (hi := x5.length) (by omega) (by omega)
                    generalize (if c7 = x23.toNat then A6 else Option.map (fun (q : Addr) => q.add (x23.toNat * ((kInt .i64)).sz)) A6) = A425 at hF hcut427
                    generalize c7 - x23.toNat = c426 at hF hcut427
                    have hS := hS.addFact (f := fSl (kInt .i64) A425 c426 ((x5.take x5.length).drop x23.toNat)) hcut427
                    refine sq_nil (then_j ⟨?_, ?_⟩)
                    · exact fun _ _ => (hS.keep (List.Sublist.refl _) (List.nil_sublist _) ⟨⟨3, rfl⟩, ⟨4, rfl⟩, ⟨5, rfl⟩, trivial⟩)
                    ·
                     have hQC : (fun _ => St M w0 [] [] [fSl k_TAct A59 c60 x53.Mod.Acts, fAt k_TChange (p55.add (x8.toNat * 32)) (TChange.enc x53 A59 c60) x53, fSl k_TChange A0_0 c0_0 u0]) W W := (hS.keep (List.Sublist.refl _) (List.nil_sublist _) ⟨⟨3, rfl⟩, ⟨4, rfl⟩, ⟨5, rfl⟩, trivial⟩)
                     refine e_one (listed' := #[true, true, true, true, true, true, true, true, true, true, true, true, true, true, true, true, false]) 15 rfl (by kernel_rfl) (by kernel_rfl) ?_
                     refine sq_append (ys := ((x5.take x5.length).drop x23.toNat)) hF hS (i := 0) rfl rfl rfl (SlR.src (hS.fc (i := 0) rfl)) psl76 pb3 pz3 rfl (by decide) (by decide) hx69 (by decide) (fun A428 c429 a W hF hS => ?_)
                     refine sq_nil (then_j ⟨?_, ?_⟩)
                     · exact fun _ _ => (hS.keep (List.Sublist.refl _) (List.nil_sublist _) ⟨⟨3, rfl⟩, ⟨4, rfl⟩, ⟨5, rfl⟩, trivial⟩)
                     ·
                      have hQC : (fun _ => St M w0 [] [] [fSl k_TAct A59 c60 x53.Mod.Acts, fAt k_TChange (p55.add (x8.toNat * 32)) (TChange.enc x53 A59 c60) x53, fSl k_TChange A0_0 c0_0 u0]) W W := (hS.keep (List.Sublist.refl _) (List.nil_sublist _) ⟨⟨3, rfl⟩, ⟨4, rfl⟩, ⟨5, rfl⟩, trivial⟩)
                      refine e_val (listed' := #[true, true, true, true, true, true, true, true, true, true, true, true, true, true, true, true, true]) 16 rfl (by kernel_rfl) (by kernel_rfl) (fun _ _ _ h => h) (fun W => (v_assign hF rfl)) hF (by decide) (fun a hF => ?_)
                      refine e_done (by kernel_rfl) ?_ _
                      obtain rfl := Option.some.inj h
                      exact then_j ⟨x68, A428, c429, rfl, (hF.keep ⟨rfl, rfl, rfl, trivial⟩), (hS.keep (List.Sublist.refl _) (.cons_cons _ (List.nil_sublist _)) ⟨⟨5, rfl⟩, trivial⟩)⟩
                  ·
                   refine sq_val (v_slice (κ := (kInt .i64)) (lo := x23.toNat) (hi := x5.length) hF rfl rfl rfl psl76 (.inr ⟨_, _, rfl, by omega, rfl⟩) (.inl ⟨rfl, rfl⟩) (by omega) (by omega) (hS.fc (i := 1) rfl).1) hF (by decide) (fun a hF => ?_)
                   have hcut432 := SlR.cut (xs := x5) (hS.fc (i := 1) rfl) (lo := x23.toNat) (hi := x5.length) (by omega) (by omega)
                   generalize (if c7 = x23.toNat then A6 else Option.map (fun (q : Addr) => q.add (x23.toNat * ((kInt .i64)).sz)) A6) = A430 at hF hcut432
                   generalize c7 - x23.toNat = c431 at hF hcut432
                   have hS := hS.addFact (f := fSl (kInt .i64) A430 c431 ((x5.take x5.length).drop x23.toNat)) hcut432
                   refine sq_nil (then_j ⟨?_, ?_⟩)
                   · exact fun _ _ => (hS.keep (List.Sublist.refl _) (List.nil_sublist _) ⟨⟨3, rfl⟩, ⟨4, rfl⟩, ⟨5, rfl⟩, trivial⟩)
                   ·
                    have hQC : (fun _ => St M w0 [] [] [fSl k_TAct A59 c60 x53.Mod.Acts, fAt k_TChange (p55.add (x8.toNat * 32)) (TChange.enc x53 A59 c60) x53, fSl k_TChange A0_0 c0_0 u0]) W W := (hS.keep (List.Sublist.refl _) (List.nil_sublist _) ⟨⟨3, rfl⟩, ⟨4, rfl⟩, ⟨5, rfl⟩, trivial⟩)
                    refine e_listed (listed' := #[true, true, true, true, true, true, true, true, true, true, true, false, true, true, true, false, false]) (by kernel_rfl) ?_
                    refine e_one (listed' := #[true, true, true, true, true, true, true, true, true, true, true, true, true, true, true, false, false]) 11 rfl (by kernel_rfl) (by kernel_rfl) ?_
                    refine sq_append (ys := ([x53.Unit])) hF hS (i := 0) rfl rfl rfl (hS.rw_ (i := 1) rfl).src psl76 pb3 pz3 rfl (by decide) (by decide) hx66 (by decide) (fun A433 c434 a W hF hS => ?_)
                    refine sq_nil (then_j ⟨?_, ?_⟩)
                    · exact fun _ _ => (hS.keep (List.Sublist.refl _) (List.nil_sublist _) ⟨⟨3, rfl⟩, ⟨4, rfl⟩, ⟨5, rfl⟩, trivial⟩)
                    ·
                     have hQC : (fun _ => St M w0 [] [] [fSl k_TAct A59 c60 x53.Mod.Acts, fAt k_TChange (p55.add (x8.toNat * 32)) (TChange.enc x53 A59 c60) x53, fSl k_TChange A0_0 c0_0 u0]) W W := (hS.keep (List.Sublist.refl _) (List.nil_sublist _) ⟨⟨3, rfl⟩, ⟨4, rfl⟩, ⟨5, rfl⟩, trivial⟩)
                     refine e_one (listed' := #[true, true, true, true, true, true, true, true, true, true, true, true, true, true, true, true, false]) 15 rfl (by kernel_rfl) (by kernel_rfl) ?_
                     refine sq_append (ys := ((x5.take x5.length).drop x23.toNat)) hF hS (i := 0) rfl rfl rfl (SlR.src (hS.fc (i := 0) rfl)) psl76 pb3 pz3 rfl (by decide) (by decide) hx69 (by decide) (fun A435 c436 a W hF hS => ?_)
                     refine sq_nil (then_j ⟨?_, ?_⟩)
                     · exact fun _ _ => (hS.keep (List.Sublist.refl _) (List.nil_sublist _) ⟨⟨3, rfl⟩, ⟨4, rfl⟩, ⟨5, rfl⟩, trivial⟩)
                     ·
                      have hQC : (fun _ => St M w0 [] [] [fSl k_TAct A59 c60 x53.Mod.Acts, fAt k_TChange (p55.add (x8.toNat * 32)) (TChange.enc x53 A59 c60) x53, fSl k_TChange A0_0 c0_0 u0]) W W := (hS.keep (List.Sublist.refl _) (List.nil_sublist _) ⟨⟨3, rfl⟩, ⟨4, rfl⟩, ⟨5, rfl⟩, trivial⟩)
                      refine e_val (listed' := #[true, true, true, true, true, true, true, true, true, true, true, true, true, true, true, true, true]) 16 rfl (by kernel_rfl) (by kernel_rfl) (fun _ _ _ h => h) (fun W => (v_assign hF rfl)) hF (by decide) (fun a hF => ?_)
                      refine e_done (by kernel_rfl) ?_ _
                      obtain rfl := Option.some.inj h
                      exact then_j ⟨x68, A435, c436, rfl, (hF.keep ⟨rfl, rfl, rfl, trivial⟩), (hS.keep (List.Sublist.refl _) (.cons_cons _ (List.nil_sublist _)) ⟨⟨5, rfl⟩, trivial⟩)⟩
                ·
                 refine sq_val (v_slice (κ := (kInt .i64)) (lo := x23.toNat) (hi := x5.length) hF rfl rfl rfl psl76 (.inr ⟨_, _, rfl, by omega, rfl⟩) (.inl ⟨rfl, rfl⟩) (by omega) (by omega) (hS.fc (i := 1) rfl).1) hF (by decide) (fun a hF => ?_)
                 have hcut439 := SlR.cut (xs := x5) (hS.fc (i := 1) rfl) (lo := x23.toNat) (hi := x5.length) (by omega) (by omega)
                 generalize (if c7 = x23.toNat then A6 else Option.map (fun (q : Addr) => q.add (x23.toNat * ((kInt .i64)).sz)) A6) = A437 at hF hcut439
                 generalize c7 - x23.toNat = c438 at hF hcut439
                 have hS := hS.addFact (f := fSl (kInt .i64) A437 c438 ((x5.take x5.length).drop x23.toNat)) hcut439
                 refine sq_nil (then_j ⟨?_, ?_⟩)
                 · exact fun _ _ => (hS.keep (List.Sublist.refl _) (List.nil_sublist _) ⟨⟨3, rfl⟩, ⟨4, rfl⟩, ⟨5, rfl⟩, trivial⟩)
                 ·
                  have hQC : (fun _ => St M w0 [] [] [fSl k_TAct A59 c60 x53.Mod.Acts, fAt k_TChange (p55.add (x8.toNat * 32)) (TChange.enc x53 A59 c60) x53, fSl k_TChange A0_0 c0_0 u0]) W W := (hS.keep (List.Sublist.refl _) (List.nil_sublist _) ⟨⟨3, rfl⟩, ⟨4, rfl⟩, ⟨5, rfl⟩, trivial⟩)
                  refine e_listed (listed' := #[true, true, true, true, false, true, true, true, true, true, true, false, true, true, true, false, false]) (by kernel_rfl) ?_
                  refine e_one (listed' := #[true, true, true, true, true, true, true, true, true, true, true, false, true, true, true, false, false]) 4 rfl (by kernel_rfl) (by kernel_rfl) ?_
                  refine sq_append (ys := ((x5.take x23.toNat).drop 0)) hF hS (i := 0) rfl rfl rfl (SlR.src (hS.fc (i := 1) rfl)) psl76 pb3 pz3 rfl (by decide) (by decide) hx64 (by decide) (fun A440 c441 a W hF hS => ?_)
                  refine sq_nil (then_j ⟨?_, ?_⟩)
                  · exact fun _ _ => (hS.keep (List.Sublist.refl _) (List.nil_sublist _) ⟨⟨3, rfl⟩, ⟨4, rfl⟩, ⟨5, rfl⟩, trivial⟩)
                  ·
                   have hQC : (fun _ => St M w0 [] [] [fSl k_TAct A59 c60 x53.Mod.Acts, fAt k_TChange (p55.add (x8.toNat * 32)) (TChange.enc x53 A59 c60) x53, fSl k_TChange A0_0 c0_0 u0]) W W := (hS.keep (List.Sublist.refl _) (List.nil_sublist _) ⟨⟨3, rfl⟩, ⟨4, rfl⟩, ⟨5, rfl⟩, trivial⟩)
                   refine e_one (listed' := #[true, true, true, true, true, true, true, true, true, true, true, true, true, true, true, false, false]) 11 rfl (by kernel_rfl) (by kernel_rfl) ?_
                   refine sq_append (ys := ([x53.Unit])) hF hS (i := 0) rfl rfl rfl (hS.rw_ (i := 1) rfl).src psl76 pb3 pz3 rfl (by decide) (by decide) hx66 (by decide) (fun A442 c443 a W hF hS => ?_)
                   refine sq_nil (then_j ⟨?_, ?_⟩)
                   · exact fun _ _ => (hS.keep (List.Sublist.refl _) (List.nil_sublist _) ⟨⟨3, rfl⟩, ⟨4, rfl⟩, ⟨5, rfl⟩, trivial⟩)
                   ·
                    have hQC : (fun _ => St M w0 [] [] [fSl k_TAct A59 c60 x53.Mod.Acts, fAt k_TChange (p55.add (x8.toNat * 32)) (TChange.enc x53 A59 c60) x53, fSl k_TChange A0_0 c0_0 u0]) W W := (hS.keep (List.Sublist.refl _) (List.nil_sublist _) ⟨⟨3, rfl⟩, ⟨4, rfl⟩, ⟨5, rfl⟩, trivial⟩)
                    refine e_one (listed' := #[true, true, true, true, true, true, true, true, true, true, true, true, true, true, true, true, false]) 15 rfl (by kernel_rfl) (by kernel_rfl) ?_
                    refine sq_append (ys := ((x5.take x5.length).drop x23.toNat)) hF hS (i := 0) rfl rfl rfl (SlR.src (hS.fc (i := 0) rfl)) psl76 pb3 pz3 rfl (by decide) (by decide) hx69 (by decide) (fun A444 c445 a W hF hS => ?_)
                    refine sq_nil (then_j ⟨?_, ?_⟩)
                    · exact fun _ _ => (hS.keep (List.Sublist.refl _) (List.nil_sublist _) ⟨⟨3, rfl⟩, ⟨4, rfl⟩, ⟨5, rfl⟩, trivial⟩)
                    ·
                     have hQC : (fun _ => St M w0 [] [] [fSl k_TAct A59 c60 x53.Mod.Acts, fAt k_TChange (p55.add (x8.toNat * 32)) (TChange.enc x53 A59 c60) x53, fSl k_TChange A0_0 c0_0 u0]) W W := (hS.keep (List.Sublist.refl _) (List.nil_sublist _) ⟨⟨3, rfl⟩, ⟨4, rfl⟩, ⟨5, rfl⟩, trivial⟩)
                     refine e_val (listed' := #[true, true, true, true, true, true, true, true, true, true, true, true, true, true, true, true, true]) 16 rfl (by kernel_rfl) (by kernel_rfl) (fun _ _ _ h => h) (fun W => (v_assign hF rfl)) hF (by decide) (fun a hF => ?_)
                     refine e_done (by kernel_rfl) ?_ _
                     obtain rfl := Option.some.inj h
                     exact then_j ⟨x68, A444, c445, rfl, (hF.keep ⟨rfl, rfl, rfl, trivial⟩), (hS.keep (List.Sublist.refl _) (.cons_cons _ (List.nil_sublist _)) ⟨⟨5, rfl⟩, trivial⟩)⟩
              ·
               refine sq_val (v_slice (κ := (kInt .i64)) (lo := x23.toNat) (hi := x5.length) hF rfl rfl rfl psl76 (.inr ⟨_, _, rfl, by omega, rfl⟩) (.inl ⟨rfl, rfl⟩) (by omega) (by omega) (hS.fc (i := 1) rfl).1) hF (by decide) (fun a hF => ?_)
               have hcut448 := SlR.cut (xs := x5) (hS.fc (i := 1) rfl) (lo := x23.toNat) (hi := x5.length) (by omega) (by omega)
               generalize (if c7 = x23.toNat then A6 else Option.map (fun (q : Addr) => q.add (x23.toNat * ((kInt .i64)).sz)) A6) = A446 at hF hcut448
               generalize c7 - x23.toNat = c447 at hF hcut448
               have hS := hS.addFact (f := fSl (kInt .i64) A446 c447 ((x5.take x5.length).drop x23.toNat)) hcut448
               refine sq_nil (then_j ⟨?_, ?_⟩)
               · exact fun _ _ => (hS.keep (List.Sublist.refl _) (List.nil_sublist _) ⟨⟨3, rfl⟩, ⟨4, rfl⟩, ⟨5, rfl⟩, trivial⟩)
               ·
                have hQC : (fun _ => St M w0 [] [] [fSl k_TAct A59 c60 x53.Mod.Acts, fAt k_TChange (p55.add (x8.toNat * 32)) (TChange.enc x53 A59 c60) x53, fSl k_TChange A0_0 c0_0 u0]) W W := (hS.keep (List.Sublist.refl _) (List.nil_sublist _) ⟨⟨3, rfl⟩, ⟨4, rfl⟩, ⟨5, rfl⟩, trivial⟩)
                refine e_listed (listed' := #[false, true, true, true, false, true, true, true, true, true, true, false, true, true, true, false, false]) (by kernel_rfl) ?_
                refine e_one (listed' := #[true, true, true, true, false, true, true, true, true, true, true, false, true, true, true, false, false]) 0 rfl (by kernel_rfl) (by kernel_rfl) ?_
                refine sq_buildSlice (κ := (kInt .i64)) (xs := []) (ys := ([] : List Int)) hF hS rfl rfl rfl (Els.nil _ _ _) rfl psl76 pz3 rfl (by decide) (by decide) (by decide) (fun A449 c450 a W hF hS => ?_)
                refine sq_nil (then_j ⟨?_, ?_⟩)
                · exact fun _ _ => (hS.keep (List.Sublist.refl _) (List.nil_sublist _) ⟨⟨3, rfl⟩, ⟨4, rfl⟩, ⟨5, rfl⟩, trivial⟩)
                ·
                 have hQC : (fun _ => St M w0 [] [] [fSl k_TAct A59 c60 x53.Mod.Acts, fAt k_TChange (p55.add (x8.toNat * 32)) (TChange.enc x53 A59 c60) x53, fSl k_TChange A0_0 c0_0 u0]) W W := (hS.keep (List.Sublist.refl _) (List.nil_sublist _) ⟨⟨3, rfl⟩, ⟨4, rfl⟩, ⟨5, rfl⟩, trivial⟩)
                 refine e_one (listed' := #[true, true, true, true, true, true, true, true, true, true, true, false, true, true, true, false, false]) 4 rfl (by kernel_rfl) (by kernel_rfl) ?_
                 refine sq_append (ys := ((x5.take x23.toNat).drop 0)) hF hS (i := 0) rfl rfl rfl (SlR.src (hS.fc (i := 1) rfl)) psl76 pb3 pz3 rfl (by decide) (by decide) hx64 (by decide) (fun A451 c452 a W hF hS => ?_)
                 refine sq_nil (then_j ⟨?_, ?_⟩)
                 · exact fun _ _ => (hS.keep (List.Sublist.refl _) (List.nil_sublist _) ⟨⟨3, rfl⟩, ⟨4, rfl⟩, ⟨5, rfl⟩, trivial⟩)
                 ·
                  have hQC : (fun _ => St M w0 [] [] [fSl k_TAct A59 c60 x53.Mod.Acts, fAt k_TChange (p55.add (x8.toNat * 32)) (TChange.enc x53 A59 c60) x53, fSl k_TChange A0_0 c0_0 u0]) W W := (hS.keep (List.Sublist.refl _) (List.nil_sublist _) ⟨⟨3, rfl⟩, ⟨4, rfl⟩, ⟨5, rfl⟩, trivial⟩)
                  refine e_one (listed' := #[true, true, true, true, true, true, true, true, true, true, true, true, true, true, true, false, false]) 11 rfl (by kernel_rfl) (by kernel_rfl) ?_
                  refine sq_append (ys := ([x53.Unit])) hF hS (i := 0) rfl rfl rfl (hS.rw_ (i := 1) rfl).src psl76 pb3 pz3 rfl (by decide) (by decide) hx66 (by decide) (fun A453 c454 a W hF hS => ?_)
                  refine sq_nil (then_j ⟨?_, ?_⟩)
                  · exact fun _ _ => (hS.keep (List.Sublist.refl _) (List.nil_sublist _) ⟨⟨3, rfl⟩, ⟨4, rfl⟩, ⟨5, rfl⟩, trivial⟩)
                  ·
                   have hQC : (fun _ => St M w0 [] [] [fSl k_TAct A59 c60 x53.Mod.Acts, fAt k_TChange (p55.add (x8.toNat * 32)) (TChange.enc x53 A59 c60) x53, fSl k_TChange A0_0 c0_0 u0]) W W := (hS.keep (List.Sublist.refl _) (List.nil_sublist _) ⟨⟨3, rfl⟩, ⟨4, rfl⟩, ⟨5, rfl⟩, trivial⟩)
                   refine e_one (listed' := #[true, true, true, true, true, true, true, true, true, true, true, true, true, true, true, true, false]) 15 rfl (by kernel_rfl) (by kernel_rfl) ?_
                   refine sq_append (ys := ((x5.take x5.length).drop x23.toNat)) hF hS (i := 0) rfl rfl rfl (SlR.src (hS.fc (i := 0) rfl)) psl76 pb3 pz3 rfl (by decide) (by decide) hx69 (by decide) (fun A455 c456 a W hF hS => ?_)
                   refine sq_nil (then_j ⟨?_, ?_⟩)
                   · exact fun _ _ => (hS.keep (List.Sublist.refl _) (List.nil_sublist _) ⟨⟨3, rfl⟩, ⟨4, rfl⟩, ⟨5, rfl⟩, trivial⟩)
                   ·
                    have hQC : (fun _ => St M w0 [] [] [fSl k_TAct A59 c60 x53.Mod.Acts, fAt k_TChange (p55.add (x8.toNat * 32)) (TChange.enc x53 A59 c60) x53, fSl k_TChange A0_0 c0_0 u0]) W W := (hS.keep (List.Sublist.refl _) (List.nil_sublist _) ⟨⟨3, rfl⟩, ⟨4, rfl⟩, ⟨5, rfl⟩, trivial⟩)
                    refine e_val (listed' := #[true, true, true, true, true, true, true, true, true, true, true, true, true, true, true, true, true]) 16 rfl (by kernel_rfl) (by kernel_rfl) (fun _ _ _ h => h) (fun W => (v_assign hF rfl)) hF (by decide) (fun a hF => ?_)
                    refine e_done (by kernel_rfl) ?_ _
                    obtain rfl := Option.some.inj h
                    exact then_j ⟨x68, A455, c456, rfl, (hF.keep ⟨rfl, rfl, rfl, trivial⟩), (hS.keep (List.Sublist.refl _) (.cons_cons _ (List.nil_sublist _)) ⟨⟨5, rfl⟩, trivial⟩)⟩
            ·
             have hS := hS.freeze (i := 1) rfl (posB rfl)
             refine sq_val (v_slice (κ := (kInt .i64)) (lo := x23.toNat) (hi := x5.length) hF rfl rfl rfl psl76 (.inr ⟨_, _, rfl, by omega, rfl⟩) (.inl ⟨rfl, rfl⟩) (by omega) (by omega) (hS.fc (i := 0) rfl).1) hF (by decide) (fun a hF => ?_)
             have hcut459 := SlR.cut (xs := x5) (hS.fc (i := 0) rfl) (lo := x23.toNat) (hi := x5.length) (by omega) (by omega)
             generalize (if c7 = x23.toNat then A6 else Option.map (fun (q : Addr) => q.add (x23.toNat * ((kInt .i64)).sz)) A6) = A457 at hF hcut459
             generalize c7 - x23.toNat = c458 at hF hcut459
             have hS := hS.addFact (f := fSl (kInt .i64) A457 c458 ((x5.take x5.length).drop x23.toNat)) hcut459
             refine sq_nil (then_j ⟨?_, ?_⟩)
             · exact fun _ _ => (hS.keep (List.Sublist.refl _) (List.nil_sublist _) ⟨⟨2, rfl⟩, ⟨3, rfl⟩, ⟨4, rfl⟩, trivial⟩)
             ·
              have hQC : (fun _ => St M w0 [] [] [fSl k_TAct A59 c60 x53.Mod.Acts, fAt k_TChange (p55.add (x8.toNat * 32)) (TChange.enc x53 A59 c60) x53, fSl k_TChange A0_0 c0_0 u0]) W W := (hS.keep (List.Sublist.refl _) (List.nil_sublist _) ⟨⟨2, rfl⟩, ⟨3, rfl⟩, ⟨4, rfl⟩, trivial⟩)
              refine e_listed (listed' := #[false, true, true, false, false, true, true, true, true, true, true, false, true, true, true, false, false]) (by kernel_rfl) ?_
              refine e_many [0, 3] (by kernel_rfl) (by decide) ⟨⟨_, rfl, ?_⟩, ⟨_, rfl, ?_⟩, trivial⟩
              ·
               refine sq_buildSlice (κ := (kInt .i64)) (xs := []) (ys := ([] : List Int)) hF hS rfl rfl rfl (Els.nil _ _ _) rfl psl76 pz3 rfl (by decide) (by decide) (by decide) (fun A460 c461 a W hF hS => ?_)
               refine sq_nil (then_j ⟨?_, ?_⟩)
               · exact fun _ _ => (hS.keep (List.Sublist.refl _) (List.nil_sublist _) ⟨⟨2, rfl⟩, ⟨3, rfl⟩, ⟨4, rfl⟩, trivial⟩)
               ·
                have hQC : (fun _ => St M w0 [] [] [fSl k_TAct A59 c60 x53.Mod.Acts, fAt k_TChange (p55.add (x8.toNat * 32)) (TChange.enc x53 A59 c60) x53, fSl k_TChange A0_0 c0_0 u0]) W W := (hS.keep (List.Sublist.refl _) (List.nil_sublist _) ⟨⟨2, rfl⟩, ⟨3, rfl⟩, ⟨4, rfl⟩, trivial⟩)
                refine e_listed (listed' := #[true, true, true, false, false, true, true, true, true, true, true, false, true, true, true, false, false]) (by kernel_rfl) ?_
                refine e_one (listed' := #[true, true, true, true, false, true, true, true, true, true, true, false, true, true, true, false, false]) 3 rfl (by kernel_rfl) (by kernel_rfl) ?_
                refine sq_val (v_slice (κ := (kInt .i64)) (lo := 0) (hi := x23.toNat) hF rfl rfl rfl psl76 (.inl ⟨rfl, rfl⟩) (.inr ⟨_, _, rfl, by omega, rfl⟩) (by omega) (by omega) (hS.fc (i := 1) rfl).1) hF (by decide) (fun a hF => ?_)
                have hcut464 := SlR.cut (xs := x5) (hS.fc (i := 1) rfl) (lo := 0) (hi := x23.toNat) (by omega) (by omega)
                generalize (if c7 = 0 then A6 else Option.map (fun (q : Addr) => q.add (0 * ((kInt .i64)).sz)) A6) = A462 at hF hcut464
                generalize c7 - 0 = c463 at hF hcut464
                have hS := hS.addFact (f := fSl (kInt .i64) A462 c463 ((x5.take x23.toNat).drop 0)) hcut464
                refine sq_nil (then_j ⟨?_, ?_⟩)
                · exact fun _ _ => (hS.keep (List.Sublist.refl _) (List.nil_sublist _) ⟨⟨3, rfl⟩, ⟨4, rfl⟩, ⟨5, rfl⟩, trivial⟩)
                ·
                 have hQC : (fun _ => St M w0 [] [] [fSl k_TAct A59 c60 x53.Mod.Acts, fAt k_TChange (p55.add (x8.toNat * 32)) (TChange.enc x53 A59 c60) x53, fSl k_TChange A0_0 c0_0 u0]) W W := (hS.keep (List.Sublist.refl _) (List.nil_sublist _) ⟨⟨3, rfl⟩, ⟨4, rfl⟩, ⟨5, rfl⟩, trivial⟩)
                 refine e_one (listed' := #[true, true, true, true, true, true, true, true, true, true, true, false, true, true, true, false, false]) 4 rfl (by kernel_rfl) (by kernel_rfl) ?_
                 refine sq_append (ys := ((x5.take x23.toNat).drop 0)) hF hS (i := 0) rfl rfl rfl (SlR.src (hS.fc (i := 0) rfl)) psl76 pb3 pz3 rfl (by decide) (by decide) hx64 (by decide) (fun A465 c466 a W hF hS => ?_)
                 refine sq_nil (then_j ⟨?_, ?_⟩)
                 · exact fun _ _ => (hS.keep (List.Sublist.refl _) (List.nil_sublist _) ⟨⟨3, rfl⟩, ⟨4, rfl⟩, ⟨5, rfl⟩, trivial⟩)
                 ·
                  have hQC : (fun _ => St M w0 [] [] [fSl k_TAct A59 c60 x53.Mod.Acts, fAt k_TChange (p55.add (x8.toNat * 32)) (TChange.enc x53 A59 c60) x53, fSl k_TChange A0_0 c0_0 u0]) W W := (hS.keep (List.Sublist.refl _) (List.nil_sublist _) ⟨⟨3, rfl⟩, ⟨4, rfl⟩, ⟨5, rfl⟩, trivial⟩)
                  refine e_one (listed' := #[true, true, true, true, true, true, true, true, true, true, true, true, true, true, true, false, false]) 11 rfl (by kernel_rfl) (by kernel_rfl) ?_
                  refine sq_append (ys := ([x53.Unit])) hF hS (i := 0) rfl rfl rfl (hS.rw_ (i := 1) rfl).src psl76 pb3 pz3 rfl (by decide) (by decide) hx66 (by decide) (fun A467 c468 a W hF hS => ?_)
                  refine sq_nil (then_j ⟨?_, ?_⟩)
                  · exact fun _ _ => (hS.keep (List.Sublist.refl _) (List.nil_sublist _) ⟨⟨3, rfl⟩, ⟨4, rfl⟩, ⟨5, rfl⟩, trivial⟩)
                  ·
                   have hQC : (fun _ => St M w0 [] [] [fSl k_TAct A59 c60 x53.Mod.Acts, fAt k_TChange (p55.add (x8.toNat * 32)) (TChange.enc x53 A59 c60) x53, fSl k_TChange A0_0 c0_0 u0]) W W := (hS.keep (List.Sublist.refl _) (List.nil_sublist _) ⟨⟨3, rfl⟩, ⟨4, rfl⟩, ⟨5, rfl⟩, trivial⟩)
                   refine e_one (listed' := #[true, true, true, true, true, true, true, true, true, true, true, true, true, true, true, true, false]) 15 rfl (by kernel_rfl) (by kernel_rfl) ?_
                   refine sq_append (ys := ((x5.take x5.length).drop x23.toNat)) hF hS (i := 0) rfl rfl rfl (SlR.src (hS.fc (i := 1) rfl)) psl76 pb3 pz3 rfl (by decide) (by decide) hx69 (by decide) (fun A469 c470 a W hF hS => ?_)
                   refine sq_nil (then_j ⟨?_, ?_⟩)
                   · exact fun _ _ => (hS.keep (List.Sublist.refl _) (List.nil_sublist _) ⟨⟨3, rfl⟩, ⟨4, rfl⟩, ⟨5, rfl⟩, trivial⟩)
                   ·
                    have hQC : (fun _ => St M w0 [] [] [fSl k_TAct A59 c60 x53.Mod.Acts, fAt k_TChange (p55.add (x8.toNat * 32)) (TChange.enc x53 A59 c60) x53, fSl k_TChange A0_0 c0_0 u0]) W W := (hS.keep (List.Sublist.refl _) (List.nil_sublist _) ⟨⟨3, rfl⟩, ⟨4, rfl⟩, ⟨5, rfl⟩, trivial⟩)
                    refine e_val (listed' := #[true, true, true, true, true, true, true, true, true, true, true, true, true, true, true, true, true]) 16 rfl (by kernel_rfl) (by kernel_rfl) (fun _ _ _ h => h) (fun W => (v_assign hF rfl)) hF (by decide) (fun a hF => ?_)
                    refine e_done (by kernel_rfl) ?_ _
                    obtain rfl := Option.some.inj h
                    exact then_j ⟨x68, A469, c470, rfl, (hF.keep ⟨rfl, rfl, rfl, trivial⟩), (hS.keep (List.Sublist.refl _) (.cons_cons _ (List.nil_sublist _)) ⟨⟨5, rfl⟩, trivial⟩)⟩
              ·
               refine sq_val (v_slice (κ := (kInt .i64)) (lo := 0) (hi := x23.toNat) hF rfl rfl rfl psl76 (.inl ⟨rfl, rfl⟩) (.inr ⟨_, _, rfl, by omega, rfl⟩) (by omega) (by omega) (hS.fc (i := 1) rfl).1) hF (by decide) (fun a hF => ?_)
               have hcut473 := SlR.cut (xs := x5) (hS.fc (i := 1) rfl) (lo := 0) (hi := x23.toNat) (by omega) (by omega)
               generalize (if c7 = 0 then A6 else Option.map (fun (q : Addr) => q.add (0 * ((kInt .i64)).sz)) A6) = A471 at hF hcut473
               generalize c7 - 0 = c472 at hF hcut473
               have hS := hS.addFact (f := fSl (kInt .i64) A471 c472 ((x5.take x23.toNat).drop 0)) hcut473
               refine sq_nil (then_j ⟨?_, ?_⟩)
               · exact fun _ _ => (hS.keep (List.Sublist.refl _) (List.nil_sublist _) ⟨⟨3, rfl⟩, ⟨4, rfl⟩, ⟨5, rfl⟩, trivial⟩)
               ·
                have hQC : (fun _ => St M w0 [] [] [fSl k_TAct A59 c60 x53.Mod.Acts, fAt k_TChange (p55.add (x8.toNat * 32)) (TChange.enc x53 A59 c60) x53, fSl k_TChange A0_0 c0_0 u0]) W W := (hS.keep (List.Sublist.refl _) (List.nil_sublist _) ⟨⟨3, rfl⟩, ⟨4, rfl⟩, ⟨5, rfl⟩, trivial⟩)
                refine e_listed (listed' := #[false, true, true, true, false, true, true, true, true, true, true, false, true, true, true, false, false]) (by kernel_rfl) ?_
                refine e_one (listed' := #[true, true, true, true, false, true, true, true, true, true, true, false, true, true, true, false, false]) 0 rfl (by kernel_rfl) (by kernel_rfl) ?_
                refine sq_buildSlice (κ := (kInt .i64)) (xs := []) (ys := ([] : List Int)) hF hS rfl rfl rfl (Els.nil _ _ _) rfl psl76 pz3 rfl (by decide) (by decide) (by decide) (fun A474 c475 a W hF hS => ?_)
                refine sq_nil (then_j ⟨?_, ?_⟩)
                · exact fun _ _ => (hS.keep (List.Sublist.refl _) (List.nil_sublist _) ⟨⟨3, rfl⟩, ⟨4, rfl⟩, ⟨5, rfl⟩, trivial⟩)
                ·
                 have hQC : (fun _ => St M w0 [] [] [fSl k_TAct A59 c60 x53.Mod.Acts, fAt k_TChange (p55.add (x8.toNat * 32)) (TChange.enc x53 A59 c60) x53, fSl k_TChange A0_0 c0_0 u0]) W W := (hS.keep (List.Sublist.refl _) (List.nil_sublist _) ⟨⟨3, rfl⟩, ⟨4, rfl⟩, ⟨5, rfl⟩, trivial⟩)
                 refine e_one (listed' := #[true, true, true, true, true, true, true, true, true, true, true, false, true, true, true, false, false]) 4 rfl (by kernel_rfl) (by kernel_rfl) ?_
                 refine sq_append (ys := ((x5.take x23.toNat).drop 0)) hF hS (i := 0) rfl rfl rfl (SlR.src (hS.fc (i := 0) rfl)) psl76 pb3 pz3 rfl (by decide) (by decide) hx64 (by decide) (fun A476 c477 a W hF hS => ?_)
                 refine sq_nil (then_j ⟨?_, ?_⟩)
                 · exact fun _ _ => (hS.keep (List.Sublist.refl _) (List.nil_sublist _) ⟨⟨3, rfl⟩, ⟨4, rfl⟩, ⟨5, rfl⟩, trivial⟩)
                 ·
                  have hQC : (fun _ => St M w0 [] [] [fSl k_TAct A59 c60 x53.Mod.Acts, fAt k_TChange (p55.add (x8.toNat * 32)) (TChange.enc x53 A59 c60) x53, fSl k_TChange A0_0 c0_0 u0]) W W := (hS.keep (List.Sublist.refl _) (List.nil_sublist _) ⟨⟨3, rfl⟩, ⟨4, rfl⟩, ⟨5, rfl⟩, trivial⟩)
                  refine e_one (listed' := #[true, true, true, true, true, true, true, true, true, true, true, true, true, true, true, false, false]) 11 rfl (by kernel_rfl) (by kernel_rfl) ?_
                  refine sq_append (ys := ([x53.Unit])) hF hS (i := 0) rfl rfl rfl (hS.rw_ (i := 1) rfl).src psl76 pb3 pz3 rfl (by decide) (by decide) hx66 (by decide) (fun A478 c479 a W hF hS => ?_)
                  refine sq_nil (then_j ⟨?_, ?_⟩)
                  · exact fun _ _ => (hS.keep (List.Sublist.refl _) (List.nil_sublist _) ⟨⟨3, rfl⟩, ⟨4, rfl⟩, ⟨5, rfl⟩, trivial⟩)
                  ·
                   have hQC : (fun _ => St M w0 [] [] [fSl k_TAct A59 c60 x53.Mod.Acts, fAt k_TChange (p55.add (x8.toNat * 32)) (TChange.enc x53 A59 c60) x53, fSl k_TChange A0_0 c0_0 u0]) W W := (hS.keep (List.Sublist.refl _) (List.nil_sublist _) ⟨⟨3, rfl⟩, ⟨4, rfl⟩, ⟨5, rfl⟩, trivial⟩)
                   refine e_one (listed' := #[true, true, true, true, true, true, true, true, true, true, true, true, true, true, true, true, false]) 15 rfl (by kernel_rfl) (by kernel_rfl) ?_
                   refine sq_append (ys := ((x5.take x5.length).drop x23.toNat)) hF hS (i := 0) rfl rfl rfl (SlR.src (hS.fc (i := 1) rfl)) psl76 pb3 pz3 rfl (by decide) (by decide) hx69 (by decide) (fun A480 c481 a W hF hS => ?_)
                   refine sq_nil (then_j ⟨?_, ?_⟩)
                   · exact fun _ _ => (hS.keep (List.Sublist.refl _) (List.nil_sublist _) ⟨⟨3, rfl⟩, ⟨4, rfl⟩, ⟨5, rfl⟩, trivial⟩)
                   ·
                    have hQC : (fun _ => St M w0 [] [] [fSl k_TAct A59 c60 x53.Mod.Acts, fAt k_TChange (p55.add (x8.toNat * 32)) (TChange.enc x53 A59 c60) x53, fSl k_TChange A0_0 c0_0 u0]) W W := (hS.keep (List.Sublist.refl _) (List.nil_sublist _) ⟨⟨3, rfl⟩, ⟨4, rfl⟩, ⟨5, rfl⟩, trivial⟩)
                    refine e_val (listed' := #[true, true, true, true, true, true, true, true, true, true, true, true, true, true, true, true, true]) 16 rfl (by kernel_rfl) (by kernel_rfl) (fun _ _ _ h => h) (fun W => (v_assign hF rfl)) hF (by decide) (fun a hF => ?_)
                    refine e_done (by kernel_rfl) ?_ _
                    obtain rfl := Option.some.inj h
                    exact then_j ⟨x68, A480, c481, rfl, (hF.keep ⟨rfl, rfl, rfl, trivial⟩), (hS.keep (List.Sublist.refl _) (.cons_cons _ (List.nil_sublist _)) ⟨⟨5, rfl⟩, trivial⟩)⟩
          ·
           have hS := hS.freeze (i := 0) rfl (posB rfl)
           refine sq_val (v_slice (κ := (kInt .i64)) (lo := x23.toNat) (hi := x5.length) hF rfl rfl rfl psl76 (.inr ⟨_, _, rfl, by omega, rfl⟩) (.inl ⟨rfl, rfl⟩) (by omega) (by omega) (hS.fc (i := 0) rfl).1) hF (by decide) (fun a hF => ?_)
           have hcut484 := SlR.cut (xs := x5) (hS.fc (i := 0) rfl) (lo := x23.toNat) (hi := x5.length) (by omega) (by omega)
           generalize (if c7 = x23.toNat then A6 else Option.map (fun (q : Addr) => q.add (x23.toNat * ((kInt .i64)).sz)) A6) = A482 at hF hcut484
           generalize c7 - x23.toNat = c483 at hF hcut484
           have hS := hS.addFact (f := fSl (kInt .i64) A482 c483 ((x5.take x5.length).drop x23.toNat)) hcut484
           refine sq_nil (then_j ⟨?_, ?_⟩)
           · exact fun _ _ => (hS.keep (List.Sublist.refl _) (List.Sublist.refl _) ⟨⟨2, rfl⟩, ⟨3, rfl⟩, ⟨4, rfl⟩, trivial⟩)
           ·
            have hQC : (fun _ => St M w0 [] [] [fSl k_TAct A59 c60 x53.Mod.Acts, fAt k_TChange (p55.add (x8.toNat * 32)) (TChange.enc x53 A59 c60) x53, fSl k_TChange A0_0 c0_0 u0]) W W := (hS.keep (List.Sublist.refl _) (List.Sublist.refl _) ⟨⟨2, rfl⟩, ⟨3, rfl⟩, ⟨4, rfl⟩, trivial⟩)
            refine e_listed (listed' := #[false, true, true, false, false, true, true, true, true, true, false, false, true, true, true, false, false]) (by kernel_rfl) ?_
            refine e_many [0, 3, 10] (by kernel_rfl) (by decide) ⟨⟨_, rfl, ?_⟩, ⟨_, rfl, ?_⟩, ⟨_, rfl, ?_⟩, trivial⟩
            ·
             refine sq_buildSlice (κ := (kInt .i64)) (xs := []) (ys := ([] : List Int)) hF hS rfl rfl rfl (Els.nil _ _ _) rfl psl76 pz3 rfl (by decide) (by decide) (by decide) (fun A485 c486 a W hF hS => ?_)
             refine sq_nil (then_j ⟨?_, ?_⟩)
             · exact fun _ _ => (hS.keep (List.Sublist.refl _) (List.nil_sublist _) ⟨⟨2, rfl⟩, ⟨3, rfl⟩, ⟨4, rfl⟩, trivial⟩)
             ·
              have hQC : (fun _ => St M w0 [] [] [fSl k_TAct A59 c60 x53.Mod.Acts, fAt k_TChange (p55.add (x8.toNat * 32)) (TChange.enc x53 A59 c60) x53, fSl k_TChange A0_0 c0_0 u0]) W W := (hS.keep (List.Sublist.refl _) (List.nil_sublist _) ⟨⟨2, rfl⟩, ⟨3, rfl⟩, ⟨4, rfl⟩, trivial⟩)
              refine e_listed (listed' := #[true, true, true, false, false, true, true, true, true, true, false, false, true, true, true, false, false]) (by kernel_rfl) ?_
              refine e_many [3, 10] (by kernel_rfl) (by decide) ⟨⟨_, rfl, ?_⟩, ⟨_, rfl, ?_⟩, trivial⟩
              ·
               refine sq_val (v_slice (κ := (kInt .i64)) (lo := 0) (hi := x23.toNat) hF rfl rfl rfl psl76 (.inl ⟨rfl, rfl⟩) (.inr ⟨_, _, rfl, by omega, rfl⟩) (by omega) (by omega) (hS.fc (i := 1) rfl).1) hF (by decide) (fun a hF => ?_)
               have hcut489 := SlR.cut (xs := x5) (hS.fc (i := 1) rfl) (lo := 0) (hi := x23.toNat) (by omega) (by omega)
               generalize (if c7 = 0 then A6 else Option.map (fun (q : Addr) => q.add (0 * ((kInt .i64)).sz)) A6) = A487 at hF hcut489
               generalize c7 - 0 = c488 at hF hcut489
               have hS := hS.addFact (f := fSl (kInt .i64) A487 c488 ((x5.take x23.toNat).drop 0)) hcut489
               refine sq_nil (then_j ⟨?_, ?_⟩)
               · exact fun _ _ => (hS.keep (List.Sublist.refl _) (List.nil_sublist _) ⟨⟨3, rfl⟩, ⟨4, rfl⟩, ⟨5, rfl⟩, trivial⟩)
               ·
                have hQC : (fun _ => St M w0 [] [] [fSl k_TAct A59 c60 x53.Mod.Acts, fAt k_TChange (p55.add (x8.toNat * 32)) (TChange.enc x53 A59 c60) x53, fSl k_TChange A0_0 c0_0 u0]) W W := (hS.keep (List.Sublist.refl _) (List.nil_sublist _) ⟨⟨3, rfl⟩, ⟨4, rfl⟩, ⟨5, rfl⟩, trivial⟩)
                refine e_listed (listed' := #[true, true, true, true, false, true, true, true, true, true, false, false, true, true, true, false, false]) (by kernel_rfl) ?_
                refine e_many [4, 10] (by kernel_rfl) (by decide) ⟨⟨_, rfl, ?_⟩, ⟨_, rfl, ?_⟩, trivial⟩
                ·
                 refine sq_append (ys := ((x5.take x23.toNat).drop 0)) hF hS (i := 0) rfl rfl rfl (SlR.src (hS.fc (i := 0) rfl)) psl76 pb3 pz3 rfl (by decide) (by decide) hx64 (by decide) (fun A490 c491 a W hF hS => ?_)
                 refine sq_nil (then_j ⟨?_, ?_⟩)
                 · exact fun _ _ => (hS.keep (List.Sublist.refl _) (List.nil_sublist _) ⟨⟨3, rfl⟩, ⟨4, rfl⟩, ⟨5, rfl⟩, trivial⟩)
                 ·
                  have hQC : (fun _ => St M w0 [] [] [fSl k_TAct A59 c60 x53.Mod.Acts, fAt k_TChange (p55.add (x8.toNat * 32)) (TChange.enc x53 A59 c60) x53, fSl k_TChange A0_0 c0_0 u0]) W W := (hS.keep (List.Sublist.refl _) (List.nil_sublist _) ⟨⟨3, rfl⟩, ⟨4, rfl⟩, ⟨5, rfl⟩, trivial⟩)
                  refine e_listed (listed' := #[true, true, true, true, true, true, true, true, true, true, false, false, true, true, true, false, false]) (by kernel_rfl) ?_
                  refine e_one (listed' := #[true, true, true, true, true, true, true, true, true, true, true, false, true, true, true, false, false]) 10 rfl (by kernel_rfl) (by kernel_rfl) ?_
                  refine sq_buildSlice (κ := (kInt .i64)) (xs := [.tmp 55]) (ys := [x53.Unit]) hF hS rfl rfl rfl (Els.cons rfl (Els.nil _ _ _)) rfl psl76 pz3 rfl (by decide) (by decide) (by decide) (fun A492 c493 a W hF hS => ?_)
                  refine sq_nil (then_j ⟨?_, ?_⟩)
                  · exact fun _ _ => (hS.keep (List.Sublist.refl _) (List.nil_sublist _) ⟨⟨3, rfl⟩, ⟨4, rfl⟩, ⟨5, rfl⟩, trivial⟩)
                  ·
                   have hQC : (fun _ => St M w0 [] [] [fSl k_TAct A59 c60 x53.Mod.Acts, fAt k_TChange (p55.add (x8.toNat * 32)) (TChange.enc x53 A59 c60) x53, fSl k_TChange A0_0 c0_0 u0]) W W := (hS.keep (List.Sublist.refl _) (List.nil_sublist _) ⟨⟨3, rfl⟩, ⟨4, rfl⟩, ⟨5, rfl⟩, trivial⟩)
                   refine e_one (listed' := #[true, true, true, true, true, true, true, true, true, true, true, true, true, true, true, false, false]) 11 rfl (by kernel_rfl) (by kernel_rfl) ?_
                   refine sq_append (ys := ([x53.Unit])) hF hS (i := 1) rfl rfl rfl (hS.rw_ (i := 0) rfl).src psl76 pb3 pz3 rfl (by decide) (by decide) hx66 (by decide) (fun A494 c495 a W hF hS => ?_)
                   refine sq_nil (then_j ⟨?_, ?_⟩)
                   · exact fun _ _ => (hS.keep (List.Sublist.refl _) (List.nil_sublist _) ⟨⟨3, rfl⟩, ⟨4, rfl⟩, ⟨5, rfl⟩, trivial⟩)
                   ·
                    have hQC : (fun _ => St M w0 [] [] [fSl k_TAct A59 c60 x53.Mod.Acts, fAt k_TChange (p55.add (x8.toNat * 32)) (TChange.enc x53 A59 c60) x53, fSl k_TChange A0_0 c0_0 u0]) W W := (hS.keep (List.Sublist.refl _) (List.nil_sublist _) ⟨⟨3, rfl⟩, ⟨4, rfl⟩, ⟨5, rfl⟩, trivial⟩)
                    refine e_one (listed' := #[true, true, true, true, true, true, true, true, true, true, true, true, true, true, true, true, false]) 15 rfl (by kernel_rfl) (by kernel_rfl) ?_
                    refine sq_append (ys := ((x5.take x5.length).drop x23.toNat)) hF hS (i := 1) rfl rfl rfl (SlR.src (hS.fc (i := 1) rfl)) psl76 pb3 pz3 rfl (by decide) (by decide) hx69 (by decide) (fun A496 c497 a W hF hS => ?_)
                    refine sq_nil (then_j ⟨?_, ?_⟩)
                    · exact fun _ _ => (hS.keep (List.Sublist.refl _) (List.nil_sublist _) ⟨⟨3, rfl⟩, ⟨4, rfl⟩, ⟨5, rfl⟩, trivial⟩)
                    ·
                     have hQC : (fun _ => St M w0 [] [] [fSl k_TAct A59 c60 x53.Mod.Acts, fAt k_TChange (p55.add (x8.toNat * 32)) (TChange.enc x53 A59 c60) x53, fSl k_TChange A0_0 c0_0 u0]) W W := (hS.keep (List.Sublist.refl _) (List.nil_sublist _) ⟨⟨3, rfl⟩, ⟨4, rfl⟩, ⟨5, rfl⟩, trivial⟩)
                     refine e_val (listed' := #[true, true, true, true, true, true, true, true, true, true, true, true, true, true, true, true, true]) 16 rfl (by kernel_rfl) (by kernel_rfl) (fun _ _ _ h => h) (fun W => (v_assign hF rfl)) hF (by decide) (fun a hF => ?_)
                     refine e_done (by kernel_rfl) ?_ _
                     obtain rfl := Option.some.inj h
                     exact then_j ⟨x68, A496, c497, rfl, (hF.keep ⟨rfl, rfl, rfl, trivial⟩), (hS.keep (List.Sublist.refl _) (.cons _ (List.Sublist.refl _)) ⟨⟨5, rfl⟩, trivial⟩)⟩
                ·
                 refine sq_buildSlice (κ := (kInt .i64)) (xs := [.tmp 55]) (ys := [x53.Unit]) hF hS rfl rfl rfl (Els.cons rfl (Els.nil _ _ _)) rfl psl76 pz3 rfl (by decide) (by decide) (by decide) (fun A498 c499 a W hF hS => ?_)
                 refine sq_nil (then_j ⟨?_, ?_⟩)
                 · exact fun _ _ => (hS.keep (List.Sublist.refl _) (List.nil_sublist _) ⟨⟨3, rfl⟩, ⟨4, rfl⟩, ⟨5, rfl⟩, trivial⟩)
                 ·
                  have hQC : (fun _ => St M w0 [] [] [fSl k_TAct A59 c60 x53.Mod.Acts, fAt k_TChange (p55.add (x8.toNat * 32)) (TChange.enc x53 A59 c60) x53, fSl k_TChange A0_0 c0_0 u0]) W W := (hS.keep (List.Sublist.refl _) (List.nil_sublist _) ⟨⟨3, rfl⟩, ⟨4, rfl⟩, ⟨5, rfl⟩, trivial⟩)
                  refine e_listed (listed' := #[true, true, true, true, false, true, true, true, true, true, true, false, true, true, true, false, false]) (by kernel_rfl) ?_
                  refine e_one (listed' := #[true, true, true, true, true, true, true, true, true, true, true, false, true, true, true, false, false]) 4 rfl (by kernel_rfl) (by kernel_rfl) ?_
                  refine sq_append (ys := ((x5.take x23.toNat).drop 0)) hF hS (i := 1) rfl rfl rfl (SlR.src (hS.fc (i := 0) rfl)) psl76 pb3 pz3 rfl (by decide) (by decide) hx64 (by decide) (fun A500 c501 a W hF hS => ?_)
                  refine sq_nil (then_j ⟨?_, ?_⟩)
                  · exact fun _ _ => (hS.keep (List.Sublist.refl _) (List.nil_sublist _) ⟨⟨3, rfl⟩, ⟨4, rfl⟩, ⟨5, rfl⟩, trivial⟩)
                  ·
                   have hQC : (fun _ => St M w0 [] [] [fSl k_TAct A59 c60 x53.Mod.Acts, fAt k_TChange (p55.add (x8.toNat * 32)) (TChange.enc x53 A59 c60) x53, fSl k_TChange A0_0 c0_0 u0]) W W := (hS.keep (List.Sublist.refl _) (List.nil_sublist _) ⟨⟨3, rfl⟩, ⟨4, rfl⟩, ⟨5, rfl⟩, trivial⟩)
                   refine e_one (listed' := #[true, true, true, true, true, true, true, true, true, true, true, true, true, true, true, false, false]) 11 rfl (by kernel_rfl) (by kernel_rfl) ?_
                   refine sq_append (ys := ([x53.Unit])) hF hS (i := 1) rfl rfl rfl (hS.rw_ (i := 0) rfl).src psl76 pb3 pz3 rfl (by decide) (by decide) hx66 (by decide) (fun A502 c503 a W hF hS => ?_)
                   refine sq_nil (then_j ⟨?_, ?_⟩)
                   · exact fun _ _ => (hS.keep (List.Sublist.refl _) (List.nil_sublist _) ⟨⟨3, rfl⟩, ⟨4, rfl⟩, ⟨5, rfl⟩, trivial⟩)
                   ·
                    have hQC : (fun _ => St M w0 [] [] [fSl k_TAct A59 c60 x53.Mod.Acts, fAt k_TChange (p55.add (x8.toNat * 32)) (TChange.enc x53 A59 c60) x53, fSl k_TChange A0_0 c0_0 u0]) W W := (hS.keep (List.Sublist.refl _) (List.nil_sublist _) ⟨⟨3, rfl⟩, ⟨4, rfl⟩, ⟨5, rfl⟩, trivial⟩)
                    refine e_one (listed' := #[true, true, true, true, true, true, true, true, true, true, true, true, true, true, true, true, false]) 15 rfl (by kernel_rfl) (by kernel_rfl) ?_
                    refine sq_append (ys := ((x5.take x5.length).drop x23.toNat)) hF hS (i := 1) rfl rfl rfl (SlR.src (hS.fc (i := 1) rfl)) psl76 pb3 pz3 rfl (by decide) (by decide) hx69 (by decide) (fun A504 c505 a W hF hS => ?_)
                    refine sq_nil (then_j ⟨?_, ?_⟩)
                    · exact fun _ _ => (hS.keep (List.Sublist.refl _) (List.nil_sublist _) ⟨⟨3, rfl⟩, ⟨4, rfl⟩, ⟨5, rfl⟩, trivial⟩)
                    ·
                     have hQC : (fun _ => St M w0 [] [] [fSl k_TAct A59 c60 x53.Mod.Acts, fAt k_TChange (p55.add (x8.toNat * 32)) (TChange.enc x53 A59 c60) x53, fSl k_TChange A0_0 c0_0 u0]) W W := (hS.keep (List.Sublist.refl _) (List.nil_sublist _) ⟨⟨3, rfl⟩, ⟨4, rfl⟩, ⟨5, rfl⟩, trivial⟩)
                     refine e_val (listed' := #[true, true, true, true, true, true, true, true, true, true, true, true, true, true, true, true, true]) 16 rfl (by kernel_rfl) (by kernel_rfl) (fun _ _ _ h => h) (fun W => (v_assign hF rfl)) hF (by decide) (fun a hF => ?_)
                     refine e_done (by kernel_rfl) ?_ _
                     obtain rfl := Option.some.inj h
                     exact then_j ⟨x68, A504, c505, rfl, (hF.keep ⟨rfl, rfl, rfl, trivial⟩), (hS.keep (List.Sublist.refl _) (.cons _ (List.Sublist.refl _)) ⟨⟨5, rfl⟩, trivial⟩)⟩
              ·
               refine sq_buildSlice (κ := (kInt .i64)) (xs := [.tmp 55]) (ys := [x53.Unit]) hF hS rfl rfl rfl (Els.cons rfl (Els.nil _ _ _)) rfl psl76 pz3 rfl (by decide) (by decide) (by decide) (fun A506 c507 a W hF hS => ?_)
               refine sq_nil (then_j ⟨?_, ?_⟩)
               · exact fun _ _ => (hS.keep (List.Sublist.refl _) (List.nil_sublist _) ⟨⟨2, rfl⟩, ⟨3, rfl⟩, ⟨4, rfl⟩, trivial⟩)
               ·
                have hQC : (fun _ => St M w0 [] [] [fSl k_TAct A59 c60 x53.Mod.Acts, fAt k_TChange (p55.add (x8.toNat * 32)) (TChange.enc x53 A59 c60) x53, fSl k_TChange A0_0 c0_0 u0]) W W := (hS.keep (List.Sublist.refl _) (List.nil_sublist _) ⟨⟨2, rfl⟩, ⟨3, rfl⟩, ⟨4, rfl⟩, trivial⟩)
                refine e_listed (listed' := #[true, true, true, false, false, true, true, true, true, true, true, false, true, true, true, false, false]) (by kernel_rfl) ?_
                refine e_one (listed' := #[true, true, true, true, false, true, true, true, true, true, true, false, true, true, true, false, false]) 3 rfl (by kernel_rfl) (by kernel_rfl) ?_
                refine sq_val (v_slice (κ := (kInt .i64)) (lo := 0) (hi := x23.toNat) hF rfl rfl rfl psl76 (.inl ⟨rfl, rfl⟩) (.inr ⟨_, _, rfl, by omega, rfl⟩) (by omega) (by omega) (hS.fc (i := 1) rfl).1) hF (by decide) (fun a hF => ?_)
                have hcut510 := SlR.cut (xs := x5) (hS.fc (i := 1) rfl) (lo := 0) (hi := x23.toNat) (by omega) (by omega)
                generalize (if c7 = 0 then A6 else Option.map (fun (q : Addr) => q.add (0 * ((kInt .i64)).sz)) A6) = A508 at hF hcut510
                generalize c7 - 0 = c509 at hF hcut510
                have hS := hS.addFact (f := fSl (kInt .i64) A508 c509 ((x5.take x23.toNat).drop 0)) hcut510
                refine sq_nil (then_j ⟨?_, ?_⟩)
                · exact fun _ _ => (hS.keep (List.Sublist.refl _) (List.nil_sublist _) ⟨⟨3, rfl⟩, ⟨4, rfl⟩, ⟨5, rfl⟩, trivial⟩)
                ·
                 have hQC : (fun _ => St M w0 [] [] [fSl k_TAct A59 c60 x53.Mod.Acts, fAt k_TChange (p55.add (x8.toNat * 32)) (TChange.enc x53 A59 c60) x53, fSl k_TChange A0_0 c0_0 u0]) W W := (hS.keep (List.Sublist.refl _) (List.nil_sublist _) ⟨⟨3, rfl⟩, ⟨4, rfl⟩, ⟨5, rfl⟩, trivial⟩)
                 refine e_one (listed' := #[true, true, true, true, true, true, true, true, true, true, true, false, true, true, true, false, false]) 4 rfl (by kernel_rfl) (by kernel_rfl) ?_
                 refine sq_append (ys := ((x5.take x23.toNat).drop 0)) hF hS (i := 1) rfl rfl rfl (SlR.src (hS.fc (i := 0) rfl)) psl76 pb3 pz3 rfl (by decide) (by decide) hx64 (by decide) (fun A511 c512 a W hF hS => ?_)
                 refine sq_nil (then_j ⟨?_, ?_⟩)
                 · exact fun _ _ => (hS.keep (List.Sublist.refl _) (List.nil_sublist _) ⟨⟨3, rfl⟩, ⟨4, rfl⟩, ⟨5, rfl⟩, trivial⟩)
                 ·
                  have hQC : (fun _ => St M w0 [] [] [fSl k_TAct A59 c60 x53.Mod.Acts, fAt k_TChange (p55.add (x8.toNat * 32)) (TChange.enc x53 A59 c60) x53, fSl k_TChange A0_0 c0_0 u0]) W W := (hS.keep (List.Sublist.refl _) (List.nil_sublist _) ⟨⟨3, rfl⟩, ⟨4, rfl⟩, ⟨5, rfl⟩, trivial⟩)
                  refine e_one (listed' := #[true, true, true, true, true, true, true, true, true, true, true, true, true, true, true, false, false]) 11 rfl (by kernel_rfl) (by kernel_rfl) ?_
                  refine sq_append (ys := ([x53.Unit])) hF hS (i := 1) rfl rfl rfl (hS.rw_ (i := 0) rfl).src psl76 pb3 pz3 rfl (by decide) (by decide) hx66 (by decide) (fun A513 c514 a W hF hS => ?_)
                  refine sq_nil (then_j ⟨?_, ?_⟩)
                  · exact fun _ _ => (hS.keep (List.Sublist.refl _) (List.nil_sublist _) ⟨⟨3, rfl⟩, ⟨4, rfl⟩, ⟨5, rfl⟩, trivial⟩)
                  ·
                   have hQC : (fun _ => St M w0 [] [] [fSl k_TAct A59 c60 x53.Mod.Acts, fAt k_TChange (p55.add (x8.toNat * 32)) (TChange.enc x53 A59 c60) x53, fSl k_TChange A0_0 c0_0 u0]) W W := (hS.keep (List.Sublist.refl _) (List.nil_sublist _) ⟨⟨3, rfl⟩, ⟨4, rfl⟩, ⟨5, rfl⟩, trivial⟩)
                   refine e_one (listed' := #[true, true, true, true, true, true, true, true, true, true, true, true, true, true, true, true, false]) 15 rfl (by kernel_rfl) (by kernel_rfl) ?_
                   refine sq_append (ys := ((x5.take x5.length).drop x23.toNat)) hF hS (i := 1) rfl rfl rfl (SlR.src (hS.fc (i := 1) rfl)) psl76 pb3 pz3 rfl (by decide) (by decide) hx69 (by decide) (fun A515 c516 a W hF hS => ?_)
                   refine sq_nil (then_j ⟨?_, ?_⟩)
                   · exact fun _ _ => (hS.keep (List.Sublist.refl _) (List.nil_sublist _) ⟨⟨3, rfl⟩, ⟨4, rfl⟩, ⟨5, rfl⟩, trivial⟩)
                   ·
                    have hQC : (fun _ => St M w0 [] [] [fSl k_TAct A59 c60 x53.Mod.Acts, fAt k_TChange (p55.add (x8.toNat * 32)) (TChange.enc x53 A59 c60) x53, fSl k_TChange A0_0 c0_0 u0]) W W := (hS.keep (List.Sublist.refl _) (List.nil_sublist _) ⟨⟨3, rfl⟩, ⟨4, rfl⟩, ⟨5, rfl⟩, trivial⟩)
                    refine e_val (listed' := #[true, true, true, true, true, true, true, true, true, true, true, true, true, true, true, true, true]) 16 rfl (by kernel_rfl) (by kernel_rfl) (fun _ _ _ h => h) (fun W => (v_assign hF rfl)) hF (by decide) (fun a hF => ?_)
                    refine e_done (by kernel_rfl) ?_ _
                    obtain rfl := Option.some.inj h
                    exact then_j ⟨x68, A515, c516, rfl, (hF.keep ⟨rfl, rfl, rfl, trivial⟩), (hS.keep (List.Sublist.refl _) (.cons _ (List.Sublist.refl _)) ⟨⟨5, rfl⟩, trivial⟩)⟩
            ·
             refine sq_val (v_slice (κ := (kInt .i64)) (lo := 0) (hi := x23.toNat) hF rfl rfl rfl psl76 (.inl ⟨rfl, rfl⟩) (.inr ⟨_, _, rfl, by omega, rfl⟩) (by omega) (by omega) (hS.fc (i := 1) rfl).1) hF (by decide) (fun a hF => ?_)
             have hcut519 := SlR.cut (xs := x5) (hS.fc (i := 1) rfl) (lo := 0) (hi := x23.toNat) (by omega) (by omega)
             generalize (if c7 = 0 then A6 else Option.map (fun (q : Addr) => q.add (0 * ((kInt .i64)).sz)) A6) = A517 at hF hcut519
             generalize c7 - 0 = c518 at hF hcut519
             have hS := hS.addFact (f := fSl (kInt .i64) A517 c518 ((x5.take x23.toNat).drop 0)) hcut519
             refine sq_nil (then_j ⟨?_, ?_⟩)
             · exact fun _ _ => (hS.keep (List.Sublist.refl _) (List.Sublist.refl _) ⟨⟨3, rfl⟩, ⟨4, rfl⟩, ⟨5, rfl⟩, trivial⟩)
             ·
              have hQC : (fun _ => St M w0 [] [] [fSl k_TAct A59 c60 x53.Mod.Acts, fAt k_TChange (p55.add (x8.toNat * 32)) (TChange.enc x53 A59 c60) x53, fSl k_TChange A0_0 c0_0 u0]) W W := (hS.keep (List.Sublist.refl _) (List.Sublist.refl _) ⟨⟨3, rfl⟩, ⟨4, rfl⟩, ⟨5, rfl⟩, trivial⟩)
              refine e_listed (listed' := #[false, true, true, true, false, true, true, true, true, true, false, false, true, true, true, false, false]) (by kernel_rfl) ?_
              refine e_many [0, 10] (by kernel_rfl) (by decide) ⟨⟨_, rfl, ?_⟩, ⟨_, rfl, ?_⟩, trivial⟩
              ·
               refine sq_buildSlice (κ := (kInt .i64)) (xs := []) (ys := ([] : List Int)) hF hS rfl rfl rfl (Els.nil _ _ _) rfl psl76 pz3 rfl (by decide) (by decide) (by decide) (fun A520 c521 a W hF hS => ?_)
               refine sq_nil (then_j ⟨?_, ?_⟩)
               · exact fun _ _ => (hS.keep (List.Sublist.refl _) (List.nil_sublist _) ⟨⟨3, rfl⟩, ⟨4, rfl⟩, ⟨5, rfl⟩, trivial⟩)
               ·
                have hQC : (fun _ => St M w0 [] [] [fSl k_TAct A59 c60 x53.Mod.Acts, fAt k_TChange (p55.add (x8.toNat * 32)) (TChange.enc x53 A59 c60) x53, fSl k_TChange A0_0 c0_0 u0]) W W := (hS.keep (List.Sublist.refl _) (List.nil_sublist _) ⟨⟨3, rfl⟩, ⟨4, rfl⟩, ⟨5, rfl⟩, trivial⟩)
                refine e_listed (listed' := #[true, true, true, true, false, true, true, true, true, true, false, false, true, true, true, false, false]) (by kernel_rfl) ?_
                refine e_many [4, 10] (by kernel_rfl) (by decide) ⟨⟨_, rfl, ?_⟩, ⟨_, rfl, ?_⟩, trivial⟩
                ·
                 refine sq_append (ys := ((x5.take x23.toNat).drop 0)) hF hS (i := 0) rfl rfl rfl (SlR.src (hS.fc (i := 0) rfl)) psl76 pb3 pz3 rfl (by decide) (by decide) hx64 (by decide) (fun A522 c523 a W hF hS => ?_)
                 refine sq_nil (then_j ⟨?_, ?_⟩)
                 · exact fun _ _ => (hS.keep (List.Sublist.refl _) (List.nil_sublist _) ⟨⟨3, rfl⟩, ⟨4, rfl⟩, ⟨5, rfl⟩, trivial⟩)
                 ·
                  have hQC : (fun _ => St M w0 [] [] [fSl k_TAct A59 c60 x53.Mod.Acts, fAt k_TChange (p55.add (x8.toNat * 32)) (TChange.enc x53 A59 c60) x53, fSl k_TChange A0_0 c0_0 u0]) W W := (hS.keep (List.Sublist.refl _) (List.nil_sublist _) ⟨⟨3, rfl⟩, ⟨4, rfl⟩, ⟨5, rfl⟩, trivial⟩)
                  refine e_listed (listed' := #[true, true, true, true, true, true, true, true, true, true, false, false, true, true, true, false, false]) (by kernel_rfl) ?_
                  refine e_one (listed' := #[true, true, true, true, true, true, true, true, true, true, true, false, true, true, true, false, false]) 10 rfl (by kernel_rfl) (by kernel_rfl) ?_
                  refine sq_buildSlice (κ := (kInt .i64)) (xs := [.tmp 55]) (ys := [x53.Unit]) hF hS rfl rfl rfl (Els.cons rfl (Els.nil _ _ _)) rfl psl76 pz3 rfl (by decide) (by decide) (by decide) (fun A524 c525 a W hF hS => ?_)
                  refine sq_nil (then_j ⟨?_, ?_⟩)
                  · exact fun _ _ => (hS.keep (List.Sublist.refl _) (List.nil_sublist _) ⟨⟨3, rfl⟩, ⟨4, rfl⟩, ⟨5, rfl⟩, trivial⟩)
                  ·
                   have hQC : (fun _ => St M w0 [] [] [fSl k_TAct A59 c60 x53.Mod.Acts, fAt k_TChange (p55.add (x8.toNat * 32)) (TChange.enc x53 A59 c60) x53, fSl k_TChange A0_0 c0_0 u0]) W W := (hS.keep (List.Sublist.refl _) (List.nil_sublist _) ⟨⟨3, rfl⟩, ⟨4, rfl⟩, ⟨5, rfl⟩, trivial⟩)
                   refine e_one (listed' := #[true, true, true, true, true, true, true, true, true, true, true, true, true, true, true, false, false]) 11 rfl (by kernel_rfl) (by kernel_rfl) ?_
                   refine sq_append (ys := ([x53.Unit])) hF hS (i := 1) rfl rfl rfl (hS.rw_ (i := 0) rfl).src psl76 pb3 pz3 rfl (by decide) (by decide) hx66 (by decide) (fun A526 c527 a W hF hS => ?_)
                   refine sq_nil (then_j ⟨?_, ?_⟩)
                   · exact fun _ _ => (hS.keep (List.Sublist.refl _) (List.nil_sublist _) ⟨⟨3, rfl⟩, ⟨4, rfl⟩, ⟨5, rfl⟩, trivial⟩)
                   ·
                    have hQC : (fun _ => St M w0 [] [] [fSl k_TAct A59 c60 x53.Mod.Acts, fAt k_TChange (p55.add (x8.toNat * 32)) (TChange.enc x53 A59 c60) x53, fSl k_TChange A0_0 c0_0 u0]) W W := (hS.keep (List.Sublist.refl _) (List.nil_sublist _) ⟨⟨3, rfl⟩, ⟨4, rfl⟩, ⟨5, rfl⟩, trivial⟩)
                    refine e_one (listed' := #[true, true, true, true, true, true, true, true, true, true, true, true, true, true, true, true, false]) 15 rfl (by kernel_rfl) (by kernel_rfl) ?_
                    refine sq_append (ys := ((x5.take x5.length).drop x23.toNat)) hF hS (i := 1) rfl rfl rfl (SlR.src (hS.fc (i := 1) rfl)) psl76 pb3 pz3 rfl (by decide) (by decide) hx69 (by decide) (fun A528 c529 a W hF hS => ?_)
                    refine sq_nil (then_j ⟨?_, ?_⟩)
                    · exact fun _ _ => (hS.keep (List.Sublist.refl _) (List.nil_sublist _) ⟨⟨3, rfl⟩, ⟨4, rfl⟩, ⟨5, rfl⟩, trivial⟩)
                    ·
                     have hQC : (fun _ => St M w0 [] [] [fSl k_TAct A59 c60 x53.Mod.Acts, fAt k_TChange (p55.add (x8.toNat * 32)) (TChange.enc x53 A59 c60) x53, fSl k_TChange A0_0 c0_0 u0]) W W := (hS.keep (List.Sublist.refl _) (List.nil_sublist _) ⟨⟨3, rfl⟩, ⟨4, rfl⟩, ⟨5, rfl⟩, trivial⟩)
                     refine e_val (listed' := #[true, true, true, true, true, true, true, true, true, true, true, true, true, true, true, true, true]) 16 rfl (by kernel_rfl) (by kernel_rfl) (fun _ _ _ h => h) (fun W => (v_assign hF rfl)) hF (by decide) (fun a hF => ?_)
                     refine e_done (by kernel_rfl) ?_ _
                     obtain rfl := Option.some.inj h
                     exact then_j ⟨x68, A528, c529, rfl, (hF.keep ⟨rfl, rfl, rfl, trivial⟩), (hS.keep (List.Sublist.refl _) (.cons _ (List.Sublist.refl _)) ⟨⟨5, rfl⟩, trivial⟩)⟩
                ·
                 refine sq_buildSlice (κ := (kInt .i64)) (xs := [.tmp 55]) (ys := [x53.Unit]) hF hS rfl rfl rfl (Els.cons rfl (Els.nil _ _ _)) rfl psl76 pz3 rfl (by decide) (by decide) (by decide) (fun A530 c531 a W hF hS => ?_)
                 refine sq_nil (then_j ⟨?_, ?_⟩)
                 · exact fun _ _ => (hS.keep (List.Sublist.refl _) (List.nil_sublist _) ⟨⟨3, rfl⟩, ⟨4, rfl⟩, ⟨5, rfl⟩, trivial⟩)
                 ·
                  have hQC : (fun _ => St M w0 [] [] [fSl k_TAct A59 c60 x53.Mod.Acts, fAt k_TChange (p55.add (x8.toNat * 32)) (TChange.enc x53 A59 c60) x53, fSl k_TChange A0_0 c0_0 u0]) W W := (hS.keep (List.Sublist.refl _) (List.nil_sublist _) ⟨⟨3, rfl⟩, ⟨4, rfl⟩, ⟨5, rfl⟩, trivial⟩)
                  refine e_listed (listed' := #[true, true, true, true, false, true, true, true, true, true, true, false, true, true, true, false, false]) (by kernel_rfl) ?_
                  refine e_one (listed' := #[true, true, true, true, true, true, true, true, true, true, true, false, true, true, true, false, false]) 4 rfl (by kernel_rfl) (by kernel_rfl) ?_
                  refine sq_append (ys := ((x5.take x23.toNat).drop 0)) hF hS (i := 1) rfl rfl rfl (SlR.src (hS.fc (i := 0) rfl)) psl76 pb3 pz3 rfl (by decide) (by decide) hx64 (by decide) (fun A532 c533 a W hF hS => ?_)
                  refine sq_nil (then_j ⟨?_, ?_⟩)
                  · exact fun _ _ => (hS.keep (List.Sublist.refl _) (List.nil_sublist _) ⟨⟨3, rfl⟩, ⟨4, rfl⟩, ⟨5, rfl⟩, trivial⟩)
                  ·
                   have hQC : (fun _ => St M w0 [] [] [fSl k_TAct A59 c60 x53.Mod.Acts, fAt k_TChange (p55.add (x8.toNat * 32)) (TChange.enc x53 A59 c60) x53, fSl k_TChange A0_0 c0_0 u0]) W W := (hS.keep (List.Sublist.refl _) (List.nil_sublist _) ⟨⟨3, rfl⟩, ⟨4, rfl⟩, ⟨5, rfl⟩, trivial⟩)
                   refine e_one (listed' := #[true, true, true, true, true, true, true, true, true, true, true, true, true, true, true, false, false]) 11 rfl (by kernel_rfl) (by kernel_rfl) ?_
                   refine sq_append (ys := ([x53.Unit])) hF hS (i := 1) rfl rfl rfl (hS.rw_ (i := 0) rfl).src psl76 pb3 pz3 rfl (by decide) (by decide) hx66 (by decide) (fun A534 c535 a W hF hS => ?_)
                   refine sq_nil (then_j ⟨?_, ?_⟩)
                   · exact fun _ _ => (hS.keep (List.Sublist.refl _) (List.nil_sublist _) ⟨⟨3, rfl⟩, ⟨4, rfl⟩, ⟨5, rfl⟩, trivial⟩)
                   ·
                    have hQC : (fun _ => St M w0 [] [] [fSl k_TAct A59 c60 x53.Mod.Acts, fAt k_TChange (p55.add (x8.toNat * 32)) (TChange.enc x53 A59 c60) x53, fSl k_TChange A0_0 c0_0 u0]) W W := (hS.keep (List.Sublist.refl _) (List.nil_sublist _) ⟨⟨3, rfl⟩, ⟨4, rfl⟩, ⟨5, rfl⟩, trivial⟩)
                    refine e_one (listed' := #[true, true, true, true, true, true, true, true, true, true, true, true, true, true, true, true, false]) 15 rfl (by kernel_rfl) (by kernel_rfl) ?_
                    refine sq_append (ys := ((x5.take x5.length).drop x23.toNat)) hF hS (i := 1) rfl rfl rfl (SlR.src (hS.fc (i := 1) rfl)) psl76 pb3 pz3 rfl (by decide) (by decide) hx69 (by decide) (fun A536 c537 a W hF hS => ?_)
                    refine sq_nil (then_j ⟨?_, ?_⟩)
                    · exact fun _ _ => (hS.keep (List.Sublist.refl _) (List.nil_sublist _) ⟨⟨3, rfl⟩, ⟨4, rfl⟩, ⟨5, rfl⟩, trivial⟩)
                    ·
                     have hQC : (fun _ => St M w0 [] [] [fSl k_TAct A59 c60 x53.Mod.Acts, fAt k_TChange (p55.add (x8.toNat * 32)) (TChange.enc x53 A59 c60) x53, fSl k_TChange A0_0 c0_0 u0]) W W := (hS.keep (List.Sublist.refl _) (List.nil_sublist _) ⟨⟨3, rfl⟩, ⟨4, rfl⟩, ⟨5, rfl⟩, trivial⟩)
                     refine e_val (listed' := #[true, true, true, true, true, true, true, true, true, true, true, true, true, true, true, true, true]) 16 rfl (by kernel_rfl) (by kernel_rfl) (fun _ _ _ h => h) (fun W => (v_assign hF rfl)) hF (by decide) (fun a hF => ?_)
                     refine e_done (by kernel_rfl) ?_ _
                     obtain rfl := Option.some.inj h
                     exact then_j ⟨x68, A536, c537, rfl, (hF.keep ⟨rfl, rfl, rfl, trivial⟩), (hS.keep (List.Sublist.refl _) (.cons _ (List.Sublist.refl _)) ⟨⟨5, rfl⟩, trivial⟩)⟩
              ·
               refine sq_buildSlice (κ := (kInt .i64)) (xs := [.tmp 55]) (ys := [x53.Unit]) hF hS rfl rfl rfl (Els.cons rfl (Els.nil _ _ _)) rfl psl76 pz3 rfl (by decide) (by decide) (by decide) (fun A538 c539 a W hF hS => ?_)
               refine sq_nil (then_j ⟨?_, ?_⟩)
               · exact fun _ _ => (hS.keep (List.Sublist.refl _) (List.nil_sublist _) ⟨⟨3, rfl⟩, ⟨4, rfl⟩, ⟨5, rfl⟩, trivial⟩)
               ·
                have hQC : (fun _ => St M w0 [] [] [fSl k_TAct A59 c60 x53.Mod.Acts, fAt k_TChange (p55.add (x8.toNat * 32)) (TChange.enc x53 A59 c60) x53, fSl k_TChange A0_0 c0_0 u0]) W W := (hS.keep (List.Sublist.refl _) (List.nil_sublist _) ⟨⟨3, rfl⟩, ⟨4, rfl⟩, ⟨5, rfl⟩, trivial⟩)
                refine e_listed (listed' := #[false, true, true, true, false, true, true, true, true, true, true, false, true, true, true, false, false]) (by kernel_rfl) ?_
                refine e_one (listed' := #[true, true, true, true, false, true, true, true, true, true, true, false, true, true, true, false, false]) 0 rfl (by kernel_rfl) (by kernel_rfl) ?_
                refine sq_buildSlice (κ := (kInt .i64)) (xs := []) (ys := ([] : List Int)) hF hS rfl rfl rfl (Els.nil _ _ _) rfl psl76 pz3 rfl (by decide) (by decide) (by decide) (fun A540 c541 a W hF hS => ?_)
                refine sq_nil (then_j ⟨?_, ?_⟩)
                · exact fun _ _ => (hS.keep (List.Sublist.refl _) (List.nil_sublist _) ⟨⟨3, rfl⟩, ⟨4, rfl⟩, ⟨5, rfl⟩, trivial⟩)
                ·
                 have hQC : (fun _ => St M w0 [] [] [fSl k_TAct A59 c60 x53.Mod.Acts, fAt k_TChange (p55.add (x8.toNat * 32)) (TChange.enc x53 A59 c60) x53, fSl k_TChange A0_0 c0_0 u0]) W W := (hS.keep (List.Sublist.refl _) (List.nil_sublist _) ⟨⟨3, rfl⟩, ⟨4, rfl⟩, ⟨5, rfl⟩, trivial⟩)
                 refine e_one (listed' := #[true, true, true, true, true, true, true, true, true, true, true, false, true, true, true, false, false]) 4 rfl (by kernel_rfl) (by kernel_rfl) ?_
                 refine sq_append (ys := ((x5.take x23.toNat).drop 0)) hF hS (i := 0) rfl rfl rfl (SlR.src (hS.fc (i := 0) rfl)) psl76 pb3 pz3 rfl (by decide) (by decide) hx64 (by decide) (fun A542 c543 a W hF hS => ?_)
                 refine sq_nil (then_j ⟨?_, ?_⟩)
                 · exact fun _ _ => (hS.keep (List.Sublist.refl _) (List.nil_sublist _) ⟨⟨3, rfl⟩, ⟨4, rfl⟩, ⟨5, rfl⟩, trivial⟩)
                 ·
                  have hQC : (fun _ => St M w0 [] [] [fSl k_TAct A59 c60 x53.Mod.Acts, fAt k_TChange (p55.add (x8.toNat * 32)) (TChange.enc x53 A59 c60) x53, fSl k_TChange A0_0 c0_0 u0]) W W := (hS.keep (List.Sublist.refl _) (List.nil_sublist _) ⟨⟨3, rfl⟩, ⟨4, rfl⟩, ⟨5, rfl⟩, trivial⟩)
                  refine e_one (listed' := #[true, true, true, true, true, true, true, true, true, true, true, true, true, true, true, false, false]) 11 rfl (by kernel_rfl) (by kernel_rfl) ?_
                  refine sq_append (ys := ([x53.Unit])) hF hS (i := 0) rfl rfl rfl (hS.rw_ (i := 1) rfl).src psl76 pb3 pz3 rfl (by decide) (by decide) hx66 (by decide) (fun A544 c545 a W hF hS => ?_)
                  refine sq_nil (then_j ⟨?_, ?_⟩)
                  · exact fun _ _ => (hS.keep (List.Sublist.refl _) (List.nil_sublist _) ⟨⟨3, rfl⟩, ⟨4, rfl⟩, ⟨5, rfl⟩, trivial⟩)
                  ·
                   have hQC : (fun _ => St M w0 [] [] [fSl k_TAct A59 c60 x53.Mod.Acts, fAt k_TChange (p55.add (x8.toNat * 32)) (TChange.enc x53 A59 c60) x53, fSl k_TChange A0_0 c0_0 u0]) W W := (hS.keep (List.Sublist.refl _) (List.nil_sublist _) ⟨⟨3, rfl⟩, ⟨4, rfl⟩, ⟨5, rfl⟩, trivial⟩)
                   refine e_one (listed' := #[true, true, true, true, true, true, true, true, true, true, true, true, true, true, true, true, false]) 15 rfl (by kernel_rfl) (by kernel_rfl) ?_
                   refine sq_append (ys := ((x5.take x5.length).drop x23.toNat)) hF hS (i := 0) rfl rfl rfl (SlR.src (hS.fc (i := 1) rfl)) psl76 pb3 pz3 rfl (by decide) (by decide) hx69 (by decide) (fun A546 c547 a W hF hS => ?_)
                   refine sq_nil (then_j ⟨?_, ?_⟩)
                   · exact fun _ _ => (hS.keep (List.Sublist.refl _) (List.nil_sublist _) ⟨⟨3, rfl⟩, ⟨4, rfl⟩, ⟨5, rfl⟩, trivial⟩)
                   ·
                    have hQC : (fun _ => St M w0 [] [] [fSl k_TAct A59 c60 x53.Mod.Acts, fAt k_TChange (p55.add (x8.toNat * 32)) (TChange.enc x53 A59 c60) x53, fSl k_TChange A0_0 c0_0 u0]) W W := (hS.keep (List.Sublist.refl _) (List.nil_sublist _) ⟨⟨3, rfl⟩, ⟨4, rfl⟩, ⟨5, rfl⟩, trivial⟩)
                    refine e_val (listed' := #[true, true, true, true, true, true, true, true, true, true, true, true, true, true, true, true, true]) 16 rfl (by kernel_rfl) (by kernel_rfl) (fun _ _ _ h => h) (fun W => (v_assign hF rfl)) hF (by decide) (fun a hF => ?_)
                    refine e_done (by kernel_rfl) ?_ _
                    obtain rfl := Option.some.inj h
                    exact then_j ⟨x68, A546, c547, rfl, (hF.keep ⟨rfl, rfl, rfl, trivial⟩), (hS.keep (List.Sublist.refl _) (.cons_cons _ (List.nil_sublist _)) ⟨⟨5, rfl⟩, trivial⟩)⟩
            ·
             refine sq_buildSlice (κ := (kInt .i64)) (xs := [.tmp 55]) (ys := [x53.Unit]) hF hS rfl rfl rfl (Els.cons rfl (Els.nil _ _ _)) rfl psl76 pz3 rfl (by decide) (by decide) (by decide) (fun A548 c549 a W hF hS => ?_)
             refine sq_nil (then_j ⟨?_, ?_⟩)
             · exact fun _ _ => (hS.keep (List.Sublist.refl _) (List.nil_sublist _) ⟨⟨2, rfl⟩, ⟨3, rfl⟩, ⟨4, rfl⟩, trivial⟩)
             ·
              have hQC : (fun _ => St M w0 [] [] [fSl k_TAct A59 c60 x53.Mod.Acts, fAt k_TChange (p55.add (x8.toNat * 32)) (TChange.enc x53 A59 c60) x53, fSl k_TChange A0_0 c0_0 u0]) W W := (hS.keep (List.Sublist.refl _) (List.nil_sublist _) ⟨⟨2, rfl⟩, ⟨3, rfl⟩, ⟨4, rfl⟩, trivial⟩)
              refine e_listed (listed' := #[false, true, true, false, false, true, true, true, true, true, true, false, true, true, true, false, false]) (by kernel_rfl) ?_
              refine e_many [0, 3] (by kernel_rfl) (by decide) ⟨⟨_, rfl, ?_⟩, ⟨_, rfl, ?_⟩, trivial⟩
              ·
               refine sq_buildSlice (κ := (kInt .i64)) (xs := []) (ys := ([] : List Int)) hF hS rfl rfl rfl (Els.nil _ _ _) rfl psl76 pz3 rfl (by decide) (by decide) (by decide) (fun A550 c551 a W hF hS => ?_)
               refine sq_nil (then_j ⟨?_, ?_⟩)
               · exact fun _ _ => (hS.keep (List.Sublist.refl _) (List.nil_sublist _) ⟨⟨2, rfl⟩, ⟨3, rfl⟩, ⟨4, rfl⟩, trivial⟩)
               ·
                have hQC : (fun _ => St M w0 [] [] [fSl k_TAct A59 c60 x53.Mod.Acts, fAt k_TChange (p55.add (x8.toNat * 32)) (TChange.enc x53 A59 c60) x53, fSl k_TChange A0_0 c0_0 u0]) W W := (hS.keep (List.Sublist.refl _) (List.nil_sublist _) ⟨⟨2, rfl⟩, ⟨3, rfl⟩, ⟨4, rfl⟩, trivial⟩)
                refine e_listed (listed' := #[true, true, true, false, false, true, true, true, true, true, true, false, true, true, true, false, false]) (by kernel_rfl) ?_
                refine e_one (listed' := #[true, true, true, true, false, true, true, true, true, true, true, false, true, true, true, false, false]) 3 rfl (by kernel_rfl) (by kernel_rfl) ?_
                refine sq_val (v_slice (κ := (kInt .i64)) (lo := 0) (hi := x23.toNat) hF rfl rfl rfl psl76 (.inl ⟨rfl, rfl⟩) (.inr ⟨_, _, rfl, by omega, rfl⟩) (by omega) (by omega) (hS.fc (i := 1) rfl).1) hF (by decide) (fun a hF => ?_)
                have hcut554 := SlR.cut (xs := x5) (hS.fc (i := 1) rfl) (lo := 0) (hi := x23.toNat) (by omega) (by omega)
                generalize (if c7 = 0 then A6 else Option.map (fun (q : Addr) => q.add (0 * ((kInt .i64)).sz)) A6) = A552 at hF hcut554
                generalize c7 - 0 = c553 at hF hcut554
                have hS := hS.addFact (f := fSl (kInt .i64) A552 c553 ((x5.take x23.toNat).drop 0)) hcut554
                refine sq_nil (then_j ⟨?_, ?_⟩)
                · exact fun _ _ => (hS.keep (List.Sublist.refl _) (List.nil_sublist _) ⟨⟨3, rfl⟩, ⟨4, rfl⟩, ⟨5, rfl⟩, trivial⟩)
                ·
                 have hQC : (fun _ => St M w0 [] [] [fSl k_TAct A59 c60 x53.Mod.Acts, fAt k_TChange (p55.add (x8.toNat * 32)) (TChange.enc x53 A59 c60) x53, fSl k_TChange A0_0 c0_0 u0]) W W := (hS.keep (List.Sublist.refl _) (List.nil_sublist _) ⟨⟨3, rfl⟩, ⟨4, rfl⟩, ⟨5, rfl⟩, trivial⟩)
                 refine e_one (listed' := #[true, true, true, true, true, true, true, true, true, true, true, false, true, true, true, false, false]) 4 rfl (by kernel_rfl) (by kernel_rfl) ?_
                 refine sq_append (ys := ((x5.take x23.toNat).drop 0)) hF hS (i := 0) rfl rfl rfl (SlR.src (hS.fc (i := 0) rfl)) psl76 pb3 pz3 rfl (by decide) (by decide) hx64 (by decide) (fun A555 c556 a W hF hS => ?_)
                 refine sq_nil (then_j ⟨?_, ?_⟩)
                 · exact fun _ _ => (hS.keep (List.Sublist.refl _) (List.nil_sublist _) ⟨⟨3, rfl⟩, ⟨4, rfl⟩, ⟨5, rfl⟩, trivial⟩)
                 ·
                  have hQC : (fun _ => St M w0 [] [] [fSl k_TAct A59 c60 x53.Mod.Acts, fAt k_TChange (p55.add (x8.toNat * 32)) (TChange.enc x53 A59 c60) x53, fSl k_TChange A0_0 c0_0 u0]) W W := (hS.keep (List.Sublist.refl _) (List.nil_sublist _) ⟨⟨3, rfl⟩, ⟨4, rfl⟩, ⟨5, rfl⟩, trivial⟩)
                  refine e_one (listed' := #[true, true, true, true, true, true, true, true, true, true, true, true, true, true, true, false, false]) 11 rfl (by kernel_rfl) (by kernel_rfl) ?_
                  refine sq_append (ys := ([x53.Unit])) hF hS (i := 0) rfl rfl rfl (hS.rw_ (i := 1) rfl).src psl76 pb3 pz3 rfl (by decide) (by decide) hx66 (by decide) (fun A557 c558 a W hF hS => ?_)
                  refine sq_nil (then_j ⟨?_, ?_⟩)
                  · exact fun _ _ => (hS.keep (List.Sublist.refl _) (List.nil_sublist _) ⟨⟨3, rfl⟩, ⟨4, rfl⟩, ⟨5, rfl⟩, trivial⟩)
                  ·
                   have hQC : (fun _ => St M w0 [] [] [fSl k_TAct A59 c60 x53.Mod.Acts, fAt k_TChange (p55.add (x8.toNat * 32)) (TChange.enc x53 A59 c60) x53, fSl k_TChange A0_0 c0_0 u0]) W W := (hS.keep (List.Sublist.refl _) (List.nil_sublist _) ⟨⟨3, rfl⟩, ⟨4, rfl⟩, ⟨5, rfl⟩, trivial⟩)
                   refine e_one (listed' := #[true, true, true, true, true, true, true, true, true, true, true, true, true, true, true, true, false]) 15 rfl (by kernel_rfl) (by kernel_rfl) ?_
                   refine sq_append (ys := ((x5.take x5.length).drop x23.toNat)) hF hS (i := 0) rfl rfl rfl (SlR.src (hS.fc (i := 1) rfl)) psl76 pb3 pz3 rfl (by decide) (by decide) hx69 (by decide) (fun A559 c560 a W hF hS => ?_)
                   refine sq_nil (then_j ⟨?_, ?_⟩)
                   · exact fun _ _ => (hS.keep (List.Sublist.refl _) (List.nil_sublist _) ⟨⟨3, rfl⟩, ⟨4, rfl⟩, ⟨5, rfl⟩, trivial⟩)
                   ·
                    have hQC : (fun _ => St M w0 [] [] [fSl k_TAct A59 c60 x53.Mod.Acts, fAt k_TChange (p55.add (x8.toNat * 32)) (TChange.enc x53 A59 c60) x53, fSl k_TChange A0_0 c0_0 u0]) W W := (hS.keep (List.Sublist.refl _) (List.nil_sublist _) ⟨⟨3, rfl⟩, ⟨4, rfl⟩, ⟨5, rfl⟩, trivial⟩)
                    refine e_val (listed' := #[true, true, true, true, true, true, true, true, true, true, true, true, true, true, true, true, true]) 16 rfl (by kernel_rfl) (by kernel_rfl) (fun _ _ _ h => h) (fun W => (v_assign hF rfl)) hF (by decide) (fun a hF => ?_)
                    refine e_done (by kernel_rfl) ?_ _
                    obtain rfl := Option.some.inj h
                    exact then_j ⟨x68, A559, c560, rfl, (hF.keep ⟨rfl, rfl, rfl, trivial⟩), (hS.keep (List.Sublist.refl _) (.cons_cons _ (List.nil_sublist _)) ⟨⟨5, rfl⟩, trivial⟩)⟩
              ·
               refine sq_val (v_slice (κ := (kInt .i64)) (lo := 0) (hi := x23.toNat) hF rfl rfl rfl psl76 (.inl ⟨rfl, rfl⟩) (.inr ⟨_, _, rfl, by omega, rfl⟩) (by omega) (by omega) (hS.fc (i := 1) rfl).1) hF (by decide) (fun a hF => ?_)
               have hcut563 := SlR.cut (xs := x5) (hS.fc (i := 1) rfl) (lo := 0) (hi := x23.toNat) (by omega) (by omega)
               generalize (if c7 = 0 then A6 else Option.map (fun (q : Addr) => q.add (0 * ((kInt .i64)).sz)) A6) = A561 at hF hcut563
               generalize c7 - 0 = c562 at hF hcut563
               have hS := hS.addFact (f := fSl (kInt .i64) A561 c562 ((x5.take x23.toNat).drop 0)) hcut563
               refine sq_nil (then_j ⟨?_, ?_⟩)
               · exact fun _ _ => (hS.keep (List.Sublist.refl _) (List.nil_sublist _) ⟨⟨3, rfl⟩, ⟨4, rfl⟩, ⟨5, rfl⟩, trivial⟩)
               ·
                have hQC : (fun _ => St M w0 [] [] [fSl k_TAct A59 c60 x53.Mod.Acts, fAt k_TChange (p55.add (x8.toNat * 32)) (TChange.enc x53 A59 c60) x53, fSl k_TChange A0_0 c0_0 u0]) W W := (hS.keep (List.Sublist.refl _) (List.nil_sublist _) ⟨⟨3, rfl⟩, ⟨4, rfl⟩, ⟨5, rfl⟩, trivial⟩)
                refine e_listed (listed' := #[false, true, true, true, false, true, true, true, true, true, true, false, true, true, true, false, false]) (by kernel_rfl) ?_
                refine e_one (listed' := #[true, true, true, true, false, true, true, true, true, true, true, false, true, true, true, false, false]) 0 rfl (by kernel_rfl) (by kernel_rfl) ?_
                refine sq_buildSlice (κ := (kInt .i64)) (xs := []) (ys := ([] : List Int)) hF hS rfl rfl rfl (Els.nil _ _ _) rfl psl76 pz3 rfl (by decide) (by decide) (by decide) (fun A564 c565 a W hF hS => ?_)
                refine sq_nil (then_j ⟨?_, ?_⟩)
                · exact fun _ _ => (hS.keep (List.Sublist.refl _) (List.nil_sublist _) ⟨⟨3, rfl⟩, ⟨4, rfl⟩, ⟨5, rfl⟩, trivial⟩)
                ·
                 have hQC : (fun _ => St M w0 [] [] [fSl k_TAct A59 c60 x53.Mod.Acts, fAt k_TChange (p55.add (x8.toNat * 32)) (TChange.enc x53 A59 c60) x53, fSl k_TChange A0_0 c0_0 u0]) W W := (hS.keep (List.Sublist.refl _) (List.nil_sublist _) ⟨⟨3, rfl⟩, ⟨4, rfl⟩, ⟨5, rfl⟩, trivial⟩)
                 refine e_one (listed' := #[true, true, true, true, true, true, true, true, true, true, true, false, true, true, true, false, false]) 4 rfl (by kernel_rfl) (by kernel_rfl) ?_
                 refine sq_append (ys := ((x5.take x23.toNat).drop 0)) hF hS (i := 0) rfl rfl rfl (SlR.src (hS.fc (i := 0) rfl)) psl76 pb3 pz3 rfl (by decide) (by decide) hx64 (by decide) (fun A566 c567 a W hF hS => ?_)
                 refine sq_nil (then_j ⟨?_, ?_⟩)
                 · exact fun _ _ => (hS.keep (List.Sublist.refl _) (List.nil_sublist _) ⟨⟨3, rfl⟩, ⟨4, rfl⟩, ⟨5, rfl⟩, trivial⟩)
                 ·
                  have hQC : (fun _ => St M w0 [] [] [fSl k_TAct A59 c60 x53.Mod.Acts, fAt k_TChange (p55.add (x8.toNat * 32)) (TChange.enc x53 A59 c60) x53, fSl k_TChange A0_0 c0_0 u0]) W W := (hS.keep (List.Sublist.refl _) (List.nil_sublist _) ⟨⟨3, rfl⟩, ⟨4, rfl⟩, ⟨5, rfl⟩, trivial⟩)
                  refine e_one (listed' := #[true, true, true, true, true, true, true, true, true, true, true, true, true, true, true, false, false]) 11 rfl (by kernel_rfl) (by kernel_rfl) ?_
                  refine sq_append (ys := ([x53.Unit])) hF hS (i := 0) rfl rfl rfl (hS.rw_ (i := 1) rfl).src psl76 pb3 pz3 rfl (by decide) (by decide) hx66 (by decide) (fun A568 c569 a W hF hS => ?_)
                  refine sq_nil (then_j ⟨?_, ?_⟩)
                  · exact fun _ _ => (hS.keep (List.Sublist.refl _) (List.nil_sublist _) ⟨⟨3, rfl⟩, ⟨4, rfl⟩, ⟨5, rfl⟩, trivial⟩)
                  ·
                   have hQC : (fun _ => St M w0 [] [] [fSl k_TAct A59 c60 x53.Mod.Acts, fAt k_TChange (p55.add (x8.toNat * 32)) (TChange.enc x53 A59 c60) x53, fSl k_TChange A0_0 c0_0 u0]) W W := (hS.keep (List.Sublist.refl _) (List.nil_sublist _) ⟨⟨3, rfl⟩, ⟨4, rfl⟩, ⟨5, rfl⟩, trivial⟩)
                   refine e_one (listed' := #[true, true, true, true, true, true, true, true, true, true, true, true, true, true, true, true, false]) 15 rfl (by kernel_rfl) (by kernel_rfl) ?_
                   refine sq_append (ys := ((x5.take x5.length).drop x23.toNat)) hF hS (i := 0) rfl rfl rfl (SlR.src (hS.fc (i := 1) rfl)) psl76 pb3 pz3 rfl (by decide) (by decide) hx69 (by decide) (fun A570 c571 a W hF hS => ?_)
                   refine sq_nil (then_j ⟨?_, ?_⟩)
                   · exact fun _ _ => (hS.keep (List.Sublist.refl _) (List.nil_sublist _) ⟨⟨3, rfl⟩, ⟨4, rfl⟩, ⟨5, rfl⟩, trivial⟩)
                   ·
                    have hQC : (fun _ => St M w0 [] [] [fSl k_TAct A59 c60 x53.Mod.Acts, fAt k_TChange (p55.add (x8.toNat * 32)) (TChange.enc x53 A59 c60) x53, fSl k_TChange A0_0 c0_0 u0]) W W := (hS.keep (List.Sublist.refl _) (List.nil_sublist _) ⟨⟨3, rfl⟩, ⟨4, rfl⟩, ⟨5, rfl⟩, trivial⟩)
                    refine e_val (listed' := #[true, true, true, true, true, true, true, true, true, true, true, true, true, true, true, true, true]) 16 rfl (by kernel_rfl) (by kernel_rfl) (fun _ _ _ h => h) (fun W => (v_assign hF rfl)) hF (by decide) (fun a hF => ?_)
                    refine e_done (by kernel_rfl) ?_ _
                    obtain rfl := Option.some.inj h
                    exact then_j ⟨x68, A570, c571, rfl, (hF.keep ⟨rfl, rfl, rfl, trivial⟩), (hS.keep (List.Sublist.refl _) (.cons_cons _ (List.nil_sublist _)) ⟨⟨5, rfl⟩, trivial⟩)⟩
       ·
        by_cases he26 : (decide (x23 < (x5.length : Int))) = true
        ·
         replace h := ifT he26 h
         refine qt_yes hF rfl rfl he26 ?_
         refine qt_val (fun W hC => (v_move hF rfl)) hF (by decide) (fun a hF => ?_)
         refine qt_yes hF rfl rfl he26 ?_
         refine qt_val (fun W hC => (v_move hF rfl)) hF (by decide) (fun a hF => ?_)
         refine qt_yes hF rfl rfl he26 ?_
         obtain ⟨x30, hx31, h⟩ := bindS h
         obtain ⟨p32, cs33, hA34, hc36, hr37⟩ := Row.ok.at (hS.rw_ (i := 0) rfl) hx31
         obtain rfl : cs33 = [.int .i64 (x30)] := hr37
         refine qt_val (fun W hC => (v_idx hF rfl hA34 rfl psl76 hx31)) hF (by decide) (fun a hF => ?_)
         refine qt_yes hF rfl rfl he26 ?_
         refine qt_val (fun W hC => (v_load1 hF rfl pa3 (hc36.grow hC.1))) hF (by decide) (fun a hF => ?_)
         refine qt_yes hF rfl rfl he26 ?_
         refine qt_val (fun W hC => (v_move hF rfl)) hF (by decide) (fun a hF => ?_)
         refine qt_yes hF rfl rfl he26 ?_
         refine qt_val (fun W hC => (v_move hF rfl)) hF (by decide) (fun a hF => ?_)
         refine qt_yes hF rfl rfl he26 ?_
         obtain ⟨x38, hx39, h⟩ := bindS h
         obtain ⟨p40, cs41, hA42, hat43⟩ := SlR.at (hS.fc (i := 0) rfl) hx39
         obtain ⟨A44, c45, rfl, hs46⟩ := hat43.2.2.2
         refine qt_val (fun W hC => (v_idx hF rfl hA42 rfl psl56 hx39)) hF (by decide) (fun a hF => ?_)
         refine qt_yes hF rfl rfl he26 ?_
         refine qt_val (fun W hC => (v_fieldAddr hF rfl pf60_0)) hF (by decide) (fun a hF => ?_)
         refine qt_yes hF rfl rfl he26 ?_
         refine qt_val (fun W hC => (v_load1 hF rfl pa3 (cells_sub (vs := [.int .i64 (x38.Unit)]) (hat43.2.2.1.grow hC.1) rfl rfl))) hF (by decide) (fun a hF => ?_)
         refine qt_yes hF rfl rfl he26 ?_
         refine qt_val (fun W hC => (v_eql hF rfl rfl)) hF (by decide) (fun a hF => ?_)
         refine qt_val (fun W hC => (v_pick_t hF rfl he26 rfl)) hF (by decide) (fun a hF => ?_)
         obtain rfl := Option.some.inj h
         exact qt_nil (hF.keep ⟨rfl, rfl, rfl, rfl, rfl, trivial⟩)
        ·
         have he26 : (decide (x23 < (x5.length : Int))) = false := nB he26
         replace h := ifF he26 h
         refine qt_no hF rfl rfl he26 (by decide) (fun a hF => ?_)
         refine qt_no hF rfl rfl he26 (by decide) (fun a hF => ?_)
         refine qt_no hF rfl rfl he26 (by decide) (fun a hF => ?_)
         refine qt_no hF rfl rfl he26 (by decide) (fun a hF => ?_)
         refine qt_no hF rfl rfl he26 (by decide) (fun a hF => ?_)
         refine qt_no hF rfl rfl he26 (by decide) (fun a hF => ?_)
         refine qt_no hF rfl rfl he26 (by decide) (fun a hF => ?_)
         refine qt_no hF rfl rfl he26 (by decide) (fun a hF => ?_)
         refine qt_no hF rfl rfl he26 (by decide) (fun a hF => ?_)
         refine qt_no hF rfl rfl he26 (by decide) (fun a hF => ?_)
         refine qt_val (fun W hC => (v_pick_f hF rfl he26 rfl)) hF (by decide) (fun a hF => ?_)
         obtain rfl := Option.some.inj h
         exact qt_nil (hF.keep ⟨rfl, rfl, rfl, rfl, rfl, trivial⟩)
      ·
       refine wp_block ?_
       refine wp_loop_fuel (I := fun m a W => ∃ (x22 : Int), FH 63 [(0, .slice A0_0 ((u0).length) c0_0), (3, .slice A6 ((x5).length) c7), (4, .int .i64 (x8)), (5, .int .i64 (x22))] a ∧ St M w0 [] [⟨(kInt .i64), 3, A6, c7, x5⟩] [fSl k_TChange A0_0 c0_0 u0] W ∧ (ref19_Units.l1 k u0 x5 x8 m x22) = some o24) ?_ (k := k) ⟨0, (hF.keep ⟨rfl, rfl, rfl, rfl, trivial⟩), hS, h⟩
       rintro m572 a W ⟨x22, hF, hS, h⟩
       cases m572 with
       | zero => cases h
       | succ m572 =>
        rw [ref19_Units.l1] at h
        refine wp_seq ?_
        refine wp_seq ?_
        refine wp_quiet rfl (by kernel_rfl) hS ?_
        refine qt_val (fun W hC => (v_move hF rfl)) hF (by decide) (fun a hF => ?_)
        refine qt_val (fun W hC => (v_move hF rfl)) hF (by decide) (fun a hF => ?_)
        refine qt_val (fun W hC => (v_len hF rfl pu76)) hF (by decide) (fun a hF => ?_)
        refine qt_val (fun W hC => (v_lss hF rfl rfl)) hF (by decide) (fun a hF => ?_)
        refine qt_val (fun W hC => (v_move hF rfl)) hF (by decide) (fun a hF => ?_)
        obtain ⟨x574, h, hk576⟩ := bindS h
        refine qt_cut 11 (fun a => FH 63 [(0, .slice A0_0 ((u0).length) c0_0), (3, .slice A6 ((x5).length) c7), (4, .int .i64 (x8)), (5, .int .i64 (x22)), (27, .bool x574)] a) (fun a hF => ?_) ?_
        ·
         have h := hk576
         refine qt_nil ?_
         intro W hC
         have hS := hC.2
         refine then_n ?_
         refine wp_if hF rfl (fun he594 => ?_) (fun he594 => ?_)
         ·
          replace h := ifT he594 h
          refine wp_skip ?_
          refine then_n ?_
          refine wp_block ?_
          refine wp_reg ?_
          refine sq_val (v_move hF rfl) hF (by decide) (fun a hF => ?_)
          refine sq_val (v_add hF rfl rfl) hF (by decide) (fun a hF => ?_)
          refine sq_val (v_assign hF rfl) hF (by decide) (fun a hF => ?_)
          refine sq_nil ?_
          refine blk_n ?_
          exact then_j ⟨m572, Nat.lt_succ_self _, (IntKind.i64.wrap (x22 + 1)), (hF.keep ⟨rfl, rfl, rfl, rfl, trivial⟩), hS, h⟩
         ·
          replace h := ifF he594 h
          refine wp_exit ?_
          refine then_x ?_
          refine then_x ?_
          refine blk_hit ?_
          obtain rfl := Option.some.inj h
          exact then_j ⟨x22, rfl, (hF.keep ⟨rfl, rfl, rfl, rfl, trivial⟩), hS⟩
        ·
         by_cases he573 : (decide (x22 < (x5.length : Int))) = true
         ·
          replace h := ifT he573 h
          refine qt_yes hF rfl rfl he573 ?_
          refine qt_val (fun W hC => (v_move hF rfl)) hF (by decide) (fun a hF => ?_)
          refine qt_yes hF rfl rfl he573 ?_
          refine qt_val (fun W hC => (v_move hF rfl)) hF (by decide) (fun a hF => ?_)
          refine qt_yes hF rfl rfl he573 ?_
          obtain ⟨x577, hx578, h⟩ := bindS h
          obtain ⟨p579, cs580, hA581, hc583, hr584⟩ := Row.ok.at (hS.rw_ (i := 0) rfl) hx578
          obtain rfl : cs580 = [.int .i64 (x577)] := hr584
          refine qt_val (fun W hC => (v_idx hF rfl hA581 rfl psl76 hx578)) hF (by decide) (fun a hF => ?_)
          refine qt_yes hF rfl rfl he573 ?_
          refine qt_val (fun W hC => (v_load1 hF rfl pa3 (hc583.grow hC.1))) hF (by decide) (fun a hF => ?_)
          refine qt_yes hF rfl rfl he573 ?_
          refine qt_val (fun W hC => (v_move hF rfl)) hF (by decide) (fun a hF => ?_)
          refine qt_yes hF rfl rfl he573 ?_
          refine qt_val (fun W hC => (v_move hF rfl)) hF (by decide) (fun a hF => ?_)
          refine qt_yes hF rfl rfl he573 ?_
          obtain ⟨x585, hx586, h⟩ := bindS h
          obtain ⟨p587, cs588, hA589, hat590⟩ := SlR.at (hS.fc (i := 0) rfl) hx586
          obtain ⟨A591, c592, rfl, hs593⟩ := hat590.2.2.2
          refine qt_val (fun W hC => (v_idx hF rfl hA589 rfl psl56 hx586)) hF (by decide) (fun a hF => ?_)
          refine qt_yes hF rfl rfl he573 ?_
          refine qt_val (fun W hC => (v_fieldAddr hF rfl pf60_0)) hF (by decide) (fun a hF => ?_)
          refine qt_yes hF rfl rfl he573 ?_
          refine qt_val (fun W hC => (v_load1 hF rfl pa3 (cells_sub (vs := [.int .i64 (x585.Unit)]) (hat590.2.2.1.grow hC.1) rfl rfl))) hF (by decide) (fun a hF => ?_)
          refine qt_yes hF rfl rfl he573 ?_
          refine qt_val (fun W hC => (v_lss hF rfl rfl)) hF (by decide) (fun a hF => ?_)
          refine qt_val (fun W hC => (v_pick_t hF rfl he573 rfl)) hF (by decide) (fun a hF => ?_)
          obtain rfl := Option.some.inj h
          exact qt_nil (hF.keep ⟨rfl, rfl, rfl, rfl, rfl, trivial⟩)
         ·
          have he573 : (decide (x22 < (x5.length : Int))) = false := nB he573
          replace h := ifF he573 h
          refine qt_no hF rfl rfl he573 (by decide) (fun a hF => ?_)
          refine qt_no hF rfl rfl he573 (by decide) (fun a hF => ?_)
          refine qt_no hF rfl rfl he573 (by decide) (fun a hF => ?_)
          refine qt_no hF rfl rfl he573 (by decide) (fun a hF => ?_)
          refine qt_no hF rfl rfl he573 (by decide) (fun a hF => ?_)
          refine qt_no hF rfl rfl he573 (by decide) (fun a hF => ?_)
          refine qt_no hF rfl rfl he573 (by decide) (fun a hF => ?_)
          refine qt_no hF rfl rfl he573 (by decide) (fun a hF => ?_)
          refine qt_no hF rfl rfl he573 (by decide) (fun a hF => ?_)
          refine qt_no hF rfl rfl he573 (by decide) (fun a hF => ?_)
          refine qt_val (fun W hC => (v_pick_f hF rfl he573 rfl)) hF (by decide) (fun a hF => ?_)
          obtain rfl := Option.some.inj h
          exact qt_nil (hF.keep ⟨rfl, rfl, rfl, rfl, rfl, trivial⟩)
    ·
     replace h := ifF he15 h
     refine wp_exit ?_
     refine then_x ?_
     refine then_x ?_
     refine blk_hit ?_
     obtain rfl := Option.some.inj h
     exact then_j ⟨x5, A6, c7, rfl, (hF.keep ⟨rfl, trivial⟩), (hS.keep (List.Sublist.refl _) (List.Sublist.refl _) trivial)⟩
end Go.Proofs.Ytangebngeeamoaa
