/- What calls of the Go functions come to. -/
import Derived.Test.YtangebngeeamoaaW3
set_option linter.unusedVariables false
set_option linter.unusedSimpArgs false
set_option maxRecDepth 100000
set_option maxHeartbeats 4000000
namespace Go.Proofs.Ytangebngeeamoaa
open Go.RowKit Go.Pod
theorem ok_ref19_Region (k : Nat) {M : Nat → Prop} {w0 : World} {u0 : List TChange} {A0_0 : Option Addr} {c0_0 : Nat} {o : (List TRegion)} (hS : St M w0 [] [] [fSl k_TChange A0_0 c0_0 u0] w0) (h : ref19_Region k u0 = some o) :
    Calls Try.prog 47 #[.slice A0_0 ((u0).length) c0_0] w0 fun e W' => ∃ v, e = .returned v ∧ (∃ (A193 : Option Addr) (c194 : Nat), v = .slice A193 ((o).length) c194 ∧ St M w0 [] [⟨k_TRegion, 63, A193, c194, o⟩] [] W') := by
  unfold ref19_Region at h
  refine calls_start (args := [.slice A0_0 ((u0).length) c0_0]) Try.func47 rfl rfl (Nat.le_of_ble_eq_true rfl) (fun a hF => ?_)
  refine wp_seq ?_
  refine wp_reg ?_
  refine sq_val (v_assign hF rfl) hF (by decide) (fun a hF => ?_)
  refine sq_nil ?_
  refine then_n ?_
  refine wp_seq ?_
  refine wp_reg ?_
  refine sq_val (v_assign hF rfl) hF (by decide) (fun a hF => ?_)
  refine sq_nil ?_
  refine then_n ?_
  refine wp_seq ?_
  refine wp_seq ?_
  refine wp_reg ?_
  refine sq_val (v_assign hF rfl) hF (by decide) (fun a hF => ?_)
  refine sq_nil ?_
  refine then_n ?_
  obtain ⟨o12, h, hk13⟩ := bindS h
  refine wp_join (fun a W => ∃ (x9 : List TRegion) (A10 : Option Addr) (c11 : Nat), x9 = o12 ∧ FH 151 [(3, .slice A10 ((x9).length) c11)] a ∧ St M w0 [] [⟨k_TRegion, 63, A10, c11, x9⟩] [] W) (fun a W hJ => ?_) ?_
  ·
   obtain ⟨x9, A10, c11, rfl, hF, hS⟩ := hJ
   have h := hk13
   refine then_n ?_
   refine wp_seq ?_
   refine wp_reg ?_
   refine sq_val (v_move hF rfl) hF (by decide) (fun a hF => ?_)
   refine sq_val (v_assign hF rfl) hF (by decide) (fun a hF => ?_)
   refine sq_nil ?_
   refine then_n ?_
   refine wp_ret ?_
   obtain rfl := Option.some.inj h
   exact ret1 hF rfl (rv_tmp hF rfl) ⟨_, rfl, A10, c11, rfl, hS⟩
  ·
   have hS := hS.addNil k_TRegion 63
   refine wp_block ?_
   refine wp_loop_fuel (I := fun m a W => ∃ (x5 : List TRegion) (x8 : Int) (A6 : Option Addr) (c7 : Nat), FH 151 [(0, .slice A0_0 ((u0).length) c0_0), (3, .slice A6 ((x5).length) c7), (4, .int .i64 (x8))] a ∧ St M w0 [] [⟨k_TRegion, 63, A6, c7, x5⟩] [fSl k_TChange A0_0 c0_0 u0] W ∧ (ref19_Region.l0 k u0 m x5 x8) = some o12) ?_ (k := k) ⟨([]), 0, none, 0, (hF.keep ⟨rfl, rfl, rfl, trivial⟩), hS, h⟩
   rintro m14 a W ⟨x5, x8, A6, c7, hF, hS, h⟩
   cases m14 with
   | zero => cases h
   | succ m14 =>
    rw [ref19_Region.l0] at h
    refine wp_seq ?_
    refine wp_seq ?_
    refine wp_reg ?_
    refine sq_val (v_move hF rfl) hF (by decide) (fun a hF => ?_)
    refine sq_val (v_move hF rfl) hF (by decide) (fun a hF => ?_)
    refine sq_val (v_len hF rfl pu56) hF (by decide) (fun a hF => ?_)
    refine sq_val (v_lss hF rfl rfl) hF (by decide) (fun a hF => ?_)
    refine sq_nil ?_
    refine then_n ?_
    refine wp_if hF rfl (fun he15 => ?_) (fun he15 => ?_)
    ·
     replace h := ifT he15 h
     refine wp_skip ?_
     refine then_n ?_
     refine wp_seq ?_
     obtain ⟨o19, h, hk20⟩ := bindS h
     refine wp_join (fun a W => ∃ (x16 : List TRegion) (A17 : Option Addr) (c18 : Nat), x16 = o19 ∧ FH 151 [(0, .slice A0_0 ((u0).length) c0_0), (3, .slice A17 ((x16).length) c18), (4, .int .i64 (x8))] a ∧ St M w0 [] [⟨k_TRegion, 63, A17, c18, x16⟩] [fSl k_TChange A0_0 c0_0 u0] W) (fun a W hJ => ?_) ?_
     ·
      obtain ⟨x16, A17, c18, rfl, hF, hS⟩ := hJ
      have h := hk20
      refine then_n ?_
      refine wp_reg ?_
      refine sq_val (v_move hF rfl) hF (by decide) (fun a hF => ?_)
      refine sq_val (v_add hF rfl rfl) hF (by decide) (fun a hF => ?_)
      refine sq_val (v_assign hF rfl) hF (by decide) (fun a hF => ?_)
      refine sq_nil ?_
      exact then_j ⟨m14, Nat.lt_succ_self _, x16, (IntKind.i64.wrap (x8 + 1)), A17, c18, (hF.keep ⟨rfl, rfl, rfl, trivial⟩), hS, h⟩
     ·
      refine wp_block ?_
      refine wp_seq ?_
      refine wp_reg ?_
      refine sq_val (v_move hF rfl) hF (by decide) (fun a hF => ?_)
      refine sq_val (v_move hF rfl) hF (by decide) (fun a hF => ?_)
      obtain ⟨x21, hx22, h⟩ := bindS h
      obtain ⟨p23, cs24, hA25, hat26⟩ := SlR.at (hS.fc (i := 0) rfl) hx22
      obtain ⟨A27, c28, rfl, hs29⟩ := hat26.2.2.2
      have hS := hS.addFact (f := fAt k_TChange (p23.add (x8.toNat * 32)) (TChange.enc x21 A27 c28) x21) hat26
      have hS := hS.addFact (f := fSl k_TAct A27 c28 x21.Mod.Acts) hs29
      refine sq_val (v_idx hF rfl hA25 rfl psl56 hx22) hF (by decide) (fun a hF => ?_)
      refine sq_val (v_fieldAddr hF rfl pf60_1) hF (by decide) (fun a hF => ?_)
      refine sq_val (v_fieldAddr hF rfl pf40_1) hF (by decide) (fun a hF => ?_)
      refine sq_val (v_load (cs := TCube.enc x21.Mod.Match) hF rfl pa26 ps26 (cells_sub (vs := TCube.enc x21.Mod.Match) (hS.pc (i := 1) rfl) (add_add _ _ _) rfl)) hF (by decide) (fun a hF => ?_)
      refine sq_alloc hF hS pz26 rfl (by decide) (fun b30 a W hF hS => ?_)
      refine sq_store (o := 0) (vs := TCube.enc x21.Mod.Match) (cs' := TCube.enc x21.Mod.Match) hF hS rfl rfl (i := 0) rfl rfl rfl ps26 (TCube.enc_one _) (Nat.le_of_ble_eq_true rfl) rfl (fun W hS => ?_)
      refine sq_nil ?_
      refine then_n ?_
      refine wp_seq ?_
      refine wp_reg ?_
      refine sq_val (v_load (cs := TCube.enc x21.Mod.Match) hF rfl pa26 ps26 (hS.bc (i := 0) rfl)) hF (by decide) (fun a hF => ?_)
      obtain ⟨x31, hx32, h⟩ := bindS h
      refine sq_call hF pc17 rfl (by decide) (ok_ref01_Cube k (hS.enter trivial) hx32) (fun v W hR a hF => ?_)
      obtain ⟨rfl, hT33⟩ := hR
      have hS := hS.grow hT33.below
      refine sq_val (v_assign hF rfl) hF (by decide) (fun a hF => ?_)
      refine sq_nil ?_
      refine then_n ?_
      refine wp_seq ?_
      refine wp_seq ?_
      refine wp_reg ?_
      refine sq_val (v_assign hF rfl) hF (by decide) (fun a hF => ?_)
      refine sq_nil ?_
      refine then_n ?_
      obtain ⟨o39, h, hk40⟩ := bindS h
      refine wp_join (fun a W => ∃ (x38 : Bool), x38 = o39 ∧ FH 151 [(0, .slice A0_0 ((u0).length) c0_0), (3, .slice A6 ((x5).length) c7), (4, .int .i64 (x8)), (5, .pointer (some (⟨b30, 0, none⟩))), (6, .bool (x38))] a ∧ St M w0 [⟨b30, TCube.enc x21.Mod.Match, 26⟩] [⟨k_TRegion, 63, A6, c7, x5⟩] [fSl k_TChange A0_0 c0_0 u0] W) (fun a W hJ => ?_) ?_
      ·
       obtain ⟨x38, rfl, hF, hS⟩ := hJ
       have h := hk40
       refine then_n ?_
       refine wp_seq ?_
       refine wp_seq ?_
       refine wp_reg ?_
       refine sq_val (v_move hF rfl) hF (by decide) (fun a hF => ?_)
       refine sq_val (v_not hF rfl) hF (by decide) (fun a hF => ?_)
       refine sq_nil ?_
       refine then_n ?_
       refine wp_if hF rfl (fun he41 => ?_) (fun he41 => ?_)
       ·
        replace h := ifT he41 h
        refine wp_exit ?_
        refine then_x ?_
        refine blk_hit ?_
        obtain rfl := Option.some.inj h
        exact then_j ⟨x5, A6, c7, rfl, (hF.keep ⟨rfl, rfl, rfl, trivial⟩), (hS.keep (List.nil_sublist _) (List.Sublist.refl _) ⟨⟨0, rfl⟩, trivial⟩)⟩
       ·
        replace h := ifF he41 h
        refine wp_skip ?_
        refine then_n ?_
        refine wp_seq ?_
        obtain ⟨p42, cs43, hA44, hat45⟩ := SlR.at (hS.fc (i := 0) rfl) hx22
        obtain ⟨A46, c47, rfl, hs48⟩ := hat45.2.2.2
        have hS := hS.addFact (f := fAt k_TChange (p42.add (x8.toNat * 32)) (TChange.enc x21 A46 c47) x21) hat45
        have hS := hS.addFact (f := fSl k_TAct A46 c47 x21.Mod.Acts) hs48
        refine wp_drawn (fun _ => St M w0 [⟨b30, TCube.enc x21.Mod.Match, 26⟩] [] [fSl k_TAct A46 c47 x21.Mod.Acts, fAt k_TChange (p42.add (x8.toNat * 32)) (TChange.enc x21 A46 c47) x21, fSl k_TChange A0_0 c0_0 u0]) (fun q => Nat.beq q 8) rfl hS (fun W hB0 hR0 => ?_)
        have hS := hR0
        have hQC : (fun _ => St M w0 [⟨b30, TCube.enc x21.Mod.Match, 26⟩] [] [fSl k_TAct A46 c47 x21.Mod.Acts, fAt k_TChange (p42.add (x8.toNat * 32)) (TChange.enc x21 A46 c47) x21, fSl k_TChange A0_0 c0_0 u0]) W W := (hS.keep (List.Sublist.refl _) (List.nil_sublist _) ⟨⟨0, rfl⟩, ⟨1, rfl⟩, ⟨2, rfl⟩, trivial⟩)
        refine e_val (listed' := #[true, false, false, false, false, false, false, false, false]) 0 rfl (by kernel_rfl) (by kernel_rfl) (fun _ _ _ h => h) (fun W => (v_move hF rfl)) hF (by decide) (fun a hF => ?_)
        refine e_val (listed' := #[true, true, false, false, false, false, false, false, false]) 1 rfl (by kernel_rfl) (by kernel_rfl) (fun _ _ _ h => h) (fun W => (v_move hF rfl)) hF (by decide) (fun a hF => ?_)
        refine e_val (listed' := #[true, true, true, false, false, false, false, false, false]) 2 rfl (by kernel_rfl) (by kernel_rfl) (fun _ _ _ h => h) (fun W => (v_idx hF rfl hA44 rfl psl56 hx22)) hF (by decide) (fun a hF => ?_)
        refine e_val (listed' := #[true, true, true, true, false, false, false, false, false]) 3 rfl (by kernel_rfl) (by kernel_rfl) (fun _ _ _ h => h) (fun W => (v_fieldAddr hF rfl pf60_0)) hF (by decide) (fun a hF => ?_)
        refine e_valS (listed' := #[true, true, true, true, true, false, false, false, false]) 4 rfl (by kernel_rfl) (by kernel_rfl) (fun _ _ _ h => h) (fun W hC => (v_load1 hF rfl pa3 (cells_sub (vs := [.int .i64 (x21.Unit)]) (hC.pc (i := 1) rfl) rfl rfl))) hQC (by kernel_rfl) hF (by decide) (fun a hF => ?_)
        refine e_valS (listed' := #[true, true, true, true, true, true, false, false, false]) 5 rfl (by kernel_rfl) (by kernel_rfl) (fun _ _ _ h => h) (fun W hC => (v_load (cs := TCube.enc x21.Mod.Match) hF rfl pa26 ps26 (hC.bc (i := 0) rfl))) hQC (by kernel_rfl) hF (by decide) (fun a hF => ?_)
        refine e_val (listed' := #[true, true, true, true, true, true, true, false, false]) 6 rfl (by kernel_rfl) (by kernel_rfl) (fun _ _ _ h => h) (fun W => (v_build (parts := [(0, .tmp 77), (1, .tmp 78)]) (out := TRegion.enc ({ Unit := x21.Unit, Cube := x21.Mod.Match } : TRegion)) hF rfl rfl pz63 rfl pp63 rfl)) hF (by decide) (fun a hF => ?_)
        refine e_one (listed' := #[true, true, true, true, true, true, true, true, false]) 7 rfl (by kernel_rfl) (by kernel_rfl) ?_
        refine sq_alloc hF hS pz63 rfl (by decide) (fun b49 a W hF hS => ?_)
        refine sq_nil (then_j ⟨?_, ?_⟩)
        · exact fun _ _ => (hS.keep (.cons _ (List.Sublist.refl _)) (List.nil_sublist _) ⟨⟨0, rfl⟩, ⟨1, rfl⟩, ⟨2, rfl⟩, trivial⟩)
        ·
         have hQC : (fun _ => St M w0 [⟨b30, TCube.enc x21.Mod.Match, 26⟩] [] [fSl k_TAct A46 c47 x21.Mod.Acts, fAt k_TChange (p42.add (x8.toNat * 32)) (TChange.enc x21 A46 c47) x21, fSl k_TChange A0_0 c0_0 u0]) W W := (hS.keep (.cons _ (List.Sublist.refl _)) (List.nil_sublist _) ⟨⟨0, rfl⟩, ⟨1, rfl⟩, ⟨2, rfl⟩, trivial⟩)
         refine e_one (listed' := #[true, true, true, true, true, true, true, true, true]) 8 rfl (by kernel_rfl) (by kernel_rfl) ?_
         refine sq_store (o := 0) (vs := TRegion.enc ({ Unit := x21.Unit, Cube := x21.Mod.Match } : TRegion)) (cs' := TRegion.enc ({ Unit := x21.Unit, Cube := x21.Mod.Match } : TRegion)) hF hS rfl rfl (i := 0) rfl rfl rfl ps63 (TRegion.enc_one _) (Nat.le_of_ble_eq_true rfl) rfl (fun W hS => ?_)
         refine sq_nil (then_j ⟨?_, ?_⟩)
         · exact fun _ hE => absurd hE (by decide)
         ·
          refine e_done (by kernel_rfl) ?_ _
          refine then_n ?_
          refine wp_seq ?_
          refine wp_reg ?_
          refine sq_val (v_move hF rfl) hF (by decide) (fun a hF => ?_)
          refine sq_val (v_load (cs := TRegion.enc ({ Unit := x21.Unit, Cube := x21.Mod.Match } : TRegion)) hF rfl pa63 ps63 (hS.bc (i := 0) rfl)) hF (by decide) (fun a hF => ?_)
          refine sq_buildSlice (κ := k_TRegion) (xs := [.tmp 81]) (ys := [({ Unit := x21.Unit, Cube := x21.Mod.Match } : TRegion)]) hF hS rfl rfl rfl (Els.cons rfl (Els.nil _ _ _)) rfl psl57 pz63 rfl (by decide) (by decide) (by decide) (fun A50 c51 a W hF hS => ?_)
          obtain ⟨x54, hx55, h⟩ := bindS h
          refine sq_append (ys := ([({ Unit := x21.Unit, Cube := x21.Mod.Match } : TRegion)])) hF hS (i := 1) rfl rfl rfl (hS.rw_ (i := 0) rfl).src psl57 pb63 pz63 rfl (by decide) (by decide) hx55 (by decide) (fun A52 c53 a W hF hS => ?_)
          refine sq_val (v_assign hF rfl) hF (by decide) (fun a hF => ?_)
          refine sq_nil ?_
          refine then_n ?_
          refine wp_seq ?_
          refine wp_reg ?_
          refine sq_val (v_move hF rfl) hF (by decide) (fun a hF => ?_)
          refine sq_val (v_len hF rfl pu57) hF (by decide) (fun a hF => ?_)
          refine sq_val (v_sub hF rfl rfl) hF (by decide) (fun a hF => ?_)
          refine sq_val (v_assign hF rfl) hF (by decide) (fun a hF => ?_)
          refine sq_nil ?_
          refine then_n ?_
          obtain ⟨o62, h, hk63⟩ := bindS h
          refine wp_join (fun a W => ∃ (x61 : List TRegion), x61 = o62 ∧ FH 151 [(0, .slice A0_0 ((u0).length) c0_0), (3, .slice A52 ((x61).length) c53), (4, .int .i64 (x8))] a ∧ St M w0 [] [⟨k_TRegion, 63, A52, c53, x61⟩] [fSl k_TChange A0_0 c0_0 u0] W) (fun a W hJ => ?_) ?_
          ·
           obtain ⟨x61, rfl, hF, hS⟩ := hJ
           have h := hk63
           refine blk_n ?_
           obtain rfl := Option.some.inj h
           exact then_j ⟨x61, A52, c53, rfl, (hF.keep ⟨rfl, rfl, rfl, trivial⟩), hS⟩
          ·
           refine wp_block ?_
           refine wp_loop_fuel (I := fun m a W => ∃ (x59 : List TRegion) (x60 : Int), FH 151 [(0, .slice A0_0 ((u0).length) c0_0), (3, .slice A52 ((x59).length) c53), (4, .int .i64 (x8)), (10, .int .i64 (x60))] a ∧ St M w0 [] [⟨k_TRegion, 63, A52, c53, x59⟩] [fSl k_TChange A0_0 c0_0 u0] W ∧ (ref19_Region.l2 k m x59 x60) = some o62) ?_ (k := k) ⟨x54, (IntKind.i64.wrap ((x54.length : Int) - 1)), (hF.keep ⟨rfl, rfl, rfl, rfl, trivial⟩), (hS.keep (List.nil_sublist _) (.cons _ (List.Sublist.refl _)) ⟨⟨2, rfl⟩, trivial⟩), h⟩
           rintro m64 a W ⟨x59, x60, hF, hS, h⟩
           cases m64 with
           | zero => cases h
           | succ m64 =>
            rw [ref19_Region.l2] at h
            refine wp_seq ?_
            refine wp_seq ?_
            refine wp_quiet rfl (by kernel_rfl) hS ?_
            refine qt_val (fun W hC => (v_move hF rfl)) hF (by decide) (fun a hF => ?_)
            refine qt_val (fun W hC => (v_gtr hF rfl rfl)) hF (by decide) (fun a hF => ?_)
            refine qt_val (fun W hC => (v_move hF rfl)) hF (by decide) (fun a hF => ?_)
            obtain ⟨x66, h, hk68⟩ := bindS h
            refine qt_cut 42 (fun a => FH 151 [(0, .slice A0_0 ((u0).length) c0_0), (3, .slice A52 ((x59).length) c53), (4, .int .i64 (x8)), (10, .int .i64 (x60)), (131, .bool x66)] a) (fun a hF => ?_) ?_
            ·
             have h := hk68
             refine qt_nil ?_
             intro W hC
             have hS := hC.2
             refine then_n ?_
             refine wp_if hF rfl (fun he119 => ?_) (fun he119 => ?_)
             ·
              replace h := ifT he119 h
              refine wp_skip ?_
              refine then_n ?_
              refine wp_seq ?_
              refine wp_block ?_
              refine wp_drawn (QC M w0 [] [⟨k_TRegion, 63, A52, c53, x59⟩] [fSl k_TChange A0_0 c0_0 u0]) (fun q => Nat.beq q 15 || Nat.beq q 17) rfl hS (fun W hB0 hR0 => ?_)
              have hS := hR0
              have hQC : (QC M w0 [] [⟨k_TRegion, 63, A52, c53, x59⟩] [fSl k_TChange A0_0 c0_0 u0]) W W := ⟨Bl.refl _ _, hS⟩
              refine e_val (listed' := #[true, false, false, false, false, false, false, false, false, false, false, false, false, false, false, false, false, false]) 0 rfl (by kernel_rfl) (by kernel_rfl) (fun _ _ _ h => h) (fun W => (v_move hF rfl)) hF (by decide) (fun a hF => ?_)
              refine e_val (listed' := #[true, true, false, false, false, false, false, false, false, false, false, false, false, false, false, false, false, false]) 1 rfl (by kernel_rfl) (by kernel_rfl) (fun _ _ _ h => h) (fun W => (v_move hF rfl)) hF (by decide) (fun a hF => ?_)
              refine e_val (listed' := #[true, true, true, false, false, false, false, false, false, false, false, false, false, false, false, false, false, false]) 2 rfl (by kernel_rfl) (by kernel_rfl) (fun _ _ _ h => h) (fun W => (v_move hF rfl)) hF (by decide) (fun a hF => ?_)
              refine e_val (listed' := #[true, true, true, true, false, false, false, false, false, false, false, false, false, false, false, false, false, false]) 3 rfl (by kernel_rfl) (by kernel_rfl) (fun _ _ _ h => h) (fun W => (v_move hF rfl)) hF (by decide) (fun a hF => ?_)
              refine e_val (listed' := #[true, true, true, true, true, false, false, false, false, false, false, false, false, false, false, false, false, false]) 4 rfl (by kernel_rfl) (by kernel_rfl) (fun _ _ _ h => h) (fun W => (v_sub hF rfl rfl)) hF (by decide) (fun a hF => ?_)
              refine e_val (listed' := #[true, true, true, true, true, true, false, false, false, false, false, false, false, false, false, false, false, false]) 5 rfl (by kernel_rfl) (by kernel_rfl) (fun _ _ _ h => h) (fun W => (v_move hF rfl)) hF (by decide) (fun a hF => ?_)
              refine e_val (listed' := #[true, true, true, true, true, true, true, false, false, false, false, false, false, false, false, false, false, false]) 6 rfl (by kernel_rfl) (by kernel_rfl) (fun _ _ _ h => h) (fun W => (v_move hF rfl)) hF (by decide) (fun a hF => ?_)
              refine e_val (listed' := #[true, true, true, true, true, true, true, true, false, false, false, false, false, false, false, false, false, false]) 7 rfl (by kernel_rfl) (by kernel_rfl) (fun _ _ _ h => h) (fun W => (v_sub hF rfl rfl)) hF (by decide) (fun a hF => ?_)
              obtain ⟨x120, hx121, h⟩ := bindS h
              obtain ⟨p122, cs123, hA124, hc126, hr127⟩ := Row.ok.at (hR0.rw_ (i := 0) rfl) hx121
              obtain rfl : cs123 = TRegion.enc x120 := hr127
              refine e_val (listed' := #[true, true, true, true, true, true, true, true, true, false, false, false, false, false, false, false, false, false]) 8 rfl (by kernel_rfl) (by kernel_rfl) (fun _ _ _ h => h) (fun W => (v_idx hF rfl hA124 rfl psl57 hx121)) hF (by decide) (fun a hF => ?_)
              refine e_valS (listed' := #[true, true, true, true, true, true, true, true, true, true, false, false, false, false, false, false, false, false]) 9 rfl (by kernel_rfl) (by kernel_rfl) (fun _ _ _ h => h) (fun W hC => (v_load (cs := TRegion.enc x120) hF rfl pa63 ps63 (hc126.grow hC.1))) hQC (by kernel_rfl) hF (by decide) (fun a hF => ?_)
              refine e_val (listed' := #[true, true, true, true, true, true, true, true, true, true, true, false, false, false, false, false, false, false]) 10 rfl (by kernel_rfl) (by kernel_rfl) (fun _ _ _ h => h) (fun W => (v_move hF rfl)) hF (by decide) (fun a hF => ?_)
              refine e_val (listed' := #[true, true, true, true, true, true, true, true, true, true, true, true, false, false, false, false, false, false]) 11 rfl (by kernel_rfl) (by kernel_rfl) (fun _ _ _ h => h) (fun W => (v_move hF rfl)) hF (by decide) (fun a hF => ?_)
              obtain ⟨x128, hx129, h⟩ := bindS h
              obtain ⟨p130, cs131, hA132, hc134, hr135⟩ := Row.ok.at (hR0.rw_ (i := 0) rfl) hx129
              obtain rfl : cs131 = TRegion.enc x128 := hr135
              refine e_val (listed' := #[true, true, true, true, true, true, true, true, true, true, true, true, true, false, false, false, false, false]) 12 rfl (by kernel_rfl) (by kernel_rfl) (fun _ _ _ h => h) (fun W => (v_idx hF rfl hA132 rfl psl57 hx129)) hF (by decide) (fun a hF => ?_)
              refine e_valS (listed' := #[true, true, true, true, true, true, true, true, true, true, true, true, true, true, false, false, false, false]) 13 rfl (by kernel_rfl) (by kernel_rfl) (fun _ _ _ h => h) (fun W hC => (v_load (cs := TRegion.enc x128) hF rfl pa63 ps63 (hc134.grow hC.1))) hQC (by kernel_rfl) hF (by decide) (fun a hF => ?_)
              obtain ⟨p136, cs137, hA138, hc140, hr141⟩ := Row.ok.at (hR0.rw_ (i := 0) rfl) hx129
              obtain rfl : cs137 = TRegion.enc x128 := hr141
              refine e_val (listed' := #[true, true, true, true, true, true, true, true, true, true, true, true, true, true, true, false, false, false]) 14 rfl (by kernel_rfl) (by kernel_rfl) (fun _ _ _ h => h) (fun W => (v_idx hF rfl hA138 rfl psl57 hx129)) hF (by decide) (fun a hF => ?_)
              refine e_one (listed' := #[true, true, true, true, true, true, true, true, true, true, true, true, true, true, true, true, false, false]) 15 rfl (by kernel_rfl) (by kernel_rfl) ?_
              refine sq_storeEl hF hS (i := 0) rfl hA138 rfl hx129 rfl rfl ps63 rfl (fun W hS => ?_)
              have hF : FH 151 [(0, .slice A0_0 ((u0).length) c0_0), (3, .slice A52 (((x59.set x60.toNat x120)).length) c53), (4, .int .i64 (x8)), (10, .int .i64 (x60)), (131, .bool (x66)), (134, .slice A52 (((x59.set x60.toNat x120)).length) c53), (135, .int .i64 (x60)), (136, .slice A52 (((x59.set x60.toNat x120)).length) c53), (137, .int .i64 (x60)), (138, .int .i64 ((IntKind.i64.wrap (x60 - 1)))), (139, .slice A52 (((x59.set x60.toNat x120)).length) c53), (140, .int .i64 (x60)), (141, .int .i64 ((IntKind.i64.wrap (x60 - 1)))), (143, .agg (TRegion.enc x120).toArray), (144, .slice A52 (((x59.set x60.toNat x120)).length) c53), (145, .int .i64 (x60)), (147, .agg (TRegion.enc x128).toArray)] a := (hF.keep ⟨rfl, (by simp only [List.length_set] <;> rfl), rfl, rfl, rfl, (by simp only [List.length_set] <;> rfl), rfl, (by simp only [List.length_set] <;> rfl), rfl, rfl, (by simp only [List.length_set] <;> rfl), rfl, rfl, rfl, (by simp only [List.length_set] <;> rfl), rfl, rfl, trivial⟩)
              refine sq_nil (then_j ⟨?_, ?_⟩)
              · exact fun _ hE => absurd hE (by decide)
              ·
               refine e_one (listed' := #[true, true, true, true, true, true, true, true, true, true, true, true, true, true, true, true, true, false]) 16 rfl (by kernel_rfl) (by kernel_rfl) ?_
               obtain ⟨x142, hx143, h⟩ := bindS h
               obtain ⟨p144, cs145, hA146, hc148, hr149⟩ := Row.ok.at (hS.rw_ (i := 0) rfl) hx143
               obtain rfl : cs145 = TRegion.enc x142 := hr149
               refine sq_val (v_idx hF rfl hA146 rfl psl57 hx143) hF (by decide) (fun a hF => ?_)
               refine sq_nil (then_j ⟨?_, ?_⟩)
               · exact fun hQ0 _ => hQ0
               ·
                refine e_one (listed' := #[true, true, true, true, true, true, true, true, true, true, true, true, true, true, true, true, true, true]) 17 rfl (by kernel_rfl) (by kernel_rfl) ?_
                refine sq_storeEl hF hS (i := 0) rfl hA146 rfl hx143 rfl rfl ps63 rfl (fun W hS => ?_)
                have hF : FH 151 [(0, .slice A0_0 ((u0).length) c0_0), (3, .slice A52 ((((x59.set x60.toNat x120).set (IntKind.i64.wrap (x60 - 1)).toNat x128)).length) c53), (4, .int .i64 (x8)), (10, .int .i64 (x60)), (131, .bool (x66)), (134, .slice A52 ((((x59.set x60.toNat x120).set (IntKind.i64.wrap (x60 - 1)).toNat x128)).length) c53), (135, .int .i64 (x60)), (136, .slice A52 ((((x59.set x60.toNat x120).set (IntKind.i64.wrap (x60 - 1)).toNat x128)).length) c53), (137, .int .i64 (x60)), (138, .int .i64 ((IntKind.i64.wrap (x60 - 1)))), (139, .slice A52 ((((x59.set x60.toNat x120).set (IntKind.i64.wrap (x60 - 1)).toNat x128)).length) c53), (140, .int .i64 (x60)), (141, .int .i64 ((IntKind.i64.wrap (x60 - 1)))), (143, .agg (TRegion.enc x120).toArray), (144, .slice A52 ((((x59.set x60.toNat x120).set (IntKind.i64.wrap (x60 - 1)).toNat x128)).length) c53), (145, .int .i64 (x60)), (147, .agg (TRegion.enc x128).toArray)] a := (hF.keep ⟨rfl, (by simp only [List.length_set] <;> rfl), rfl, rfl, rfl, (by simp only [List.length_set] <;> rfl), rfl, (by simp only [List.length_set] <;> rfl), rfl, rfl, (by simp only [List.length_set] <;> rfl), rfl, rfl, rfl, (by simp only [List.length_set] <;> rfl), rfl, rfl, trivial⟩)
                refine sq_nil (then_j ⟨?_, ?_⟩)
                · exact fun _ hE => absurd hE (by decide)
                ·
                 refine e_done (by kernel_rfl) ?_ _
                 refine blk_n ?_
                 refine then_n ?_
                 refine wp_reg ?_
                 refine sq_val (v_move hF rfl) hF (by decide) (fun a hF => ?_)
                 refine sq_val (v_sub hF rfl rfl) hF (by decide) (fun a hF => ?_)
                 refine sq_val (v_assign hF rfl) hF (by decide) (fun a hF => ?_)
                 refine sq_nil ?_
                 exact then_j ⟨m64, Nat.lt_succ_self _, ((x59.set x60.toNat x120).set (IntKind.i64.wrap (x60 - 1)).toNat x128), (IntKind.i64.wrap (x60 - 1)), (hF.keep ⟨rfl, rfl, rfl, rfl, trivial⟩), hS, h⟩
             ·
              replace h := ifF he119 h
              refine wp_exit ?_
              refine then_x ?_
              refine then_x ?_
              refine blk_hit ?_
              obtain rfl := Option.some.inj h
              exact then_j ⟨x59, rfl, (hF.keep ⟨rfl, rfl, rfl, trivial⟩), hS⟩
            ·
             by_cases he65 : (decide (0 < x60)) = true
             ·
              replace h := ifT he65 h
              refine qt_yes hF rfl rfl he65 ?_
              refine qt_val (fun W hC => (v_move hF rfl)) hF (by decide) (fun a hF => ?_)
              refine qt_yes hF rfl rfl he65 ?_
              refine qt_val (fun W hC => (v_move hF rfl)) hF (by decide) (fun a hF => ?_)
              refine qt_yes hF rfl rfl he65 ?_
              obtain ⟨x69, hx70, h⟩ := bindS h
              obtain ⟨p71, cs72, hA73, hc75, hr76⟩ := Row.ok.at (hS.rw_ (i := 0) rfl) hx70
              obtain rfl : cs72 = TRegion.enc x69 := hr76
              refine qt_val (fun W hC => (v_idx hF rfl hA73 rfl psl57 hx70)) hF (by decide) (fun a hF => ?_)
              refine qt_yes hF rfl rfl he65 ?_
              refine qt_val (fun W hC => (v_fieldAddr hF rfl pf63_0)) hF (by decide) (fun a hF => ?_)
              refine qt_yes hF rfl rfl he65 ?_
              refine qt_val (fun W hC => (v_load1 hF rfl pa3 (cells_sub (vs := [.int .i64 (x69.Unit)]) (hc75.grow hC.1) rfl rfl))) hF (by decide) (fun a hF => ?_)
              refine qt_yes hF rfl rfl he65 ?_
              refine qt_val (fun W hC => (v_move hF rfl)) hF (by decide) (fun a hF => ?_)
              refine qt_yes hF rfl rfl he65 ?_
              refine qt_val (fun W hC => (v_move hF rfl)) hF (by decide) (fun a hF => ?_)
              refine qt_yes hF rfl rfl he65 ?_
              refine qt_val (fun W hC => (v_sub hF rfl rfl)) hF (by decide) (fun a hF => ?_)
              refine qt_yes hF rfl rfl he65 ?_
              obtain ⟨x77, hx78, h⟩ := bindS h
              obtain ⟨p79, cs80, hA81, hc83, hr84⟩ := Row.ok.at (hS.rw_ (i := 0) rfl) hx78
              obtain rfl : cs80 = TRegion.enc x77 := hr84
              refine qt_val (fun W hC => (v_idx hF rfl hA81 rfl psl57 hx78)) hF (by decide) (fun a hF => ?_)
              refine qt_yes hF rfl rfl he65 ?_
              refine qt_val (fun W hC => (v_fieldAddr hF rfl pf63_0)) hF (by decide) (fun a hF => ?_)
              refine qt_yes hF rfl rfl he65 ?_
              refine qt_val (fun W hC => (v_load1 hF rfl pa3 (cells_sub (vs := [.int .i64 (x77.Unit)]) (hc83.grow hC.1) rfl rfl))) hF (by decide) (fun a hF => ?_)
              refine qt_yes hF rfl rfl he65 ?_
              refine qt_val (fun W hC => (v_lss hF rfl rfl)) hF (by decide) (fun a hF => ?_)
              refine qt_yes hF rfl rfl he65 ?_
              refine qt_val (fun W hC => (v_move hF rfl)) hF (by decide) (fun a hF => ?_)
              obtain ⟨x86, h, hk88⟩ := bindS h
              refine qt_cut 28 (fun a => FH 151 [(0, .slice A0_0 ((u0).length) c0_0), (3, .slice A52 ((x59).length) c53), (4, .int .i64 (x8)), (10, .int .i64 (x60)), (89, .bool ((decide (0 < x60)))), (90, .slice A52 ((x59).length) c53), (91, .int .i64 (x60)), (92, .pointer (some (p71.add (x60.toNat * 25)))), (93, .pointer (some ((p71.add (x60.toNat * 25)).add (0)))), (94, .int .i64 (x69.Unit)), (95, .slice A52 ((x59).length) c53), (96, .int .i64 (x60)), (97, .int .i64 ((IntKind.i64.wrap (x60 - 1)))), (98, .pointer (some (p79.add ((IntKind.i64.wrap (x60 - 1)).toNat * 25)))), (99, .pointer (some ((p79.add ((IntKind.i64.wrap (x60 - 1)).toNat * 25)).add (0)))), (100, .int .i64 (x77.Unit)), (101, .bool ((decide (x69.Unit < x77.Unit)))), (102, .bool ((decide (x69.Unit < x77.Unit)))), (130, .bool x86)] a) (fun a hF => ?_) ?_
              ·
               have h := hk88
               refine qt_val (fun W hC => (v_pick_t hF rfl he65 rfl)) hF (by decide) (fun a hF => ?_)
               obtain rfl := Option.some.inj h
               exact qt_nil (hF.keep ⟨rfl, rfl, rfl, rfl, rfl, trivial⟩)
              ·
               by_cases he85 : (decide (x69.Unit < x77.Unit)) = true
               ·
                replace h := ifT he85 h
                refine qt_no hF rfl rfl he85 (by decide) (fun a hF => ?_)
                refine qt_no hF rfl rfl he85 (by decide) (fun a hF => ?_)
                refine qt_no hF rfl rfl he85 (by decide) (fun a hF => ?_)
                refine qt_no hF rfl rfl he85 (by decide) (fun a hF => ?_)
                refine qt_no hF rfl rfl he85 (by decide) (fun a hF => ?_)
                refine qt_no hF rfl rfl he85 (by decide) (fun a hF => ?_)
                refine qt_no hF rfl rfl he85 (by decide) (fun a hF => ?_)
                refine qt_no hF rfl rfl he85 (by decide) (fun a hF => ?_)
                refine qt_no hF rfl rfl he85 (by decide) (fun a hF => ?_)
                refine qt_no hF rfl rfl he85 (by decide) (fun a hF => ?_)
                refine qt_no hF rfl rfl he85 (by decide) (fun a hF => ?_)
                refine qt_no hF rfl rfl he85 (by decide) (fun a hF => ?_)
                refine qt_no hF rfl rfl he85 (by decide) (fun a hF => ?_)
                refine qt_no2 hF rfl rfl (by decide) (fun a hF => ?_)
                refine qt_no2 hF rfl rfl (by decide) (fun a hF => ?_)
                refine qt_no2 hF rfl rfl (by decide) (fun a hF => ?_)
                refine qt_no2 hF rfl rfl (by decide) (fun a hF => ?_)
                refine qt_no2 hF rfl rfl (by decide) (fun a hF => ?_)
                refine qt_no2 hF rfl rfl (by decide) (fun a hF => ?_)
                refine qt_no2 hF rfl rfl (by decide) (fun a hF => ?_)
                refine qt_no2 hF rfl rfl (by decide) (fun a hF => ?_)
                refine qt_no2 hF rfl rfl (by decide) (fun a hF => ?_)
                refine qt_no2 hF rfl rfl (by decide) (fun a hF => ?_)
                refine qt_no2 hF rfl rfl (by decide) (fun a hF => ?_)
                refine qt_no2 hF rfl rfl (by decide) (fun a hF => ?_)
                refine qt_no2 hF rfl rfl (by decide) (fun a hF => ?_)
                refine qt_no hF rfl rfl he85 (by decide) (fun a hF => ?_)
                refine qt_yes hF rfl rfl he65 ?_
                refine qt_val (fun W hC => (v_pick_t hF rfl he85 rfl)) hF (by decide) (fun a hF => ?_)
                obtain rfl := Option.some.inj h
                exact qt_nil (hF.keep ⟨rfl, rfl, rfl, rfl, rfl, rfl, rfl, rfl, rfl, rfl, rfl, rfl, rfl, rfl, rfl, rfl, rfl, rfl, rfl, trivial⟩)
               ·
                have he85 : (decide (x69.Unit < x77.Unit)) = false := nB he85
                replace h := ifF he85 h
                refine qt_yes hF rfl rfl he85 ?_
                refine qt_val (fun W hC => (v_move hF rfl)) hF (by decide) (fun a hF => ?_)
                refine qt_yes hF rfl rfl he85 ?_
                refine qt_val (fun W hC => (v_move hF rfl)) hF (by decide) (fun a hF => ?_)
                refine qt_yes hF rfl rfl he85 ?_
                obtain ⟨p89, cs90, hA91, hc93, hr94⟩ := Row.ok.at (hS.rw_ (i := 0) rfl) hx70
                obtain rfl : cs90 = TRegion.enc x69 := hr94
                refine qt_val (fun W hC => (v_idx hF rfl hA91 rfl psl57 hx70)) hF (by decide) (fun a hF => ?_)
                refine qt_yes hF rfl rfl he85 ?_
                refine qt_val (fun W hC => (v_fieldAddr hF rfl pf63_0)) hF (by decide) (fun a hF => ?_)
                refine qt_yes hF rfl rfl he85 ?_
                refine qt_val (fun W hC => (v_load1 hF rfl pa3 (cells_sub (vs := [.int .i64 (x69.Unit)]) (hc93.grow hC.1) rfl rfl))) hF (by decide) (fun a hF => ?_)
                refine qt_yes hF rfl rfl he85 ?_
                refine qt_val (fun W hC => (v_move hF rfl)) hF (by decide) (fun a hF => ?_)
                refine qt_yes hF rfl rfl he85 ?_
                refine qt_val (fun W hC => (v_move hF rfl)) hF (by decide) (fun a hF => ?_)
                refine qt_yes hF rfl rfl he85 ?_
                refine qt_val (fun W hC => (v_sub hF rfl rfl)) hF (by decide) (fun a hF => ?_)
                refine qt_yes hF rfl rfl he85 ?_
                obtain ⟨p95, cs96, hA97, hc99, hr100⟩ := Row.ok.at (hS.rw_ (i := 0) rfl) hx78
                obtain rfl : cs96 = TRegion.enc x77 := hr100
                refine qt_val (fun W hC => (v_idx hF rfl hA97 rfl psl57 hx78)) hF (by decide) (fun a hF => ?_)
                refine qt_yes hF rfl rfl he85 ?_
                refine qt_val (fun W hC => (v_fieldAddr hF rfl pf63_0)) hF (by decide) (fun a hF => ?_)
                refine qt_yes hF rfl rfl he85 ?_
                refine qt_val (fun W hC => (v_load1 hF rfl pa3 (cells_sub (vs := [.int .i64 (x77.Unit)]) (hc99.grow hC.1) rfl rfl))) hF (by decide) (fun a hF => ?_)
                refine qt_yes hF rfl rfl he85 ?_
                refine qt_val (fun W hC => (v_eql hF rfl rfl)) hF (by decide) (fun a hF => ?_)
                refine qt_yes hF rfl rfl he85 ?_
                refine qt_val (fun W hC => (v_move hF rfl)) hF (by decide) (fun a hF => ?_)
                obtain ⟨x102, h, hk104⟩ := bindS h
                refine qt_cut 14 (fun a => FH 151 [(0, .slice A0_0 ((u0).length) c0_0), (3, .slice A52 ((x59).length) c53), (4, .int .i64 (x8)), (10, .int .i64 (x60)), (89, .bool ((decide (0 < x60)))), (90, .slice A52 ((x59).length) c53), (91, .int .i64 (x60)), (92, .pointer (some (p71.add (x60.toNat * 25)))), (93, .pointer (some ((p71.add (x60.toNat * 25)).add (0)))), (94, .int .i64 (x69.Unit)), (95, .slice A52 ((x59).length) c53), (96, .int .i64 (x60)), (97, .int .i64 ((IntKind.i64.wrap (x60 - 1)))), (98, .pointer (some (p79.add ((IntKind.i64.wrap (x60 - 1)).toNat * 25)))), (99, .pointer (some ((p79.add ((IntKind.i64.wrap (x60 - 1)).toNat * 25)).add (0)))), (100, .int .i64 (x77.Unit)), (101, .bool ((decide (x69.Unit < x77.Unit)))), (102, .bool ((decide (x69.Unit < x77.Unit)))), (103, .slice A52 ((x59).length) c53), (104, .int .i64 (x60)), (105, .pointer (some (p89.add (x60.toNat * 25)))), (106, .pointer (some ((p89.add (x60.toNat * 25)).add (0)))), (107, .int .i64 (x69.Unit)), (108, .slice A52 ((x59).length) c53), (109, .int .i64 (x60)), (110, .int .i64 ((IntKind.i64.wrap (x60 - 1)))), (111, .pointer (some (p95.add ((IntKind.i64.wrap (x60 - 1)).toNat * 25)))), (112, .pointer (some ((p95.add ((IntKind.i64.wrap (x60 - 1)).toNat * 25)).add (0)))), (113, .int .i64 (x77.Unit)), (114, .bool ((x69.Unit == x77.Unit))), (115, .bool ((x69.Unit == x77.Unit))), (129, .bool x102)] a) (fun a hF => ?_) ?_
                ·
                 have h := hk104
                 refine qt_yes hF rfl rfl he65 ?_
                 refine qt_val (fun W hC => (v_pick_f hF rfl he85 rfl)) hF (by decide) (fun a hF => ?_)
                 obtain rfl := Option.some.inj h
                 exact qt_nil (hF.keep ⟨rfl, rfl, rfl, rfl, rfl, rfl, rfl, rfl, rfl, rfl, rfl, rfl, rfl, rfl, rfl, rfl, rfl, rfl, rfl, trivial⟩)
                ·
                 by_cases he101 : (x69.Unit == x77.Unit) = true
                 ·
                  replace h := ifT he101 h
                  refine qt_yes hF rfl rfl he101 ?_
                  refine qt_val (fun W hC => (v_move hF rfl)) hF (by decide) (fun a hF => ?_)
                  refine qt_yes hF rfl rfl he101 ?_
                  refine qt_val (fun W hC => (v_move hF rfl)) hF (by decide) (fun a hF => ?_)
                  refine qt_yes hF rfl rfl he101 ?_
                  obtain ⟨p105, cs106, hA107, hc109, hr110⟩ := Row.ok.at (hS.rw_ (i := 0) rfl) hx70
                  obtain rfl : cs106 = TRegion.enc x69 := hr110
                  refine qt_val (fun W hC => (v_idx hF rfl hA107 rfl psl57 hx70)) hF (by decide) (fun a hF => ?_)
                  refine qt_yes hF rfl rfl he101 ?_
                  refine qt_val (fun W hC => (v_fieldAddr hF rfl pf63_1)) hF (by decide) (fun a hF => ?_)
                  refine qt_yes hF rfl rfl he101 ?_
                  refine qt_val (fun W hC => (v_load (cs := TCube.enc x69.Cube) hF rfl pa26 ps26 (cells_sub (vs := TCube.enc x69.Cube) (hc109.grow hC.1) rfl rfl))) hF (by decide) (fun a hF => ?_)
                  refine qt_yes hF rfl rfl he101 ?_
                  refine qt_val (fun W hC => (v_move hF rfl)) hF (by decide) (fun a hF => ?_)
                  refine qt_yes hF rfl rfl he101 ?_
                  refine qt_val (fun W hC => (v_move hF rfl)) hF (by decide) (fun a hF => ?_)
                  refine qt_yes hF rfl rfl he101 ?_
                  refine qt_val (fun W hC => (v_sub hF rfl rfl)) hF (by decide) (fun a hF => ?_)
                  refine qt_yes hF rfl rfl he101 ?_
                  obtain ⟨p111, cs112, hA113, hc115, hr116⟩ := Row.ok.at (hS.rw_ (i := 0) rfl) hx78
                  obtain rfl : cs112 = TRegion.enc x77 := hr116
                  refine qt_val (fun W hC => (v_idx hF rfl hA113 rfl psl57 hx78)) hF (by decide) (fun a hF => ?_)
                  refine qt_yes hF rfl rfl he101 ?_
                  refine qt_val (fun W hC => (v_fieldAddr hF rfl pf63_1)) hF (by decide) (fun a hF => ?_)
                  refine qt_yes hF rfl rfl he101 ?_
                  refine qt_val (fun W hC => (v_load (cs := TCube.enc x77.Cube) hF rfl pa26 ps26 (cells_sub (vs := TCube.enc x77.Cube) (hc115.grow hC.1) rfl rfl))) hF (by decide) (fun a hF => ?_)
                  refine qt_yes hF rfl rfl he101 ?_
                  obtain ⟨x117, hx118, h⟩ := bindS h
                  refine qt_call hF pc102 rfl (by decide) (fun W hC => q_of hC (ok_ref01_Compare k (hC.2.enter trivial) hx118)) (fun a hF => ?_)
                  refine qt_yes hF rfl rfl he101 ?_
                  refine qt_val (fun W hC => (v_lss hF rfl rfl)) hF (by decide) (fun a hF => ?_)
                  refine qt_yes hF rfl rfl he85 ?_
                  refine qt_val (fun W hC => (v_pick_t hF rfl he101 rfl)) hF (by decide) (fun a hF => ?_)
                  obtain rfl := Option.some.inj h
                  exact qt_nil (hF.keep ⟨rfl, rfl, rfl, rfl, rfl, rfl, rfl, rfl, rfl, rfl, rfl, rfl, rfl, rfl, rfl, rfl, rfl, rfl, rfl, rfl, rfl, rfl, rfl, rfl, rfl, rfl, rfl, rfl, rfl, rfl, rfl, rfl, trivial⟩)
                 ·
                  have he101 : (x69.Unit == x77.Unit) = false := nB he101
                  replace h := ifF he101 h
                  refine qt_no hF rfl rfl he101 (by decide) (fun a hF => ?_)
                  refine qt_no hF rfl rfl he101 (by decide) (fun a hF => ?_)
                  refine qt_no hF rfl rfl he101 (by decide) (fun a hF => ?_)
                  refine qt_no hF rfl rfl he101 (by decide) (fun a hF => ?_)
                  refine qt_no hF rfl rfl he101 (by decide) (fun a hF => ?_)
                  refine qt_no hF rfl rfl he101 (by decide) (fun a hF => ?_)
                  refine qt_no hF rfl rfl he101 (by decide) (fun a hF => ?_)
                  refine qt_no hF rfl rfl he101 (by decide) (fun a hF => ?_)
                  refine qt_no hF rfl rfl he101 (by decide) (fun a hF => ?_)
                  refine qt_no hF rfl rfl he101 (by decide) (fun a hF => ?_)
                  refine qt_no hF rfl rfl he101 (by decide) (fun a hF => ?_)
                  refine qt_no hF rfl rfl he101 (by decide) (fun a hF => ?_)
                  refine qt_no hF rfl rfl he101 (by decide) (fun a hF => ?_)
                  refine qt_yes hF rfl rfl he85 ?_
                  refine qt_val (fun W hC => (v_pick_f hF rfl he101 rfl)) hF (by decide) (fun a hF => ?_)
                  obtain rfl := Option.some.inj h
                  exact qt_nil (hF.keep ⟨rfl, rfl, rfl, rfl, rfl, rfl, rfl, rfl, rfl, rfl, rfl, rfl, rfl, rfl, rfl, rfl, rfl, rfl, rfl, rfl, rfl, rfl, rfl, rfl, rfl, rfl, rfl, rfl, rfl, rfl, rfl, rfl, trivial⟩)
             ·
              have he65 : (decide (0 < x60)) = false := nB he65
              replace h := ifF he65 h
              refine qt_no hF rfl rfl he65 (by decide) (fun a hF => ?_)
              refine qt_no hF rfl rfl he65 (by decide) (fun a hF => ?_)
              refine qt_no hF rfl rfl he65 (by decide) (fun a hF => ?_)
              refine qt_no hF rfl rfl he65 (by decide) (fun a hF => ?_)
              refine qt_no hF rfl rfl he65 (by decide) (fun a hF => ?_)
              refine qt_no hF rfl rfl he65 (by decide) (fun a hF => ?_)
              refine qt_no hF rfl rfl he65 (by decide) (fun a hF => ?_)
              refine qt_no hF rfl rfl he65 (by decide) (fun a hF => ?_)
              refine qt_no hF rfl rfl he65 (by decide) (fun a hF => ?_)
              refine qt_no hF rfl rfl he65 (by decide) (fun a hF => ?_)
              refine qt_no hF rfl rfl he65 (by decide) (fun a hF => ?_)
              refine qt_no hF rfl rfl he65 (by decide) (fun a hF => ?_)
              refine qt_no hF rfl rfl he65 (by decide) (fun a hF => ?_)
              refine qt_no2 hF rfl rfl (by decide) (fun a hF => ?_)
              refine qt_no2 hF rfl rfl (by decide) (fun a hF => ?_)
              refine qt_no2 hF rfl rfl (by decide) (fun a hF => ?_)
              refine qt_no2 hF rfl rfl (by decide) (fun a hF => ?_)
              refine qt_no2 hF rfl rfl (by decide) (fun a hF => ?_)
              refine qt_no2 hF rfl rfl (by decide) (fun a hF => ?_)
              refine qt_no2 hF rfl rfl (by decide) (fun a hF => ?_)
              refine qt_no2 hF rfl rfl (by decide) (fun a hF => ?_)
              refine qt_no2 hF rfl rfl (by decide) (fun a hF => ?_)
              refine qt_no2 hF rfl rfl (by decide) (fun a hF => ?_)
              refine qt_no2 hF rfl rfl (by decide) (fun a hF => ?_)
              refine qt_no2 hF rfl rfl (by decide) (fun a hF => ?_)
              refine qt_no2 hF rfl rfl (by decide) (fun a hF => ?_)
              refine qt_no2 hF rfl rfl (by decide) (fun a hF => ?_)
              refine qt_no2 hF rfl rfl (by decide) (fun a hF => ?_)
              refine qt_no2 hF rfl rfl (by decide) (fun a hF => ?_)
              refine qt_no2 hF rfl rfl (by decide) (fun a hF => ?_)
              refine qt_no2 hF rfl rfl (by decide) (fun a hF => ?_)
              refine qt_no2 hF rfl rfl (by decide) (fun a hF => ?_)
              refine qt_no2 hF rfl rfl (by decide) (fun a hF => ?_)
              refine qt_no2 hF rfl rfl (by decide) (fun a hF => ?_)
              refine qt_no2 hF rfl rfl (by decide) (fun a hF => ?_)
              refine qt_no2 hF rfl rfl (by decide) (fun a hF => ?_)
              refine qt_no2 hF rfl rfl (by decide) (fun a hF => ?_)
              refine qt_no2 hF rfl rfl (by decide) (fun a hF => ?_)
              refine qt_no2 hF rfl rfl (by decide) (fun a hF => ?_)
              refine qt_no2 hF rfl rfl (by decide) (fun a hF => ?_)
              refine qt_no hF rfl rfl he65 (by decide) (fun a hF => ?_)
              refine qt_val (fun W hC => (v_pick_f hF rfl he65 rfl)) hF (by decide) (fun a hF => ?_)
              obtain rfl := Option.some.inj h
              exact qt_nil (hF.keep ⟨rfl, rfl, rfl, rfl, rfl, trivial⟩)
      ·
       refine wp_block ?_
       refine wp_loop_fuel (I := fun m a W => ∃ (x36 : Bool) (x37 : Int), FH 151 [(0, .slice A0_0 ((u0).length) c0_0), (3, .slice A6 ((x5).length) c7), (4, .int .i64 (x8)), (5, .pointer (some (⟨b30, 0, none⟩))), (6, .bool (x36)), (7, .int .i64 (x37))] a ∧ St M w0 [⟨b30, TCube.enc x21.Mod.Match, 26⟩] [⟨k_TRegion, 63, A6, c7, x5⟩] [fSl k_TChange A0_0 c0_0 u0] W ∧ (ref19_Region.l1 k u0 x8 x21 m x36 x37) = some o39) ?_ (k := k) ⟨x31, 0, (hF.keep ⟨rfl, rfl, rfl, rfl, rfl, rfl, trivial⟩), (hS.keep (List.Sublist.refl _) (List.Sublist.refl _) ⟨⟨2, rfl⟩, trivial⟩), h⟩
       rintro m150 a W ⟨x36, x37, hF, hS, h⟩
       cases m150 with
       | zero => cases h
       | succ m150 =>
        rw [ref19_Region.l1] at h
        refine wp_seq ?_
        refine wp_seq ?_
        refine wp_reg ?_
        refine sq_val (v_move hF rfl) hF (by decide) (fun a hF => ?_)
        refine sq_val (v_move hF rfl) hF (by decide) (fun a hF => ?_)
        refine sq_val (v_len hF rfl pu56) hF (by decide) (fun a hF => ?_)
        refine sq_val (v_lss hF rfl rfl) hF (by decide) (fun a hF => ?_)
        refine sq_val (v_move hF rfl) hF (by decide) (fun a hF => ?_)
        refine sq_cut 2 (fun a W => FH 151 [(0, .slice A0_0 ((u0).length) c0_0), (3, .slice A6 ((x5).length) c7), (4, .int .i64 (x8)), (5, .pointer (some (⟨b30, 0, none⟩))), (6, .bool (x36)), (7, .int .i64 (x37)), (31, .bool ((decide (x37 < (u0.length : Int))) && x36))] a ∧ St M w0 [⟨b30, TCube.enc x21.Mod.Match, 26⟩] [⟨k_TRegion, 63, A6, c7, x5⟩] [fSl k_TChange A0_0 c0_0 u0] W) (fun a W hJ => ?_) ?_
        ·
         obtain ⟨hF, hS⟩ := hJ
         refine sq_nil ?_
         refine then_n ?_
         refine wp_if hF rfl (fun he152 => ?_) (fun he152 => ?_)
         ·
          replace h := ifT he152 h
          refine wp_skip ?_
          refine then_n ?_
          refine wp_seq ?_
          obtain ⟨o154, h, hk155⟩ := bindS h
          refine wp_join (fun a W => ∃ (x153 : Bool), x153 = o154 ∧ FH 151 [(0, .slice A0_0 ((u0).length) c0_0), (3, .slice A6 ((x5).length) c7), (4, .int .i64 (x8)), (5, .pointer (some (⟨b30, 0, none⟩))), (6, .bool (x153)), (7, .int .i64 (x37))] a ∧ St M w0 [⟨b30, TCube.enc x21.Mod.Match, 26⟩] [⟨k_TRegion, 63, A6, c7, x5⟩] [fSl k_TChange A0_0 c0_0 u0] W) (fun a W hJ => ?_) ?_
          ·
           obtain ⟨x153, rfl, hF, hS⟩ := hJ
           have h := hk155
           refine then_n ?_
           refine wp_reg ?_
           refine sq_val (v_move hF rfl) hF (by decide) (fun a hF => ?_)
           refine sq_val (v_add hF rfl rfl) hF (by decide) (fun a hF => ?_)
           refine sq_val (v_assign hF rfl) hF (by decide) (fun a hF => ?_)
           refine sq_nil ?_
           exact then_j ⟨m150, Nat.lt_succ_self _, x153, (IntKind.i64.wrap (x37 + 1)), (hF.keep ⟨rfl, rfl, rfl, rfl, rfl, rfl, trivial⟩), hS, h⟩
          ·
           refine wp_block ?_
           refine wp_seq ?_
           refine wp_reg ?_
           refine sq_val (v_move hF rfl) hF (by decide) (fun a hF => ?_)
           refine sq_val (v_move hF rfl) hF (by decide) (fun a hF => ?_)
           obtain ⟨x156, hx157, h⟩ := bindS h
           obtain ⟨p158, cs159, hA160, hat161⟩ := SlR.at (hS.fc (i := 0) rfl) hx157
           obtain ⟨A162, c163, rfl, hs164⟩ := hat161.2.2.2
           have hS := hS.addFact (f := fAt k_TChange (p158.add (x37.toNat * 32)) (TChange.enc x156 A162 c163) x156) hat161
           have hS := hS.addFact (f := fSl k_TAct A162 c163 x156.Mod.Acts) hs164
           refine sq_val (v_idx hF rfl hA160 rfl psl56 hx157) hF (by decide) (fun a hF => ?_)
           refine sq_val (v_fieldAddr hF rfl pf60_1) hF (by decide) (fun a hF => ?_)
           refine sq_val (v_fieldAddr hF rfl pf40_1) hF (by decide) (fun a hF => ?_)
           refine sq_val (v_load (cs := TCube.enc x156.Mod.Match) hF rfl pa26 ps26 (cells_sub (vs := TCube.enc x156.Mod.Match) (hS.pc (i := 1) rfl) (add_add _ _ _) rfl)) hF (by decide) (fun a hF => ?_)
           refine sq_alloc hF hS pz26 rfl (by decide) (fun b165 a W hF hS => ?_)
           refine sq_store (o := 0) (vs := TCube.enc x156.Mod.Match) (cs' := TCube.enc x156.Mod.Match) hF hS rfl rfl (i := 0) rfl rfl rfl ps26 (TCube.enc_one _) (Nat.le_of_ble_eq_true rfl) rfl (fun W hS => ?_)
           refine sq_nil ?_
           refine then_n ?_
           refine wp_seq ?_
           refine wp_quiet rfl (by kernel_rfl) hS ?_
           refine qt_val (fun W hC => (v_move hF rfl)) hF (by decide) (fun a hF => ?_)
           refine qt_val (fun W hC => (v_move hF rfl)) hF (by decide) (fun a hF => ?_)
           refine qt_val (fun W hC => (v_neq hF rfl rfl)) hF (by decide) (fun a hF => ?_)
           refine qt_val (fun W hC => (v_move hF rfl)) hF (by decide) (fun a hF => ?_)
           refine qt_cut 12 (fun a => FH 151 [(0, .slice A0_0 ((u0).length) c0_0), (3, .slice A6 ((x5).length) c7), (4, .int .i64 (x8)), (5, .pointer (some (⟨b30, 0, none⟩))), (6, .bool (x36)), (7, .int .i64 (x37)), (8, .pointer (some (⟨b165, 0, none⟩))), (55, .bool ((x37 != x8) && (x156.Unit == x21.Unit)))] a) (fun a hF => ?_) ?_
           ·
            refine qt_val (fun W hC => (v_move hF rfl)) hF (by decide) (fun a hF => ?_)
            obtain ⟨x182, h, hk184⟩ := bindS h
            refine qt_cut 4 (fun a => FH 151 [(0, .slice A0_0 ((u0).length) c0_0), (3, .slice A6 ((x5).length) c7), (4, .int .i64 (x8)), (5, .pointer (some (⟨b30, 0, none⟩))), (6, .bool (x36)), (7, .int .i64 (x37)), (8, .pointer (some (⟨b165, 0, none⟩))), (60, .bool x182)] a) (fun a hF => ?_) ?_
            ·
             have h := hk184
             refine qt_val (fun W hC => (v_move hF rfl)) hF (by decide) (fun a hF => ?_)
             refine qt_cut 9 (fun a => FH 151 [(0, .slice A0_0 ((u0).length) c0_0), (3, .slice A6 ((x5).length) c7), (4, .int .i64 (x8)), (5, .pointer (some (⟨b30, 0, none⟩))), (6, .bool (x36)), (7, .int .i64 (x37)), (70, .bool (x182 && ((!(cellsEq (TCube.enc x21.Mod.Match) (TCube.enc x156.Mod.Match))) || (decide (x37 < x8)))))] a) (fun a hF => ?_) ?_
             ·
              refine qt_nil ?_
              intro W hC
              have hS := hC.2
              refine then_n ?_
              obtain ⟨o190, h, hk191⟩ := bindS h
              refine wp_join (fun a W => ∃ (x189 : Bool), x189 = o190 ∧ FH 151 [(0, .slice A0_0 ((u0).length) c0_0), (3, .slice A6 ((x5).length) c7), (4, .int .i64 (x8)), (5, .pointer (some (⟨b30, 0, none⟩))), (6, .bool (x189)), (7, .int .i64 (x37))] a ∧ St M w0 [⟨b30, TCube.enc x21.Mod.Match, 26⟩] [⟨k_TRegion, 63, A6, c7, x5⟩] [fSl k_TChange A0_0 c0_0 u0] W) (fun a W hJ => ?_) ?_
              ·
               obtain ⟨x189, rfl, hF, hS⟩ := hJ
               have h := hk191
               refine blk_n ?_
               obtain rfl := Option.some.inj h
               exact then_j ⟨x189, rfl, (hF.keep ⟨rfl, rfl, rfl, rfl, rfl, rfl, trivial⟩), hS⟩
              ·
               refine wp_if hF rfl (fun he192 => ?_) (fun he192 => ?_)
               ·
                replace h := ifT he192 h
                refine wp_reg ?_
                refine sq_val (v_assign hF rfl) hF (by decide) (fun a hF => ?_)
                refine sq_nil ?_
                obtain rfl := Option.some.inj h
                exact then_j ⟨false, rfl, (hF.keep ⟨rfl, rfl, rfl, rfl, rfl, rfl, trivial⟩), (hS.keep (.cons _ (List.Sublist.refl _)) (List.Sublist.refl _) ⟨⟨2, rfl⟩, trivial⟩)⟩
               ·
                replace h := ifF he192 h
                refine wp_skip ?_
                obtain rfl := Option.some.inj h
                exact then_j ⟨x36, rfl, (hF.keep ⟨rfl, rfl, rfl, rfl, rfl, rfl, trivial⟩), (hS.keep (.cons _ (List.Sublist.refl _)) (List.Sublist.refl _) ⟨⟨2, rfl⟩, trivial⟩)⟩
             ·
              by_cases he187 : x182 = true
              ·
               refine qt_yes hF rfl rfl he187 ?_
               refine qt_val (fun W hC => (v_load (cs := TCube.enc x21.Mod.Match) hF rfl pa26 ps26 (hC.2.bc (i := 1) rfl))) hF (by decide) (fun a hF => ?_)
               refine qt_yes hF rfl rfl he187 ?_
               refine qt_val (fun W hC => (v_load (cs := TCube.enc x156.Mod.Match) hF rfl pa26 ps26 (hC.2.bc (i := 0) rfl))) hF (by decide) (fun a hF => ?_)
               refine qt_yes hF rfl rfl he187 ?_
               refine qt_val (fun W hC => (eq26 hF rfl rfl).2) hF (by decide) (fun a hF => ?_)
               refine qt_yes hF rfl rfl he187 ?_
               refine qt_val (fun W hC => (v_move hF rfl)) hF (by decide) (fun a hF => ?_)
               refine qt_cut 4 (fun a => FH 151 [(0, .slice A0_0 ((u0).length) c0_0), (3, .slice A6 ((x5).length) c7), (4, .int .i64 (x8)), (5, .pointer (some (⟨b30, 0, none⟩))), (6, .bool (x36)), (7, .int .i64 (x37)), (61, .bool (x182)), (62, .agg (TCube.enc x21.Mod.Match).toArray), (63, .agg (TCube.enc x156.Mod.Match).toArray), (64, .bool ((!(cellsEq (TCube.enc x21.Mod.Match) (TCube.enc x156.Mod.Match))))), (65, .bool ((!(cellsEq (TCube.enc x21.Mod.Match) (TCube.enc x156.Mod.Match))))), (69, .bool ((!(cellsEq (TCube.enc x21.Mod.Match) (TCube.enc x156.Mod.Match))) || (decide (x37 < x8))))] a) (fun a hF => ?_) ?_
               ·
                refine qt_val (fun W hC => (v_pick_t hF rfl he187 rfl)) hF (by decide) (fun a hF => ?_)
                exact qt_nil (hF.keep ⟨rfl, rfl, rfl, rfl, rfl, rfl, (boolV (and_t he187)), trivial⟩)
               ·
                by_cases he188 : (!(cellsEq (TCube.enc x21.Mod.Match) (TCube.enc x156.Mod.Match))) = true
                ·
                 refine qt_no hF rfl rfl he188 (by decide) (fun a hF => ?_)
                 refine qt_no hF rfl rfl he188 (by decide) (fun a hF => ?_)
                 refine qt_no hF rfl rfl he188 (by decide) (fun a hF => ?_)
                 refine qt_yes hF rfl rfl he187 ?_
                 refine qt_val (fun W hC => (v_pick_t hF rfl he188 rfl)) hF (by decide) (fun a hF => ?_)
                 exact qt_nil (hF.keep ⟨rfl, rfl, rfl, rfl, rfl, rfl, rfl, rfl, rfl, rfl, rfl, (boolV (or_t he188)), trivial⟩)
                ·
                 have he188 : (!(cellsEq (TCube.enc x21.Mod.Match) (TCube.enc x156.Mod.Match))) = false := nB he188
                 refine qt_yes hF rfl rfl he188 ?_
                 refine qt_val (fun W hC => (v_move hF rfl)) hF (by decide) (fun a hF => ?_)
                 refine qt_yes hF rfl rfl he188 ?_
                 refine qt_val (fun W hC => (v_move hF rfl)) hF (by decide) (fun a hF => ?_)
                 refine qt_yes hF rfl rfl he188 ?_
                 refine qt_val (fun W hC => (v_lss hF rfl rfl)) hF (by decide) (fun a hF => ?_)
                 refine qt_yes hF rfl rfl he187 ?_
                 refine qt_val (fun W hC => (v_pick_f hF rfl he188 rfl)) hF (by decide) (fun a hF => ?_)
                 exact qt_nil (hF.keep ⟨rfl, rfl, rfl, rfl, rfl, rfl, rfl, rfl, rfl, rfl, rfl, (boolV (or_f he188)), trivial⟩)
              ·
               have he187 : x182 = false := nB he187
               refine qt_no hF rfl rfl he187 (by decide) (fun a hF => ?_)
               refine qt_no hF rfl rfl he187 (by decide) (fun a hF => ?_)
               refine qt_no hF rfl rfl he187 (by decide) (fun a hF => ?_)
               refine qt_no hF rfl rfl he187 (by decide) (fun a hF => ?_)
               refine qt_no2 hF rfl rfl (by decide) (fun a hF => ?_)
               refine qt_no2 hF rfl rfl (by decide) (fun a hF => ?_)
               refine qt_no2 hF rfl rfl (by decide) (fun a hF => ?_)
               refine qt_no hF rfl rfl he187 (by decide) (fun a hF => ?_)
               refine qt_val (fun W hC => (v_pick_f hF rfl he187 rfl)) hF (by decide) (fun a hF => ?_)
               exact qt_nil (hF.keep ⟨rfl, rfl, rfl, rfl, rfl, rfl, (boolV (and_f he187)), trivial⟩)
            ·
             by_cases he181 : ((x37 != x8) && (x156.Unit == x21.Unit)) = true
             ·
              replace h := ifT he181 h
              refine qt_yes hF rfl rfl he181 ?_
              refine qt_val (fun W hC => (v_load (cs := TCube.enc x21.Mod.Match) hF rfl pa26 ps26 (hC.2.bc (i := 1) rfl))) hF (by decide) (fun a hF => ?_)
              refine qt_yes hF rfl rfl he181 ?_
              refine qt_val (fun W hC => (v_load (cs := TCube.enc x156.Mod.Match) hF rfl pa26 ps26 (hC.2.bc (i := 0) rfl))) hF (by decide) (fun a hF => ?_)
              refine qt_yes hF rfl rfl he181 ?_
              obtain ⟨x185, hx186, h⟩ := bindS h
              refine qt_call hF pc20 rfl (by decide) (fun W hC => q_of hC (ok_ref01_Within k (hC.2.enter trivial) hx186)) (fun a hF => ?_)
              refine qt_val (fun W hC => (v_pick_t hF rfl he181 rfl)) hF (by decide) (fun a hF => ?_)
              obtain rfl := Option.some.inj h
              exact qt_nil (hF.keep ⟨rfl, rfl, rfl, rfl, rfl, rfl, rfl, rfl, trivial⟩)
             ·
              have he181 : ((x37 != x8) && (x156.Unit == x21.Unit)) = false := nB he181
              replace h := ifF he181 h
              refine qt_no hF rfl rfl he181 (by decide) (fun a hF => ?_)
              refine qt_no hF rfl rfl he181 (by decide) (fun a hF => ?_)
              refine qt_no hF rfl rfl he181 (by decide) (fun a hF => ?_)
              refine qt_val (fun W hC => (v_pick_f hF rfl he181 rfl)) hF (by decide) (fun a hF => ?_)
              obtain rfl := Option.some.inj h
              exact qt_nil (hF.keep ⟨rfl, rfl, rfl, rfl, rfl, rfl, rfl, rfl, trivial⟩)
           ·
            by_cases he166 : (x37 != x8) = true
            ·
             refine qt_yes hF rfl rfl he166 ?_
             refine qt_val (fun W hC => (v_move hF rfl)) hF (by decide) (fun a hF => ?_)
             refine qt_yes hF rfl rfl he166 ?_
             refine qt_val (fun W hC => (v_move hF rfl)) hF (by decide) (fun a hF => ?_)
             refine qt_yes hF rfl rfl he166 ?_
             obtain ⟨p167, cs168, hA169, hat170⟩ := SlR.at (hS.fc (i := 2) rfl) hx157
             obtain ⟨A171, c172, rfl, hs173⟩ := hat170.2.2.2
             refine qt_val (fun W hC => (v_idx hF rfl hA169 rfl psl56 hx157)) hF (by decide) (fun a hF => ?_)
             refine qt_yes hF rfl rfl he166 ?_
             refine qt_val (fun W hC => (v_fieldAddr hF rfl pf60_0)) hF (by decide) (fun a hF => ?_)
             refine qt_yes hF rfl rfl he166 ?_
             refine qt_val (fun W hC => (v_load1 hF rfl pa3 (cells_sub (vs := [.int .i64 (x156.Unit)]) (hat170.2.2.1.grow hC.1) rfl rfl))) hF (by decide) (fun a hF => ?_)
             refine qt_yes hF rfl rfl he166 ?_
             refine qt_val (fun W hC => (v_move hF rfl)) hF (by decide) (fun a hF => ?_)
             refine qt_yes hF rfl rfl he166 ?_
             refine qt_val (fun W hC => (v_move hF rfl)) hF (by decide) (fun a hF => ?_)
             refine qt_yes hF rfl rfl he166 ?_
             obtain ⟨p174, cs175, hA176, hat177⟩ := SlR.at (hS.fc (i := 2) rfl) hx22
             obtain ⟨A178, c179, rfl, hs180⟩ := hat177.2.2.2
             refine qt_val (fun W hC => (v_idx hF rfl hA176 rfl psl56 hx22)) hF (by decide) (fun a hF => ?_)
             refine qt_yes hF rfl rfl he166 ?_
             refine qt_val (fun W hC => (v_fieldAddr hF rfl pf60_0)) hF (by decide) (fun a hF => ?_)
             refine qt_yes hF rfl rfl he166 ?_
             refine qt_val (fun W hC => (v_load1 hF rfl pa3 (cells_sub (vs := [.int .i64 (x21.Unit)]) (hat177.2.2.1.grow hC.1) rfl rfl))) hF (by decide) (fun a hF => ?_)
             refine qt_yes hF rfl rfl he166 ?_
             refine qt_val (fun W hC => (v_eql hF rfl rfl)) hF (by decide) (fun a hF => ?_)
             refine qt_val (fun W hC => (v_pick_t hF rfl he166 rfl)) hF (by decide) (fun a hF => ?_)
             exact qt_nil (hF.keep ⟨rfl, rfl, rfl, rfl, rfl, rfl, rfl, (boolV (and_t he166)), trivial⟩)
            ·
             have he166 : (x37 != x8) = false := nB he166
             refine qt_no hF rfl rfl he166 (by decide) (fun a hF => ?_)
             refine qt_no hF rfl rfl he166 (by decide) (fun a hF => ?_)
             refine qt_no hF rfl rfl he166 (by decide) (fun a hF => ?_)
             refine qt_no hF rfl rfl he166 (by decide) (fun a hF => ?_)
             refine qt_no hF rfl rfl he166 (by decide) (fun a hF => ?_)
             refine qt_no hF rfl rfl he166 (by decide) (fun a hF => ?_)
             refine qt_no hF rfl rfl he166 (by decide) (fun a hF => ?_)
             refine qt_no hF rfl rfl he166 (by decide) (fun a hF => ?_)
             refine qt_no hF rfl rfl he166 (by decide) (fun a hF => ?_)
             refine qt_no hF rfl rfl he166 (by decide) (fun a hF => ?_)
             refine qt_no hF rfl rfl he166 (by decide) (fun a hF => ?_)
             refine qt_val (fun W hC => (v_pick_f hF rfl he166 rfl)) hF (by decide) (fun a hF => ?_)
             exact qt_nil (hF.keep ⟨rfl, rfl, rfl, rfl, rfl, rfl, rfl, (boolV (and_f he166)), trivial⟩)
         ·
          replace h := ifF he152 h
          refine wp_exit ?_
          refine then_x ?_
          refine then_x ?_
          refine blk_hit ?_
          obtain rfl := Option.some.inj h
          exact then_j ⟨x36, rfl, (hF.keep ⟨rfl, rfl, rfl, rfl, rfl, trivial⟩), hS⟩
        ·
         by_cases he151 : (decide (x37 < (u0.length : Int))) = true
         ·
          refine sq_yes hF rfl rfl he151 ?_
          refine sq_val (v_move hF rfl) hF (by decide) (fun a hF => ?_)
          refine sq_val (v_pick_t hF rfl he151 rfl) hF (by decide) (fun a hF => ?_)
          exact sq_nil (then_j ⟨(hF.keep ⟨rfl, rfl, rfl, rfl, rfl, rfl, (boolV (and_t he151)), trivial⟩), hS⟩)
         ·
          have he151 : (decide (x37 < (u0.length : Int))) = false := nB he151
          refine sq_no hF rfl rfl he151 (by rintro x ⟨⟩; decide) (fun a hF => ?_)
          refine sq_val (v_pick_f hF rfl he151 rfl) hF (by decide) (fun a hF => ?_)
          exact sq_nil (then_j ⟨(hF.keep ⟨rfl, rfl, rfl, rfl, rfl, rfl, (boolV (and_f he151)), trivial⟩), hS⟩)
    ·
     replace h := ifF he15 h
     refine wp_exit ?_
     refine then_x ?_
     refine then_x ?_
     refine blk_hit ?_
     obtain rfl := Option.some.inj h
     exact then_j ⟨x5, A6, c7, rfl, (hF.keep ⟨rfl, trivial⟩), (hS.keep (List.Sublist.refl _) (List.Sublist.refl _) trivial)⟩
end Go.Proofs.Ytangebngeeamoaa
