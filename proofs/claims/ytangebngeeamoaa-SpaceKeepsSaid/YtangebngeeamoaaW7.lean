/- What calls of the Go functions come to. -/
import Derived.Test.YtangebngeeamoaaW6
set_option linter.unusedVariables false
set_option linter.unusedSimpArgs false
set_option maxRecDepth 100000
set_option maxHeartbeats 4000000
namespace Go.Proofs.Ytangebngeeamoaa
open Go.RowKit Go.Pod
theorem ok_ref01_Lean (k : Nat) {M : Nat → Prop} {w0 : World} {u0 : List TCube} {A0_0 : Option Addr} {c0_0 : Nat} {o : (List TCube)} (hS : St M w0 [] [] [fSl k_TCube A0_0 c0_0 u0] w0) (h : ref01_Lean k u0 = some o) :
    Calls Try.prog 41 #[.slice A0_0 ((u0).length) c0_0] w0 fun e W' => ∃ v, e = .returned v ∧ (∃ (A151 : Option Addr) (c152 : Nat), v = .slice A151 ((o).length) c152 ∧ St M w0 [] [⟨k_TCube, 26, A151, c152, o⟩] [] W') := by
  unfold ref01_Lean at h
  refine calls_start (args := [.slice A0_0 ((u0).length) c0_0]) Try.func41 rfl rfl (Nat.le_of_ble_eq_true rfl) (fun a hF => ?_)
  refine wp_seq ?_
  refine wp_reg ?_
  refine sq_val (v_assign hF rfl) hF (by decide) (fun a hF => ?_)
  refine sq_nil ?_
  refine then_n ?_
  refine wp_seq ?_
  refine wp_reg ?_
  refine sq_val (v_assign hF rfl) hF (by decide) (fun a hF => ?_)
  refine sq_nil ?_
  refine then_n ?_
  refine wp_seq ?_
  refine wp_seq ?_
  refine wp_reg ?_
  refine sq_val (v_assign hF rfl) hF (by decide) (fun a hF => ?_)
  refine sq_nil ?_
  refine then_n ?_
  obtain ⟨o12, h, hk13⟩ := bindS h
  refine wp_join (fun a W => ∃ (x9 : List TCube) (A10 : Option Addr) (c11 : Nat), x9 = o12 ∧ FH 104 [(3, .slice A10 ((x9).length) c11)] a ∧ St M w0 [] [⟨k_TCube, 26, A10, c11, x9⟩] [] W) (fun a W hJ => ?_) ?_
  ·
    obtain ⟨x9, A10, c11, rfl, hF, hS⟩ := hJ
    have h := hk13
    refine then_n ?_
    refine wp_seq ?_
    refine wp_reg ?_
    refine sq_val (v_move hF rfl) hF (by decide) (fun a hF => ?_)
    refine sq_val (v_assign hF rfl) hF (by decide) (fun a hF => ?_)
    refine sq_nil ?_
    refine then_n ?_
    refine wp_ret ?_
    obtain rfl := Option.some.inj h
    exact ret1 hF rfl (rv_tmp hF rfl) ⟨_, rfl, A10, c11, rfl, hS⟩
  ·
    have hS := hS.addNil k_TCube 26
    refine wp_block ?_
    refine wp_loop_fuel (I := fun m a W => ∃ (x5 : List TCube) (x8 : Int) (A6 : Option Addr) (c7 : Nat), FH 104 [(0, .slice A0_0 ((u0).length) c0_0), (3, .slice A6 ((x5).length) c7), (4, .int .i64 (x8))] a ∧ St M w0 [] [⟨k_TCube, 26, A6, c7, x5⟩] [fSl k_TCube A0_0 c0_0 u0] W ∧ (ref01_Lean.l0 k u0 m x5 x8) = some o12) ?_ (k := k) ⟨([]), 0, none, 0, (hF.keep ⟨rfl, rfl, rfl, trivial⟩), hS, h⟩
    rintro m14 a W ⟨x5, x8, A6, c7, hF, hS, h⟩
    cases m14 with
    | zero => cases h
    | succ m14 =>
      rw [ref01_Lean.l0] at h
      refine wp_seq ?_
      refine wp_seq ?_
      refine wp_reg ?_
      refine sq_val (v_move hF rfl) hF (by decide) (fun a hF => ?_)
      refine sq_val (v_move hF rfl) hF (by decide) (fun a hF => ?_)
      refine sq_val (v_len hF rfl pu29) hF (by decide) (fun a hF => ?_)
      refine sq_val (v_lss hF rfl rfl) hF (by decide) (fun a hF => ?_)
      refine sq_nil ?_
      refine then_n ?_
      refine wp_if hF rfl (fun he15 => ?_) (fun he15 => ?_)
      ·
        replace h := ifT he15 h
        refine wp_skip ?_
        refine then_n ?_
        refine wp_seq ?_
        obtain ⟨o19, h, hk20⟩ := bindS h
        refine wp_join (fun a W => ∃ (x16 : List TCube) (A17 : Option Addr) (c18 : Nat), x16 = o19 ∧ FH 104 [(0, .slice A0_0 ((u0).length) c0_0), (3, .slice A17 ((x16).length) c18), (4, .int .i64 (x8))] a ∧ St M w0 [] [⟨k_TCube, 26, A17, c18, x16⟩] [fSl k_TCube A0_0 c0_0 u0] W) (fun a W hJ => ?_) ?_
        ·
          obtain ⟨x16, A17, c18, rfl, hF, hS⟩ := hJ
          have h := hk20
          refine then_n ?_
          refine wp_reg ?_
          refine sq_val (v_move hF rfl) hF (by decide) (fun a hF => ?_)
          refine sq_val (v_add hF rfl rfl) hF (by decide) (fun a hF => ?_)
          refine sq_val (v_assign hF rfl) hF (by decide) (fun a hF => ?_)
          refine sq_nil ?_
          exact then_j ⟨m14, Nat.lt_succ_self _, x16, (IntKind.i64.wrap (x8 + 1)), A17, c18, (hF.keep ⟨rfl, rfl, rfl, trivial⟩), hS, h⟩
        ·
          refine wp_block ?_
          refine wp_seq ?_
          refine wp_reg ?_
          refine sq_val (v_move hF rfl) hF (by decide) (fun a hF => ?_)
          refine sq_val (v_move hF rfl) hF (by decide) (fun a hF => ?_)
          obtain ⟨x21, hx22, h⟩ := bindS h
          obtain ⟨p23, cs24, hA25, hat26⟩ := SlR.at (hS.fc (i := 0) rfl) hx22
          obtain rfl : cs24 = TCube.enc x21 := hat26.2.2.2
          have hS := hS.addFact (f := fAt k_TCube (p23.add (x8.toNat * 24)) (TCube.enc x21) x21) hat26
          refine sq_val (v_idx hF rfl hA25 rfl psl29 hx22) hF (by decide) (fun a hF => ?_)
          refine sq_val (v_load (cs := TCube.enc x21) hF rfl pa26 ps26 (hS.pc (i := 0) rfl)) hF (by decide) (fun a hF => ?_)
          obtain ⟨x27, hx28, h⟩ := bindS h
          refine sq_call hF pc17 rfl (by decide) (ok_ref01_Cube k (hS.enter trivial) hx28) (fun v W hR a hF => ?_)
          obtain ⟨rfl, hT29⟩ := hR
          have hS := hS.grow hT29.below
          refine sq_val (v_assign hF rfl) hF (by decide) (fun a hF => ?_)
          refine sq_nil ?_
          refine then_n ?_
          refine wp_seq ?_
          refine wp_seq ?_
          refine wp_reg ?_
          refine sq_val (v_assign hF rfl) hF (by decide) (fun a hF => ?_)
          refine sq_nil ?_
          refine then_n ?_
          obtain ⟨o35, h, hk36⟩ := bindS h
          refine wp_join (fun a W => ∃ (x34 : Bool), x34 = o35 ∧ FH 104 [(0, .slice A0_0 ((u0).length) c0_0), (3, .slice A6 ((x5).length) c7), (4, .int .i64 (x8)), (5, .bool (x34))] a ∧ St M w0 [] [⟨k_TCube, 26, A6, c7, x5⟩] [fSl k_TCube A0_0 c0_0 u0] W) (fun a W hJ => ?_) ?_
          ·
            obtain ⟨x34, rfl, hF, hS⟩ := hJ
            have h := hk36
            refine then_n ?_
            refine wp_seq ?_
            refine wp_seq ?_
            refine wp_reg ?_
            refine sq_val (v_move hF rfl) hF (by decide) (fun a hF => ?_)
            refine sq_val (v_not hF rfl) hF (by decide) (fun a hF => ?_)
            refine sq_nil ?_
            refine then_n ?_
            refine wp_if hF rfl (fun he37 => ?_) (fun he37 => ?_)
            ·
              replace h := ifT he37 h
              refine wp_exit ?_
              refine then_x ?_
              refine blk_hit ?_
              obtain rfl := Option.some.inj h
              exact then_j ⟨x5, A6, c7, rfl, (hF.keep ⟨rfl, rfl, rfl, trivial⟩), hS⟩
            ·
              replace h := ifF he37 h
              refine wp_skip ?_
              refine then_n ?_
              refine wp_seq ?_
              refine wp_reg ?_
              refine sq_val (v_move hF rfl) hF (by decide) (fun a hF => ?_)
              refine sq_val (v_move hF rfl) hF (by decide) (fun a hF => ?_)
              refine sq_val (v_move hF rfl) hF (by decide) (fun a hF => ?_)
              obtain ⟨p38, cs39, hA40, hat41⟩ := SlR.at (hS.fc (i := 0) rfl) hx22
              obtain rfl : cs39 = TCube.enc x21 := hat41.2.2.2
              have hS := hS.addFact (f := fAt k_TCube (p38.add (x8.toNat * 24)) (TCube.enc x21) x21) hat41
              refine sq_val (v_idx hF rfl hA40 rfl psl29 hx22) hF (by decide) (fun a hF => ?_)
              refine sq_val (v_load (cs := TCube.enc x21) hF rfl pa26 ps26 (hS.pc (i := 0) rfl)) hF (by decide) (fun a hF => ?_)
              refine sq_buildSlice (κ := k_TCube) (xs := [.tmp 64]) (ys := [x21]) hF hS rfl rfl rfl (Els.cons rfl (Els.nil _ _ _)) rfl psl29 pz26 rfl (by decide) (by decide) (by decide) (fun A42 c43 a W hF hS => ?_)
              obtain ⟨x46, hx47, h⟩ := bindS h
              refine sq_append (ys := ([x21])) hF hS (i := 1) rfl rfl rfl (hS.rw_ (i := 0) rfl).src psl29 pb26 pz26 rfl (by decide) (by decide) hx47 (by decide) (fun A44 c45 a W hF hS => ?_)
              refine sq_val (v_assign hF rfl) hF (by decide) (fun a hF => ?_)
              refine sq_nil ?_
              refine then_n ?_
              refine wp_seq ?_
              refine wp_reg ?_
              refine sq_val (v_move hF rfl) hF (by decide) (fun a hF => ?_)
              refine sq_val (v_len hF rfl pu29) hF (by decide) (fun a hF => ?_)
              refine sq_val (v_sub hF rfl rfl) hF (by decide) (fun a hF => ?_)
              refine sq_val (v_assign hF rfl) hF (by decide) (fun a hF => ?_)
              refine sq_nil ?_
              refine then_n ?_
              obtain ⟨o54, h, hk55⟩ := bindS h
              refine wp_join (fun a W => ∃ (x53 : List TCube), x53 = o54 ∧ FH 104 [(0, .slice A0_0 ((u0).length) c0_0), (3, .slice A44 ((x53).length) c45), (4, .int .i64 (x8))] a ∧ St M w0 [] [⟨k_TCube, 26, A44, c45, x53⟩] [fSl k_TCube A0_0 c0_0 u0] W) (fun a W hJ => ?_) ?_
              ·
                obtain ⟨x53, rfl, hF, hS⟩ := hJ
                have h := hk55
                refine blk_n ?_
                obtain rfl := Option.some.inj h
                exact then_j ⟨x53, A44, c45, rfl, (hF.keep ⟨rfl, rfl, rfl, trivial⟩), hS⟩
              ·
                refine wp_block ?_
                refine wp_loop_fuel (I := fun m a W => ∃ (x51 : List TCube) (x52 : Int), FH 104 [(0, .slice A0_0 ((u0).length) c0_0), (3, .slice A44 ((x51).length) c45), (4, .int .i64 (x8)), (7, .int .i64 (x52))] a ∧ St M w0 [] [⟨k_TCube, 26, A44, c45, x51⟩] [fSl k_TCube A0_0 c0_0 u0] W ∧ (ref01_Lean.l2 k m x51 x52) = some o54) ?_ (k := k) ⟨x46, (IntKind.i64.wrap ((x46.length : Int) - 1)), (hF.keep ⟨rfl, rfl, rfl, rfl, trivial⟩), (hS.keep (List.Sublist.refl _) (.cons _ (List.Sublist.refl _)) ⟨⟨1, rfl⟩, trivial⟩), h⟩
                rintro m56 a W ⟨x51, x52, hF, hS, h⟩
                cases m56 with
                | zero => cases h
                | succ m56 =>
                  rw [ref01_Lean.l2] at h
                  refine wp_seq ?_
                  refine wp_seq ?_
                  refine wp_quiet rfl (by kernel_rfl) hS ?_
                  refine qt_val (fun W hC => (v_move hF rfl)) hF (by decide) (fun a hF => ?_)
                  refine qt_val (fun W hC => (v_gtr hF rfl rfl)) hF (by decide) (fun a hF => ?_)
                  refine qt_val (fun W hC => (v_move hF rfl)) hF (by decide) (fun a hF => ?_)
                  obtain ⟨x58, h, hk60⟩ := bindS h
                  refine qt_cut 12 (fun a => FH 104 [(0, .slice A0_0 ((u0).length) c0_0), (3, .slice A44 ((x51).length) c45), (4, .int .i64 (x8)), (7, .int .i64 (x52)), (84, .bool x58)] a) (fun a hF => ?_) ?_
                  ·
                    have h := hk60
                    refine qt_nil ?_
                    intro W hC
                    have hS := hC.2
                    refine then_n ?_
                    refine wp_if hF rfl (fun he79 => ?_) (fun he79 => ?_)
                    ·
                      replace h := ifT he79 h
                      refine wp_skip ?_
                      refine then_n ?_
                      refine wp_seq ?_
                      refine wp_block ?_
                      refine wp_drawn (QC M w0 [] [⟨k_TCube, 26, A44, c45, x51⟩] [fSl k_TCube A0_0 c0_0 u0]) (fun q => Nat.beq q 15 || Nat.beq q 17) rfl hS (fun W hB0 hR0 => ?_)
                      have hS := hR0
                      have hQC : (QC M w0 [] [⟨k_TCube, 26, A44, c45, x51⟩] [fSl k_TCube A0_0 c0_0 u0]) W W := ⟨Bl.refl _ _, hS⟩
                      refine e_val (listed' := #[true, false, false, false, false, false, false, false, false, false, false, false, false, false, false, false, false, false]) 0 rfl (by kernel_rfl) (by kernel_rfl) (fun _ _ _ h => h) (fun W => (v_move hF rfl)) hF (by decide) (fun a hF => ?_)
                      refine e_val (listed' := #[true, true, false, false, false, false, false, false, false, false, false, false, false, false, false, false, false, false]) 1 rfl (by kernel_rfl) (by kernel_rfl) (fun _ _ _ h => h) (fun W => (v_move hF rfl)) hF (by decide) (fun a hF => ?_)
                      refine e_val (listed' := #[true, true, true, false, false, false, false, false, false, false, false, false, false, false, false, false, false, false]) 2 rfl (by kernel_rfl) (by kernel_rfl) (fun _ _ _ h => h) (fun W => (v_move hF rfl)) hF (by decide) (fun a hF => ?_)
                      refine e_val (listed' := #[true, true, true, true, false, false, false, false, false, false, false, false, false, false, false, false, false, false]) 3 rfl (by kernel_rfl) (by kernel_rfl) (fun _ _ _ h => h) (fun W => (v_move hF rfl)) hF (by decide) (fun a hF => ?_)
                      refine e_val (listed' := #[true, true, true, true, true, false, false, false, false, false, false, false, false, false, false, false, false, false]) 4 rfl (by kernel_rfl) (by kernel_rfl) (fun _ _ _ h => h) (fun W => (v_sub hF rfl rfl)) hF (by decide) (fun a hF => ?_)
                      refine e_val (listed' := #[true, true, true, true, true, true, false, false, false, false, false, false, false, false, false, false, false, false]) 5 rfl (by kernel_rfl) (by kernel_rfl) (fun _ _ _ h => h) (fun W => (v_move hF rfl)) hF (by decide) (fun a hF => ?_)
                      refine e_val (listed' := #[true, true, true, true, true, true, true, false, false, false, false, false, false, false, false, false, false, false]) 6 rfl (by kernel_rfl) (by kernel_rfl) (fun _ _ _ h => h) (fun W => (v_move hF rfl)) hF (by decide) (fun a hF => ?_)
                      refine e_val (listed' := #[true, true, true, true, true, true, true, true, false, false, false, false, false, false, false, false, false, false]) 7 rfl (by kernel_rfl) (by kernel_rfl) (fun _ _ _ h => h) (fun W => (v_sub hF rfl rfl)) hF (by decide) (fun a hF => ?_)
                      obtain ⟨x80, hx81, h⟩ := bindS h
                      obtain ⟨p82, cs83, hA84, hc86, hr87⟩ := Row.ok.at (hR0.rw_ (i := 0) rfl) hx81
                      obtain rfl : cs83 = TCube.enc x80 := hr87
                      refine e_val (listed' := #[true, true, true, true, true, true, true, true, true, false, false, false, false, false, false, false, false, false]) 8 rfl (by kernel_rfl) (by kernel_rfl) (fun _ _ _ h => h) (fun W => (v_idx hF rfl hA84 rfl psl29 hx81)) hF (by decide) (fun a hF => ?_)
                      refine e_valS (listed' := #[true, true, true, true, true, true, true, true, true, true, false, false, false, false, false, false, false, false]) 9 rfl (by kernel_rfl) (by kernel_rfl) (fun _ _ _ h => h) (fun W hC => (v_load (cs := TCube.enc x80) hF rfl pa26 ps26 (hc86.grow hC.1))) hQC (by kernel_rfl) hF (by decide) (fun a hF => ?_)
                      refine e_val (listed' := #[true, true, true, true, true, true, true, true, true, true, true, false, false, false, false, false, false, false]) 10 rfl (by kernel_rfl) (by kernel_rfl) (fun _ _ _ h => h) (fun W => (v_move hF rfl)) hF (by decide) (fun a hF => ?_)
                      refine e_val (listed' := #[true, true, true, true, true, true, true, true, true, true, true, true, false, false, false, false, false, false]) 11 rfl (by kernel_rfl) (by kernel_rfl) (fun _ _ _ h => h) (fun W => (v_move hF rfl)) hF (by decide) (fun a hF => ?_)
                      obtain ⟨x88, hx89, h⟩ := bindS h
                      obtain ⟨p90, cs91, hA92, hc94, hr95⟩ := Row.ok.at (hR0.rw_ (i := 0) rfl) hx89
                      obtain rfl : cs91 = TCube.enc x88 := hr95
                      refine e_val (listed' := #[true, true, true, true, true, true, true, true, true, true, true, true, true, false, false, false, false, false]) 12 rfl (by kernel_rfl) (by kernel_rfl) (fun _ _ _ h => h) (fun W => (v_idx hF rfl hA92 rfl psl29 hx89)) hF (by decide) (fun a hF => ?_)
                      refine e_valS (listed' := #[true, true, true, true, true, true, true, true, true, true, true, true, true, true, false, false, false, false]) 13 rfl (by kernel_rfl) (by kernel_rfl) (fun _ _ _ h => h) (fun W hC => (v_load (cs := TCube.enc x88) hF rfl pa26 ps26 (hc94.grow hC.1))) hQC (by kernel_rfl) hF (by decide) (fun a hF => ?_)
                      obtain ⟨p96, cs97, hA98, hc100, hr101⟩ := Row.ok.at (hR0.rw_ (i := 0) rfl) hx89
                      obtain rfl : cs97 = TCube.enc x88 := hr101
                      refine e_val (listed' := #[true, true, true, true, true, true, true, true, true, true, true, true, true, true, true, false, false, false]) 14 rfl (by kernel_rfl) (by kernel_rfl) (fun _ _ _ h => h) (fun W => (v_idx hF rfl hA98 rfl psl29 hx89)) hF (by decide) (fun a hF => ?_)
                      refine e_one (listed' := #[true, true, true, true, true, true, true, true, true, true, true, true, true, true, true, true, false, false]) 15 rfl (by kernel_rfl) (by kernel_rfl) ?_
                      refine sq_storeEl hF hS (i := 0) rfl hA98 rfl hx89 rfl rfl ps26 rfl (fun W hS => ?_)
                      have hF : FH 104 [(0, .slice A0_0 ((u0).length) c0_0), (3, .slice A44 (((x51.set x52.toNat x80)).length) c45), (4, .int .i64 (x8)), (7, .int .i64 (x52)), (84, .bool (x58)), (87, .slice A44 (((x51.set x52.toNat x80)).length) c45), (88, .int .i64 (x52)), (89, .slice A44 (((x51.set x52.toNat x80)).length) c45), (90, .int .i64 (x52)), (91, .int .i64 ((IntKind.i64.wrap (x52 - 1)))), (92, .slice A44 (((x51.set x52.toNat x80)).length) c45), (93, .int .i64 (x52)), (94, .int .i64 ((IntKind.i64.wrap (x52 - 1)))), (96, .agg (TCube.enc x80).toArray), (97, .slice A44 (((x51.set x52.toNat x80)).length) c45), (98, .int .i64 (x52)), (100, .agg (TCube.enc x88).toArray)] a := (hF.keep ⟨rfl, (by simp only [List.length_set] <;> rfl), rfl, rfl, rfl, (by simp only [List.length_set] <;> rfl), rfl, (by simp only [List.length_set] <;> rfl), rfl, rfl, (by simp only [List.length_set] <;> rfl), rfl, rfl, rfl, (by simp only [List.length_set] <;> rfl), rfl, rfl, trivial⟩)
                      refine sq_nil (then_j ⟨?_, ?_⟩)
                      · exact fun _ hE => absurd hE (by decide)
                      ·
                        refine e_one (listed' := #[true, true, true, true, true, true, true, true, true, true, true, true, true, true, true, true, true, false]) 16 rfl (by kernel_rfl) (by kernel_rfl) ?_
                        obtain ⟨x102, hx103, h⟩ := bindS h
                        obtain ⟨p104, cs105, hA106, hc108, hr109⟩ := Row.ok.at (hS.rw_ (i := 0) rfl) hx103
                        obtain rfl : cs105 = TCube.enc x102 := hr109
                        refine sq_val (v_idx hF rfl hA106 rfl psl29 hx103) hF (by decide) (fun a hF => ?_)
                        refine sq_nil (then_j ⟨?_, ?_⟩)
                        · exact fun hQ0 _ => hQ0
                        ·
                          refine e_one (listed' := #[true, true, true, true, true, true, true, true, true, true, true, true, true, true, true, true, true, true]) 17 rfl (by kernel_rfl) (by kernel_rfl) ?_
                          refine sq_storeEl hF hS (i := 0) rfl hA106 rfl hx103 rfl rfl ps26 rfl (fun W hS => ?_)
                          have hF : FH 104 [(0, .slice A0_0 ((u0).length) c0_0), (3, .slice A44 ((((x51.set x52.toNat x80).set (IntKind.i64.wrap (x52 - 1)).toNat x88)).length) c45), (4, .int .i64 (x8)), (7, .int .i64 (x52)), (84, .bool (x58)), (87, .slice A44 ((((x51.set x52.toNat x80).set (IntKind.i64.wrap (x52 - 1)).toNat x88)).length) c45), (88, .int .i64 (x52)), (89, .slice A44 ((((x51.set x52.toNat x80).set (IntKind.i64.wrap (x52 - 1)).toNat x88)).length) c45), (90, .int .i64 (x52)), (91, .int .i64 ((IntKind.i64.wrap (x52 - 1)))), (92, .slice A44 ((((x51.set x52.toNat x80).set (IntKind.i64.wrap (x52 - 1)).toNat x88)).length) c45), (93, .int .i64 (x52)), (94, .int .i64 ((IntKind.i64.wrap (x52 - 1)))), (96, .agg (TCube.enc x80).toArray), (97, .slice A44 ((((x51.set x52.toNat x80).set (IntKind.i64.wrap (x52 - 1)).toNat x88)).length) c45), (98, .int .i64 (x52)), (100, .agg (TCube.enc x88).toArray)] a := (hF.keep ⟨rfl, (by simp only [List.length_set] <;> rfl), rfl, rfl, rfl, (by simp only [List.length_set] <;> rfl), rfl, (by simp only [List.length_set] <;> rfl), rfl, rfl, (by simp only [List.length_set] <;> rfl), rfl, rfl, rfl, (by simp only [List.length_set] <;> rfl), rfl, rfl, trivial⟩)
                          refine sq_nil (then_j ⟨?_, ?_⟩)
                          · exact fun _ hE => absurd hE (by decide)
                          ·
                            refine e_done (by kernel_rfl) ?_ _
                            refine blk_n ?_
                            refine then_n ?_
                            refine wp_reg ?_
                            refine sq_val (v_move hF rfl) hF (by decide) (fun a hF => ?_)
                            refine sq_val (v_sub hF rfl rfl) hF (by decide) (fun a hF => ?_)
                            refine sq_val (v_assign hF rfl) hF (by decide) (fun a hF => ?_)
                            refine sq_nil ?_
                            exact then_j ⟨m56, Nat.lt_succ_self _, ((x51.set x52.toNat x80).set (IntKind.i64.wrap (x52 - 1)).toNat x88), (IntKind.i64.wrap (x52 - 1)), (hF.keep ⟨rfl, rfl, rfl, rfl, trivial⟩), hS, h⟩
                    ·
                      replace h := ifF he79 h
                      refine wp_exit ?_
                      refine then_x ?_
                      refine then_x ?_
                      refine blk_hit ?_
                      obtain rfl := Option.some.inj h
                      exact then_j ⟨x51, rfl, (hF.keep ⟨rfl, rfl, rfl, trivial⟩), hS⟩
                  ·
                    by_cases he57 : (decide (0 < x52)) = true
                    ·
                      replace h := ifT he57 h
                      refine qt_yes hF rfl rfl he57 ?_
                      refine qt_val (fun W hC => (v_move hF rfl)) hF (by decide) (fun a hF => ?_)
                      refine qt_yes hF rfl rfl he57 ?_
                      refine qt_val (fun W hC => (v_move hF rfl)) hF (by decide) (fun a hF => ?_)
                      refine qt_yes hF rfl rfl he57 ?_
                      obtain ⟨x61, hx62, h⟩ := bindS h
                      obtain ⟨p63, cs64, hA65, hc67, hr68⟩ := Row.ok.at (hS.rw_ (i := 0) rfl) hx62
                      obtain rfl : cs64 = TCube.enc x61 := hr68
                      refine qt_val (fun W hC => (v_idx hF rfl hA65 rfl psl29 hx62)) hF (by decide) (fun a hF => ?_)
                      refine qt_yes hF rfl rfl he57 ?_
                      refine qt_val (fun W hC => (v_load (cs := TCube.enc x61) hF rfl pa26 ps26 (hc67.grow hC.1))) hF (by decide) (fun a hF => ?_)
                      refine qt_yes hF rfl rfl he57 ?_
                      refine qt_val (fun W hC => (v_move hF rfl)) hF (by decide) (fun a hF => ?_)
                      refine qt_yes hF rfl rfl he57 ?_
                      refine qt_val (fun W hC => (v_move hF rfl)) hF (by decide) (fun a hF => ?_)
                      refine qt_yes hF rfl rfl he57 ?_
                      refine qt_val (fun W hC => (v_sub hF rfl rfl)) hF (by decide) (fun a hF => ?_)
                      refine qt_yes hF rfl rfl he57 ?_
                      obtain ⟨x69, hx70, h⟩ := bindS h
                      obtain ⟨p71, cs72, hA73, hc75, hr76⟩ := Row.ok.at (hS.rw_ (i := 0) rfl) hx70
                      obtain rfl : cs72 = TCube.enc x69 := hr76
                      refine qt_val (fun W hC => (v_idx hF rfl hA73 rfl psl29 hx70)) hF (by decide) (fun a hF => ?_)
                      refine qt_yes hF rfl rfl he57 ?_
                      refine qt_val (fun W hC => (v_load (cs := TCube.enc x69) hF rfl pa26 ps26 (hc75.grow hC.1))) hF (by decide) (fun a hF => ?_)
                      refine qt_yes hF rfl rfl he57 ?_
                      obtain ⟨x77, hx78, h⟩ := bindS h
                      refine qt_call hF pc102 rfl (by decide) (fun W hC => q_of hC (ok_ref01_Compare k (hC.2.enter trivial) hx78)) (fun a hF => ?_)
                      refine qt_yes hF rfl rfl he57 ?_
                      refine qt_val (fun W hC => (v_lss hF rfl rfl)) hF (by decide) (fun a hF => ?_)
                      refine qt_val (fun W hC => (v_pick_t hF rfl he57 rfl)) hF (by decide) (fun a hF => ?_)
                      obtain rfl := Option.some.inj h
                      exact qt_nil (hF.keep ⟨rfl, rfl, rfl, rfl, rfl, trivial⟩)
                    ·
                      have he57 : (decide (0 < x52)) = false := nB he57
                      replace h := ifF he57 h
                      refine qt_no hF rfl rfl he57 (by decide) (fun a hF => ?_)
                      refine qt_no hF rfl rfl he57 (by decide) (fun a hF => ?_)
                      refine qt_no hF rfl rfl he57 (by decide) (fun a hF => ?_)
                      refine qt_no hF rfl rfl he57 (by decide) (fun a hF => ?_)
                      refine qt_no hF rfl rfl he57 (by decide) (fun a hF => ?_)
                      refine qt_no hF rfl rfl he57 (by decide) (fun a hF => ?_)
                      refine qt_no hF rfl rfl he57 (by decide) (fun a hF => ?_)
                      refine qt_no hF rfl rfl he57 (by decide) (fun a hF => ?_)
                      refine qt_no hF rfl rfl he57 (by decide) (fun a hF => ?_)
                      refine qt_no hF rfl rfl he57 (by decide) (fun a hF => ?_)
                      refine qt_no hF rfl rfl he57 (by decide) (fun a hF => ?_)
                      refine qt_val (fun W hC => (v_pick_f hF rfl he57 rfl)) hF (by decide) (fun a hF => ?_)
                      obtain rfl := Option.some.inj h
                      exact qt_nil (hF.keep ⟨rfl, rfl, rfl, rfl, rfl, trivial⟩)
          ·
            refine wp_block ?_
            refine wp_loop_fuel (I := fun m a W => ∃ (x32 : Bool) (x33 : Int), FH 104 [(0, .slice A0_0 ((u0).length) c0_0), (3, .slice A6 ((x5).length) c7), (4, .int .i64 (x8)), (5, .bool (x32)), (6, .int .i64 (x33))] a ∧ St M w0 [] [⟨k_TCube, 26, A6, c7, x5⟩] [fSl k_TCube A0_0 c0_0 u0] W ∧ (ref01_Lean.l1 k u0 x8 x21 m x32 x33) = some o35) ?_ (k := k) ⟨x27, 0, (hF.keep ⟨rfl, rfl, rfl, rfl, rfl, trivial⟩), (hS.keep (List.Sublist.refl _) (List.Sublist.refl _) ⟨⟨1, rfl⟩, trivial⟩), h⟩
            rintro m110 a W ⟨x32, x33, hF, hS, h⟩
            cases m110 with
            | zero => cases h
            | succ m110 =>
              rw [ref01_Lean.l1] at h
              refine wp_seq ?_
              refine wp_seq ?_
              refine wp_reg ?_
              refine sq_val (v_move hF rfl) hF (by decide) (fun a hF => ?_)
              refine sq_val (v_move hF rfl) hF (by decide) (fun a hF => ?_)
              refine sq_val (v_len hF rfl pu29) hF (by decide) (fun a hF => ?_)
              refine sq_val (v_lss hF rfl rfl) hF (by decide) (fun a hF => ?_)
              refine sq_val (v_move hF rfl) hF (by decide) (fun a hF => ?_)
              refine sq_cut 2 (fun a W => FH 104 [(0, .slice A0_0 ((u0).length) c0_0), (3, .slice A6 ((x5).length) c7), (4, .int .i64 (x8)), (5, .bool (x32)), (6, .int .i64 (x33)), (25, .bool ((decide (x33 < (u0.length : Int))) && x32))] a ∧ St M w0 [] [⟨k_TCube, 26, A6, c7, x5⟩] [fSl k_TCube A0_0 c0_0 u0] W) (fun a W hJ => ?_) ?_
              ·
                obtain ⟨hF, hS⟩ := hJ
                refine sq_nil ?_
                refine then_n ?_
                refine wp_if hF rfl (fun he112 => ?_) (fun he112 => ?_)
                ·
                  replace h := ifT he112 h
                  refine wp_skip ?_
                  refine then_n ?_
                  refine wp_seq ?_
                  obtain ⟨o114, h, hk115⟩ := bindS h
                  refine wp_join (fun a W => ∃ (x113 : Bool), x113 = o114 ∧ FH 104 [(0, .slice A0_0 ((u0).length) c0_0), (3, .slice A6 ((x5).length) c7), (4, .int .i64 (x8)), (5, .bool (x113)), (6, .int .i64 (x33))] a ∧ St M w0 [] [⟨k_TCube, 26, A6, c7, x5⟩] [fSl k_TCube A0_0 c0_0 u0] W) (fun a W hJ => ?_) ?_
                  ·
                    obtain ⟨x113, rfl, hF, hS⟩ := hJ
                    have h := hk115
                    refine then_n ?_
                    refine wp_reg ?_
                    refine sq_val (v_move hF rfl) hF (by decide) (fun a hF => ?_)
                    refine sq_val (v_add hF rfl rfl) hF (by decide) (fun a hF => ?_)
                    refine sq_val (v_assign hF rfl) hF (by decide) (fun a hF => ?_)
                    refine sq_nil ?_
                    exact then_j ⟨m110, Nat.lt_succ_self _, x113, (IntKind.i64.wrap (x33 + 1)), (hF.keep ⟨rfl, rfl, rfl, rfl, rfl, trivial⟩), hS, h⟩
                  ·
                    refine wp_block ?_
                    refine wp_seq ?_
                    refine wp_quiet rfl (by kernel_rfl) hS ?_
                    refine qt_val (fun W hC => (v_move hF rfl)) hF (by decide) (fun a hF => ?_)
                    refine qt_val (fun W hC => (v_move hF rfl)) hF (by decide) (fun a hF => ?_)
                    refine qt_val (fun W hC => (v_neq hF rfl rfl)) hF (by decide) (fun a hF => ?_)
                    refine qt_val (fun W hC => (v_move hF rfl)) hF (by decide) (fun a hF => ?_)
                    obtain ⟨x117, h, hk119⟩ := bindS h
                    refine qt_cut 10 (fun a => FH 104 [(0, .slice A0_0 ((u0).length) c0_0), (3, .slice A6 ((x5).length) c7), (4, .int .i64 (x8)), (5, .bool (x32)), (6, .int .i64 (x33)), (41, .bool x117)] a) (fun a hF => ?_) ?_
                    ·
                      have h := hk119
                      refine qt_val (fun W hC => (v_move hF rfl)) hF (by decide) (fun a hF => ?_)
                      obtain ⟨x133, h, hk135⟩ := bindS h
                      refine qt_cut 15 (fun a => FH 104 [(0, .slice A0_0 ((u0).length) c0_0), (3, .slice A6 ((x5).length) c7), (4, .int .i64 (x8)), (5, .bool (x32)), (6, .int .i64 (x33)), (57, .bool x133)] a) (fun a hF => ?_) ?_
                      ·
                        have h := hk135
                        refine qt_nil ?_
                        intro W hC
                        have hS := hC.2
                        refine then_n ?_
                        obtain ⟨o148, h, hk149⟩ := bindS h
                        refine wp_join (fun a W => ∃ (x147 : Bool), x147 = o148 ∧ FH 104 [(0, .slice A0_0 ((u0).length) c0_0), (3, .slice A6 ((x5).length) c7), (4, .int .i64 (x8)), (5, .bool (x147)), (6, .int .i64 (x33))] a ∧ St M w0 [] [⟨k_TCube, 26, A6, c7, x5⟩] [fSl k_TCube A0_0 c0_0 u0] W) (fun a W hJ => ?_) ?_
                        ·
                          obtain ⟨x147, rfl, hF, hS⟩ := hJ
                          have h := hk149
                          refine blk_n ?_
                          obtain rfl := Option.some.inj h
                          exact then_j ⟨x147, rfl, (hF.keep ⟨rfl, rfl, rfl, rfl, rfl, trivial⟩), hS⟩
                        ·
                          refine wp_if hF rfl (fun he150 => ?_) (fun he150 => ?_)
                          ·
                            replace h := ifT he150 h
                            refine wp_reg ?_
                            refine sq_val (v_assign hF rfl) hF (by decide) (fun a hF => ?_)
                            refine sq_nil ?_
                            obtain rfl := Option.some.inj h
                            exact then_j ⟨false, rfl, (hF.keep ⟨rfl, rfl, rfl, rfl, rfl, trivial⟩), hS⟩
                          ·
                            replace h := ifF he150 h
                            refine wp_skip ?_
                            obtain rfl := Option.some.inj h
                            exact then_j ⟨x32, rfl, (hF.keep ⟨rfl, rfl, rfl, rfl, rfl, trivial⟩), hS⟩
                      ·
                        by_cases he132 : x117 = true
                        ·
                          replace h := ifT he132 h
                          refine qt_yes hF rfl rfl he132 ?_
                          refine qt_val (fun W hC => (v_move hF rfl)) hF (by decide) (fun a hF => ?_)
                          refine qt_yes hF rfl rfl he132 ?_
                          refine qt_val (fun W hC => (v_move hF rfl)) hF (by decide) (fun a hF => ?_)
                          refine qt_yes hF rfl rfl he132 ?_
                          obtain ⟨x136, hx137, h⟩ := bindS h
                          obtain ⟨p138, cs139, hA140, hat141⟩ := SlR.at (hS.fc (i := 0) rfl) hx137
                          obtain rfl : cs139 = TCube.enc x136 := hat141.2.2.2
                          refine qt_val (fun W hC => (v_idx hF rfl hA140 rfl psl29 hx137)) hF (by decide) (fun a hF => ?_)
                          refine qt_yes hF rfl rfl he132 ?_
                          refine qt_val (fun W hC => (v_load (cs := TCube.enc x136) hF rfl pa26 ps26 (hat141.2.2.1.grow hC.1))) hF (by decide) (fun a hF => ?_)
                          refine qt_yes hF rfl rfl he132 ?_
                          refine qt_val (fun W hC => (v_move hF rfl)) hF (by decide) (fun a hF => ?_)
                          refine qt_yes hF rfl rfl he132 ?_
                          refine qt_val (fun W hC => (v_move hF rfl)) hF (by decide) (fun a hF => ?_)
                          refine qt_yes hF rfl rfl he132 ?_
                          obtain ⟨p142, cs143, hA144, hat145⟩ := SlR.at (hS.fc (i := 0) rfl) hx22
                          obtain rfl : cs143 = TCube.enc x21 := hat145.2.2.2
                          refine qt_val (fun W hC => (v_idx hF rfl hA144 rfl psl29 hx22)) hF (by decide) (fun a hF => ?_)
                          refine qt_yes hF rfl rfl he132 ?_
                          refine qt_val (fun W hC => (v_load (cs := TCube.enc x21) hF rfl pa26 ps26 (hat145.2.2.1.grow hC.1))) hF (by decide) (fun a hF => ?_)
                          refine qt_yes hF rfl rfl he132 ?_
                          refine qt_val (fun W hC => (eq26 hF rfl rfl).2) hF (by decide) (fun a hF => ?_)
                          refine qt_yes hF rfl rfl he132 ?_
                          refine qt_val (fun W hC => (v_move hF rfl)) hF (by decide) (fun a hF => ?_)
                          refine qt_cut 4 (fun a => FH 104 [(0, .slice A0_0 ((u0).length) c0_0), (3, .slice A6 ((x5).length) c7), (4, .int .i64 (x8)), (5, .bool (x32)), (6, .int .i64 (x33)), (42, .bool (x117)), (43, .slice A0_0 ((u0).length) c0_0), (44, .int .i64 (x33)), (45, .pointer (some (p138.add (x33.toNat * 24)))), (46, .agg (TCube.enc x136).toArray), (47, .slice A0_0 ((u0).length) c0_0), (48, .int .i64 (x8)), (49, .pointer (some (p142.add (x8.toNat * 24)))), (50, .agg (TCube.enc x21).toArray), (51, .bool ((!(cellsEq (TCube.enc x136) (TCube.enc x21))))), (52, .bool ((!(cellsEq (TCube.enc x136) (TCube.enc x21))))), (56, .bool ((!(cellsEq (TCube.enc x136) (TCube.enc x21))) || (decide (x33 < x8))))] a) (fun a hF => ?_) ?_
                          ·
                            refine qt_val (fun W hC => (v_pick_t hF rfl he132 rfl)) hF (by decide) (fun a hF => ?_)
                            obtain rfl := Option.some.inj h
                            exact qt_nil (hF.keep ⟨rfl, rfl, rfl, rfl, rfl, rfl, trivial⟩)
                          ·
                            by_cases he146 : (!(cellsEq (TCube.enc x136) (TCube.enc x21))) = true
                            ·
                              refine qt_no hF rfl rfl he146 (by decide) (fun a hF => ?_)
                              refine qt_no hF rfl rfl he146 (by decide) (fun a hF => ?_)
                              refine qt_no hF rfl rfl he146 (by decide) (fun a hF => ?_)
                              refine qt_yes hF rfl rfl he132 ?_
                              refine qt_val (fun W hC => (v_pick_t hF rfl he146 rfl)) hF (by decide) (fun a hF => ?_)
                              exact qt_nil (hF.keep ⟨rfl, rfl, rfl, rfl, rfl, rfl, rfl, rfl, rfl, rfl, rfl, rfl, rfl, rfl, rfl, rfl, (boolV (or_t he146)), trivial⟩)
                            ·
                              have he146 : (!(cellsEq (TCube.enc x136) (TCube.enc x21))) = false := nB he146
                              refine qt_yes hF rfl rfl he146 ?_
                              refine qt_val (fun W hC => (v_move hF rfl)) hF (by decide) (fun a hF => ?_)
                              refine qt_yes hF rfl rfl he146 ?_
                              refine qt_val (fun W hC => (v_move hF rfl)) hF (by decide) (fun a hF => ?_)
                              refine qt_yes hF rfl rfl he146 ?_
                              refine qt_val (fun W hC => (v_lss hF rfl rfl)) hF (by decide) (fun a hF => ?_)
                              refine qt_yes hF rfl rfl he132 ?_
                              refine qt_val (fun W hC => (v_pick_f hF rfl he146 rfl)) hF (by decide) (fun a hF => ?_)
                              exact qt_nil (hF.keep ⟨rfl, rfl, rfl, rfl, rfl, rfl, rfl, rfl, rfl, rfl, rfl, rfl, rfl, rfl, rfl, rfl, (boolV (or_f he146)), trivial⟩)
                        ·
                          have he132 : x117 = false := nB he132
                          replace h := ifF he132 h
                          refine qt_no hF rfl rfl he132 (by decide) (fun a hF => ?_)
                          refine qt_no hF rfl rfl he132 (by decide) (fun a hF => ?_)
                          refine qt_no hF rfl rfl he132 (by decide) (fun a hF => ?_)
                          refine qt_no hF rfl rfl he132 (by decide) (fun a hF => ?_)
                          refine qt_no hF rfl rfl he132 (by decide) (fun a hF => ?_)
                          refine qt_no hF rfl rfl he132 (by decide) (fun a hF => ?_)
                          refine qt_no hF rfl rfl he132 (by decide) (fun a hF => ?_)
                          refine qt_no hF rfl rfl he132 (by decide) (fun a hF => ?_)
                          refine qt_no hF rfl rfl he132 (by decide) (fun a hF => ?_)
                          refine qt_no hF rfl rfl he132 (by decide) (fun a hF => ?_)
                          refine qt_no2 hF rfl rfl (by decide) (fun a hF => ?_)
                          refine qt_no2 hF rfl rfl (by decide) (fun a hF => ?_)
                          refine qt_no2 hF rfl rfl (by decide) (fun a hF => ?_)
                          refine qt_no hF rfl rfl he132 (by decide) (fun a hF => ?_)
                          refine qt_val (fun W hC => (v_pick_f hF rfl he132 rfl)) hF (by decide) (fun a hF => ?_)
                          obtain rfl := Option.some.inj h
                          exact qt_nil (hF.keep ⟨rfl, rfl, rfl, rfl, rfl, rfl, trivial⟩)
                    ·
                      by_cases he116 : (x33 != x8) = true
                      ·
                        replace h := ifT he116 h
                        refine qt_yes hF rfl rfl he116 ?_
                        refine qt_val (fun W hC => (v_move hF rfl)) hF (by decide) (fun a hF => ?_)
                        refine qt_yes hF rfl rfl he116 ?_
                        refine qt_val (fun W hC => (v_move hF rfl)) hF (by decide) (fun a hF => ?_)
                        refine qt_yes hF rfl rfl he116 ?_
                        obtain ⟨p120, cs121, hA122, hat123⟩ := SlR.at (hS.fc (i := 0) rfl) hx22
                        obtain rfl : cs121 = TCube.enc x21 := hat123.2.2.2
                        refine qt_val (fun W hC => (v_idx hF rfl hA122 rfl psl29 hx22)) hF (by decide) (fun a hF => ?_)
                        refine qt_yes hF rfl rfl he116 ?_
                        refine qt_val (fun W hC => (v_load (cs := TCube.enc x21) hF rfl pa26 ps26 (hat123.2.2.1.grow hC.1))) hF (by decide) (fun a hF => ?_)
                        refine qt_yes hF rfl rfl he116 ?_
                        refine qt_val (fun W hC => (v_move hF rfl)) hF (by decide) (fun a hF => ?_)
                        refine qt_yes hF rfl rfl he116 ?_
                        refine qt_val (fun W hC => (v_move hF rfl)) hF (by decide) (fun a hF => ?_)
                        refine qt_yes hF rfl rfl he116 ?_
                        obtain ⟨x124, hx125, h⟩ := bindS h
                        obtain ⟨p126, cs127, hA128, hat129⟩ := SlR.at (hS.fc (i := 0) rfl) hx125
                        obtain rfl : cs127 = TCube.enc x124 := hat129.2.2.2
                        refine qt_val (fun W hC => (v_idx hF rfl hA128 rfl psl29 hx125)) hF (by decide) (fun a hF => ?_)
                        refine qt_yes hF rfl rfl he116 ?_
                        refine qt_val (fun W hC => (v_load (cs := TCube.enc x124) hF rfl pa26 ps26 (hat129.2.2.1.grow hC.1))) hF (by decide) (fun a hF => ?_)
                        refine qt_yes hF rfl rfl he116 ?_
                        obtain ⟨x130, hx131, h⟩ := bindS h
                        refine qt_call hF pc20 rfl (by decide) (fun W hC => q_of hC (ok_ref01_Within k (hC.2.enter trivial) hx131)) (fun a hF => ?_)
                        refine qt_val (fun W hC => (v_pick_t hF rfl he116 rfl)) hF (by decide) (fun a hF => ?_)
                        obtain rfl := Option.some.inj h
                        exact qt_nil (hF.keep ⟨rfl, rfl, rfl, rfl, rfl, rfl, trivial⟩)
                      ·
                        have he116 : (x33 != x8) = false := nB he116
                        replace h := ifF he116 h
                        refine qt_no hF rfl rfl he116 (by decide) (fun a hF => ?_)
                        refine qt_no hF rfl rfl he116 (by decide) (fun a hF => ?_)
                        refine qt_no hF rfl rfl he116 (by decide) (fun a hF => ?_)
                        refine qt_no hF rfl rfl he116 (by decide) (fun a hF => ?_)
                        refine qt_no hF rfl rfl he116 (by decide) (fun a hF => ?_)
                        refine qt_no hF rfl rfl he116 (by decide) (fun a hF => ?_)
                        refine qt_no hF rfl rfl he116 (by decide) (fun a hF => ?_)
                        refine qt_no hF rfl rfl he116 (by decide) (fun a hF => ?_)
                        refine qt_no hF rfl rfl he116 (by decide) (fun a hF => ?_)
                        refine qt_val (fun W hC => (v_pick_f hF rfl he116 rfl)) hF (by decide) (fun a hF => ?_)
                        obtain rfl := Option.some.inj h
                        exact qt_nil (hF.keep ⟨rfl, rfl, rfl, rfl, rfl, rfl, trivial⟩)
                ·
                  replace h := ifF he112 h
                  refine wp_exit ?_
                  refine then_x ?_
                  refine then_x ?_
                  refine blk_hit ?_
                  obtain rfl := Option.some.inj h
                  exact then_j ⟨x32, rfl, (hF.keep ⟨rfl, rfl, rfl, rfl, trivial⟩), hS⟩
              ·
                by_cases he111 : (decide (x33 < (u0.length : Int))) = true
                ·
                  refine sq_yes hF rfl rfl he111 ?_
                  refine sq_val (v_move hF rfl) hF (by decide) (fun a hF => ?_)
                  refine sq_val (v_pick_t hF rfl he111 rfl) hF (by decide) (fun a hF => ?_)
                  exact sq_nil (then_j ⟨(hF.keep ⟨rfl, rfl, rfl, rfl, rfl, (boolV (and_t he111)), trivial⟩), hS⟩)
                ·
                  have he111 : (decide (x33 < (u0.length : Int))) = false := nB he111
                  refine sq_no hF rfl rfl he111 (by rintro x ⟨⟩; decide) (fun a hF => ?_)
                  refine sq_val (v_pick_f hF rfl he111 rfl) hF (by decide) (fun a hF => ?_)
                  exact sq_nil (then_j ⟨(hF.keep ⟨rfl, rfl, rfl, rfl, rfl, (boolV (and_f he111)), trivial⟩), hS⟩)
      ·
        replace h := ifF he15 h
        refine wp_exit ?_
        refine then_x ?_
        refine then_x ?_
        refine blk_hit ?_
        obtain rfl := Option.some.inj h
        exact then_j ⟨x5, A6, c7, rfl, (hF.keep ⟨rfl, trivial⟩), (hS.keep (List.Sublist.refl _) (List.Sublist.refl _) trivial)⟩

theorem ok_ref01_SameCubes (k : Nat) {M : Nat → Prop} {w0 : World} {u0 : List TCube} {A0_0 : Option Addr} {c0_0 : Nat} {u1 : List TCube} {A1_0 : Option Addr} {c1_0 : Nat} {o : Bool} (hS : St M w0 [] [] [fSl k_TCube A0_0 c0_0 u0, fSl k_TCube A1_0 c1_0 u1] w0) (h : ref01_SameCubes k u0 u1 = some o) :
    Calls Try.prog 21 #[.slice A0_0 ((u0).length) c0_0, .slice A1_0 ((u1).length) c1_0] w0 fun e W' => ∃ v, e = .returned v ∧ (v = .bool (o) ∧ St M w0 [] [] [] W') := by
  unfold ref01_SameCubes at h
  refine calls_start (args := [.slice A0_0 ((u0).length) c0_0, .slice A1_0 ((u1).length) c1_0]) Try.func21 rfl rfl (Nat.le_of_ble_eq_true rfl) (fun a hF => ?_)
  refine wp_seq ?_
  refine wp_reg ?_
  refine sq_val (v_assign hF rfl) hF (by decide) (fun a hF => ?_)
  refine sq_nil ?_
  refine then_n ?_
  refine wp_seq ?_
  refine wp_seq ?_
  refine wp_reg ?_
  refine sq_val (v_move hF rfl) hF (by decide) (fun a hF => ?_)
  refine sq_val (v_len hF rfl pu29) hF (by decide) (fun a hF => ?_)
  refine sq_val (v_move hF rfl) hF (by decide) (fun a hF => ?_)
  refine sq_val (v_len hF rfl pu29) hF (by decide) (fun a hF => ?_)
  refine sq_val (v_neq hF rfl rfl) hF (by decide) (fun a hF => ?_)
  refine sq_nil ?_
  refine then_n ?_
  refine wp_if hF rfl (fun he1 => ?_) (fun he1 => ?_)
  ·
    replace h := ifT he1 h
    refine wp_seq ?_
    refine wp_reg ?_
    refine sq_val (v_assign hF rfl) hF (by decide) (fun a hF => ?_)
    refine sq_nil ?_
    refine then_n ?_
    refine wp_ret ?_
    refine then_r ?_
    obtain rfl := Option.some.inj h
    exact ret1 hF rfl (rv_tmp hF rfl) ⟨_, rfl, rfl, (hS.keep (List.Sublist.refl _) (List.Sublist.refl _) trivial)⟩
  ·
    replace h := ifF he1 h
    refine wp_skip ?_
    refine then_n ?_
    refine wp_seq ?_
    refine wp_seq ?_
    refine wp_reg ?_
    refine sq_val (v_assign hF rfl) hF (by decide) (fun a hF => ?_)
    refine sq_nil ?_
    refine then_n ?_
    obtain ⟨o4, h, hk5⟩ := bindS h
    refine wp_join (fun a W => Lo.brk () = o4 ∧ FH 26 [] a ∧ St M w0 [] [] [] W) (fun a W hJ => ?_) ?_
    ·
      obtain ⟨rfl, hF, hS⟩ := hJ
      have h := hk5
      dsimp only at h
      refine then_n ?_
      refine wp_seq ?_
      refine wp_reg ?_
      refine sq_val (v_assign hF rfl) hF (by decide) (fun a hF => ?_)
      refine sq_nil ?_
      refine then_n ?_
      refine wp_ret ?_
      obtain rfl := Option.some.inj h
      exact ret1 hF rfl (rv_tmp hF rfl) ⟨_, rfl, rfl, hS⟩
    ·
      refine wp_block ?_
      refine wp_loop_fuel (I := fun m a W => ∃ (x3 : Int), FH 26 [(0, .slice A0_0 ((u0).length) c0_0), (1, .slice A1_0 ((u1).length) c1_0), (5, .int .i64 (x3))] a ∧ St M w0 [] [] [fSl k_TCube A0_0 c0_0 u0, fSl k_TCube A1_0 c1_0 u1] W ∧ (ref01_SameCubes.l0 k u0 u1 m x3) = some o4) ?_ (k := k) ⟨0, (hF.keep ⟨rfl, rfl, rfl, trivial⟩), hS, h⟩
      rintro m6 a W ⟨x3, hF, hS, h⟩
      cases m6 with
      | zero => cases h
      | succ m6 =>
        rw [ref01_SameCubes.l0] at h
        refine wp_seq ?_
        refine wp_seq ?_
        refine wp_reg ?_
        refine sq_val (v_move hF rfl) hF (by decide) (fun a hF => ?_)
        refine sq_val (v_move hF rfl) hF (by decide) (fun a hF => ?_)
        refine sq_val (v_len hF rfl pu29) hF (by decide) (fun a hF => ?_)
        refine sq_val (v_lss hF rfl rfl) hF (by decide) (fun a hF => ?_)
        refine sq_nil ?_
        refine then_n ?_
        refine wp_if hF rfl (fun he7 => ?_) (fun he7 => ?_)
        ·
          replace h := ifT he7 h
          refine wp_skip ?_
          refine then_n ?_
          refine wp_seq ?_
          refine wp_block ?_
          refine wp_seq ?_
          refine wp_quiet rfl (by kernel_rfl) hS ?_
          refine qt_val (fun W hC => (v_move hF rfl)) hF (by decide) (fun a hF => ?_)
          refine qt_val (fun W hC => (v_move hF rfl)) hF (by decide) (fun a hF => ?_)
          obtain ⟨x8, hx9, h⟩ := bindS h
          obtain ⟨p10, cs11, hA12, hat13⟩ := SlR.at (hS.fc (i := 0) rfl) hx9
          obtain rfl : cs11 = TCube.enc x8 := hat13.2.2.2
          refine qt_val (fun W hC => (v_idx hF rfl hA12 rfl psl29 hx9)) hF (by decide) (fun a hF => ?_)
          refine qt_val (fun W hC => (v_load (cs := TCube.enc x8) hF rfl pa26 ps26 (hat13.2.2.1.grow hC.1))) hF (by decide) (fun a hF => ?_)
          refine qt_val (fun W hC => (v_move hF rfl)) hF (by decide) (fun a hF => ?_)
          refine qt_val (fun W hC => (v_move hF rfl)) hF (by decide) (fun a hF => ?_)
          obtain ⟨x14, hx15, h⟩ := bindS h
          obtain ⟨p16, cs17, hA18, hat19⟩ := SlR.at (hS.fc (i := 1) rfl) hx15
          obtain rfl : cs17 = TCube.enc x14 := hat19.2.2.2
          refine qt_val (fun W hC => (v_idx hF rfl hA18 rfl psl29 hx15)) hF (by decide) (fun a hF => ?_)
          refine qt_val (fun W hC => (v_load (cs := TCube.enc x14) hF rfl pa26 ps26 (hat19.2.2.1.grow hC.1))) hF (by decide) (fun a hF => ?_)
          refine qt_val (fun W hC => (eq26 hF rfl rfl).2) hF (by decide) (fun a hF => ?_)
          refine qt_nil ?_
          intro W hC
          have hS := hC.2
          refine then_n ?_
          refine wp_if hF rfl (fun he20 => ?_) (fun he20 => ?_)
          ·
            replace h := ifT he20 h
            refine wp_seq ?_
            refine wp_reg ?_
            refine sq_val (v_assign hF rfl) hF (by decide) (fun a hF => ?_)
            refine sq_nil ?_
            refine then_n ?_
            refine wp_ret ?_
            refine blk_r ?_
            refine then_r ?_
            refine then_r ?_
            refine blk_r ?_
            refine then_r ?_
            refine then_r ?_
            obtain rfl := Option.some.inj h
            have h := hk5
            dsimp only at h
            obtain rfl := Option.some.inj h
            exact ret1 hF rfl (rv_tmp hF rfl) ⟨_, rfl, rfl, (hS.keep (List.Sublist.refl _) (List.Sublist.refl _) trivial)⟩
          ·
            replace h := ifF he20 h
            refine wp_skip ?_
            refine blk_n ?_
            refine then_n ?_
            refine wp_reg ?_
            refine sq_val (v_move hF rfl) hF (by decide) (fun a hF => ?_)
            refine sq_val (v_add hF rfl rfl) hF (by decide) (fun a hF => ?_)
            refine sq_val (v_assign hF rfl) hF (by decide) (fun a hF => ?_)
            refine sq_nil ?_
            exact then_j ⟨m6, Nat.lt_succ_self _, (IntKind.i64.wrap (x3 + 1)), (hF.keep ⟨rfl, rfl, rfl, trivial⟩), hS, h⟩
        ·
          replace h := ifF he7 h
          refine wp_exit ?_
          refine then_x ?_
          refine then_x ?_
          refine blk_hit ?_
          obtain rfl := Option.some.inj h
          exact then_j ⟨rfl, (hF.keep trivial), (hS.keep (List.Sublist.refl _) (List.Sublist.refl _) trivial)⟩
end Go.Proofs.Ytangebngeeamoaa
