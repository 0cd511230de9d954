/- What calls of the Go functions come to. -/
import Derived.Test.YtangebngeeamoaaW1
set_option linter.unusedVariables false
set_option linter.unusedSimpArgs false
set_option maxRecDepth 100000
set_option maxHeartbeats 4000000
namespace Go.Proofs.Ytangebngeeamoaa
open Go.RowKit Go.Pod
theorem ok_space_Lean_2 (k : Nat) {M : Nat → Prop} {w0 : World} {u0 : TCube} {y0 : TCube} {b0_ : Nat} {o : Bool} (hS : St M w0 [] [] [fBox b0_ (TCube.enc y0) 26] w0) (h : space_Lean_2 k u0 y0 = some o) :
    Calls Try.prog 97 #[.agg (TCube.enc u0).toArray, .pointer (some (⟨b0_, 0, none⟩))] w0 fun e W' => ∃ v, e = .returned v ∧ (v = .bool (o) ∧ St M w0 [] [] [] W') := by
  unfold space_Lean_2 at h
  refine calls_start (args := [.agg (TCube.enc u0).toArray, .pointer (some (⟨b0_, 0, none⟩))]) Try.func97 rfl rfl (Nat.le_of_ble_eq_true rfl) (fun a hF => ?_)
  refine wp_seq ?_
  refine wp_reg ?_
  refine sq_box hF hS rfl rfl (by decide) (fun b1 a W hF hS => ?_)
  refine sq_val (v_assign hF rfl) hF (by decide) (fun a hF => ?_)
  refine sq_nil ?_
  refine then_n ?_
  refine wp_seq ?_
  refine wp_reg ?_
  refine sq_val (v_load (cs := TCube.enc u0) hF rfl pa26 ps26 (hS.bc (i := 0) rfl)) hF (by decide) (fun a hF => ?_)
  refine sq_val (v_load (cs := TCube.enc y0) hF rfl pa26 ps26 (hS.fbc (i := 0) rfl)) hF (by decide) (fun a hF => ?_)
  obtain ⟨x2, hx3, h⟩ := bindS h
  refine sq_call hF pc98 rfl (by decide) (ok_space_wider k (hS.enter trivial) hx3) (fun v W hR a hF => ?_)
  obtain ⟨rfl, hT4⟩ := hR
  have hS := hS.grow hT4.below
  refine sq_val (v_move hF rfl) hF (by decide) (fun a hF => ?_)
  refine sq_cut 4 (fun a W => FH 12 [(11, .bool (x2 && (!(cellsEq (TCube.enc u0) (TCube.enc y0)))))] a ∧ St M w0 [⟨b1, TCube.enc u0, 26⟩] [] [fBox b0_ (TCube.enc y0) 26] W) (fun a W hJ => ?_) ?_
  ·
    obtain ⟨hF, hS⟩ := hJ
    refine sq_val (v_assign hF rfl) hF (by decide) (fun a hF => ?_)
    refine sq_nil ?_
    refine then_n ?_
    refine wp_ret ?_
    obtain rfl := Option.some.inj h
    exact ret1 hF rfl (rv_tmp hF rfl) ⟨_, rfl, rfl, (hS.keep (List.nil_sublist _) (List.Sublist.refl _) trivial)⟩
  ·
    by_cases he5 : x2 = true
    ·
      refine sq_yes hF rfl rfl he5 ?_
      refine sq_val (v_load (cs := TCube.enc u0) hF rfl pa26 ps26 (hS.bc (i := 0) rfl)) hF (by decide) (fun a hF => ?_)
      refine sq_yes hF rfl rfl he5 ?_
      refine sq_val (v_load (cs := TCube.enc y0) hF rfl pa26 ps26 (hS.fbc (i := 0) rfl)) hF (by decide) (fun a hF => ?_)
      refine sq_yes hF rfl rfl he5 ?_
      refine sq_val (eq26 hF rfl rfl).2 hF (by decide) (fun a hF => ?_)
      refine sq_val (v_pick_t hF rfl he5 rfl) hF (by decide) (fun a hF => ?_)
      exact sq_nil (then_j ⟨(hF.keep ⟨(boolV (and_t he5)), trivial⟩), hS⟩)
    ·
      have he5 : x2 = false := nB he5
      refine sq_no hF rfl rfl he5 (by rintro x ⟨⟩; decide) (fun a hF => ?_)
      refine sq_no hF rfl rfl he5 (by rintro x ⟨⟩; decide) (fun a hF => ?_)
      refine sq_no hF rfl rfl he5 (by rintro x ⟨⟩; decide) (fun a hF => ?_)
      refine sq_val (v_pick_f hF rfl he5 rfl) hF (by decide) (fun a hF => ?_)
      exact sq_nil (then_j ⟨(hF.keep ⟨(boolV (and_f he5)), trivial⟩), hS⟩)

theorem ok_space_Lean (k : Nat) {M : Nat → Prop} {w0 : World} {u0 : List TCube} {A0_0 : Option Addr} {c0_0 : Nat} {o : (List TCube)} (hS : St M w0 [] [] [fSl k_TCube A0_0 c0_0 u0] w0) (h : space_Lean k u0 = some o) :
    Calls Try.prog 37 #[.slice A0_0 ((u0).length) c0_0] w0 fun e W' => ∃ v, e = .returned v ∧ (∃ (A89 : Option Addr) (c90 : Nat), v = .slice A89 ((o).length) c90 ∧ St M w0 [] [⟨k_TCube, 26, A89, c90, o⟩] [] W') := by
  unfold space_Lean at h
  refine calls_start (args := [.slice A0_0 ((u0).length) c0_0]) Try.func37 rfl rfl (Nat.le_of_ble_eq_true rfl) (fun a hF => ?_)
  refine wp_seq ?_
  refine wp_reg ?_
  refine sq_val (v_assign hF rfl) hF (by decide) (fun a hF => ?_)
  refine sq_nil ?_
  refine then_n ?_
  refine wp_seq ?_
  refine wp_reg ?_
  refine sq_val (v_move hF rfl) hF (by decide) (fun a hF => ?_)
  obtain ⟨x1, hx2, h⟩ := bindS h
  refine sq_call hF pc92 rfl (by decide) (ok_slices_Clone_Cube (hS.enter ⟨⟨0, rfl⟩, trivial⟩) hx2) (fun v W hR a hF => ?_)
  obtain ⟨A3, c4, rfl, hT5⟩ := hR
  have hS := hS.join hT5
  have hS := hS.addFact (f := fFn1 Try.prog 93 ([]) k_TCube true (fun (a0 : TCube) => space_Lean_1 k a0) (fun y => .bool y)) ⟨pc93, fun M' W' hs hv cs a0 y hR hp => by obtain rfl := hR; exact fromSt (ok_space_Lean_1 k (St.ofAll hv trivial) hp)⟩
  have hS := hS.addFact (f := fFn1 Try.prog 93 ([]) k_TCube true (fun (a0 : TCube) => space_Lean_1 k a0) (fun y => .bool y)) (hS.fc (i := 0) rfl)
  obtain ⟨x6, hx7, h⟩ := bindS h
  refine sq_call hF pc91 rfl (by decide) (ok_slices_DeleteFunc_Cube k hS hx7) (fun v W hR a hF => ?_)
  obtain ⟨A8, c9, rfl, hS⟩ := hR
  refine sq_val (v_assign hF rfl) hF (by decide) (fun a hF => ?_)
  refine sq_nil ?_
  refine then_n ?_
  refine wp_seq ?_
  refine wp_reg ?_
  refine sq_val (v_move hF rfl) hF (by decide) (fun a hF => ?_)
  have hS := hS.addFact (f := fFn2 Try.prog 95 ([]) k_TCube true k_TCube true (fun (a0 : TCube) (a1 : TCube) => cube_Compare k a0 a1) (fun y => .int .i64 y)) ⟨pc95, fun M' W' hs hv cs a0 cs2 a1 y hR hR2 hp => by obtain rfl := hR; obtain rfl := hR2; exact fromSt (ok_cube_Compare k (St.ofAll hv trivial) hp)⟩
  have hS := hS.addFact (f := fFn2 Try.prog 95 ([]) k_TCube true k_TCube true (fun (a0 : TCube) (a1 : TCube) => cube_Compare k a0 a1) (fun y => .int .i64 y)) (hS.fc (i := 0) rfl)
  obtain ⟨x10, hx11, h⟩ := bindS h
  refine sq_call hF pc94 rfl (by decide) (ok_slices_SortFunc_Cube hS hx11) (fun v W hR a hF => ?_)
  obtain ⟨rfl, hS⟩ := hR
  have hF : FH 43 [(0, .slice A0_0 ((u0).length) c0_0), (2, .slice none 0 0), (3, .slice A8 ((x10).length) c9), (8, .slice A0_0 ((u0).length) c0_0), (10, .slice A8 ((x10).length) c9), (11, .slice A8 ((x10).length) c9), (12, .tuple #[])] a := (hF.keep ⟨rfl, rfl, (by simp only [len_slices_SortFunc_Cube hx11] <;> rfl), rfl, (by simp only [len_slices_SortFunc_Cube hx11] <;> rfl), (by simp only [len_slices_SortFunc_Cube hx11] <;> rfl), rfl, trivial⟩)
  refine sq_nil ?_
  refine then_n ?_
  refine wp_seq ?_
  refine wp_reg ?_
  refine sq_val (v_move hF rfl) hF (by decide) (fun a hF => ?_)
  obtain ⟨x12, hx13, h⟩ := bindS h
  refine sq_call hF pc96 rfl (by decide) (ok_slices_Compact_Cube k hS hx13) (fun v W hR a hF => ?_)
  obtain ⟨A14, c15, rfl, hS⟩ := hR
  refine sq_val (v_assign hF rfl) hF (by decide) (fun a hF => ?_)
  refine sq_nil ?_
  refine then_n ?_
  refine wp_seq ?_
  refine wp_reg ?_
  refine sq_val (v_assign hF rfl) hF (by decide) (fun a hF => ?_)
  refine sq_nil ?_
  refine then_n ?_
  refine wp_seq ?_
  refine wp_seq ?_
  refine wp_reg ?_
  refine sq_val (v_move hF rfl) hF (by decide) (fun a hF => ?_)
  refine sq_val (v_len hF rfl pu29) hF (by decide) (fun a hF => ?_)
  refine sq_val (v_move hF rfl) hF (by decide) (fun a hF => ?_)
  refine sq_nil ?_
  refine then_n ?_
  obtain ⟨o43, h, hk44⟩ := bindS h
  refine wp_join (fun a W => ∃ (x40 : List TCube) (A41 : Option Addr) (c42 : Nat), x40 = o43 ∧ FH 43 [(4, .slice A41 ((x40).length) c42)] a ∧ St M w0 [] [⟨k_TCube, 26, A41, c42, x40⟩] [] W) (fun a W hJ => ?_) ?_
  ·
    obtain ⟨x40, A41, c42, rfl, hF, hS⟩ := hJ
    have h := hk44
    refine then_n ?_
    refine wp_seq ?_
    refine wp_reg ?_
    refine sq_val (v_move hF rfl) hF (by decide) (fun a hF => ?_)
    refine sq_val (v_assign hF rfl) hF (by decide) (fun a hF => ?_)
    refine sq_nil ?_
    refine then_n ?_
    refine wp_ret ?_
    obtain rfl := Option.some.inj h
    exact ret1 hF rfl (rv_tmp hF rfl) ⟨_, rfl, A41, c42, rfl, hS⟩
  ·
    have hS := hS.freeze (i := 0) rfl (posB rfl)
    have hS := hS.addNil k_TCube 26
    refine wp_block ?_
    refine wp_loop_fuel (I := fun m a W => ∃ (x30 : List TCube) (x33 : List TCube) (x36 : List TCube) (x39 : Int) (A31 : Option Addr) (c32 : Nat) (A34 : Option Addr) (c35 : Nat) (A37 : Option Addr) (c38 : Nat), FH 43 [(3, .slice A31 ((x30).length) c32), (4, .slice A34 ((x33).length) c35), (15, .slice A37 ((x36).length) c38), (16, .int .i64 ((x12.length : Int))), (17, .int .i64 (x39))] a ∧ St M w0 [] [⟨k_TCube, 26, A34, c35, x33⟩] [fSl k_TCube A31 c32 x30, fSl k_TCube A37 c38 x36] W ∧ (space_Lean.l0 k x12 m x30 x33 x36 x39) = some o43) ?_ (k := k) ⟨x12, ([]), x12, 0, A14, c15, none, 0, A14, c15, (hF.keep ⟨rfl, rfl, rfl, rfl, rfl, trivial⟩), (hS.keep (List.Sublist.refl _) (List.Sublist.refl _) ⟨⟨0, rfl⟩, ⟨0, rfl⟩, trivial⟩), h⟩
    rintro m45 a W ⟨x30, x33, x36, x39, A31, c32, A34, c35, A37, c38, hF, hS, h⟩
    cases m45 with
    | zero => cases h
    | succ m45 =>
      rw [space_Lean.l0] at h
      refine wp_seq ?_
      refine wp_reg ?_
      refine sq_val (v_lss hF rfl rfl) hF (by decide) (fun a hF => ?_)
      refine sq_nil ?_
      refine then_n ?_
      refine wp_seq ?_
      refine wp_if hF rfl (fun he46 => ?_) (fun he46 => ?_)
      ·
        replace h := ifT he46 h
        refine wp_skip ?_
        refine then_n ?_
        refine wp_seq ?_
        obtain ⟨o50, h, hk51⟩ := bindS h
        refine wp_join (fun a W => ∃ (x47 : List TCube) (A48 : Option Addr) (c49 : Nat), x47 = o50 ∧ FH 43 [(3, .slice A31 ((x30).length) c32), (4, .slice A48 ((x47).length) c49), (15, .slice A37 ((x36).length) c38), (16, .int .i64 ((x12.length : Int))), (17, .int .i64 (x39))] a ∧ St M w0 [] [⟨k_TCube, 26, A48, c49, x47⟩] [fSl k_TCube A31 c32 x30, fSl k_TCube A37 c38 x36] W) (fun a W hJ => ?_) ?_
        ·
          obtain ⟨x47, A48, c49, rfl, hF, hS⟩ := hJ
          have h := hk51
          refine then_n ?_
          refine wp_reg ?_
          refine sq_val (v_add hF rfl rfl) hF (by decide) (fun a hF => ?_)
          refine sq_val (v_move hF rfl) hF (by decide) (fun a hF => ?_)
          refine sq_nil ?_
          exact then_j ⟨m45, Nat.lt_succ_self _, x30, x47, x36, (IntKind.i64.wrap (x39 + 1)), A31, c32, A48, c49, A37, c38, (hF.keep ⟨rfl, rfl, rfl, rfl, rfl, trivial⟩), hS, h⟩
        ·
          refine wp_block ?_
          refine wp_seq ?_
          refine wp_reg ?_
          refine sq_val (v_move hF rfl) hF (by decide) (fun a hF => ?_)
          obtain ⟨x52, hx53, h⟩ := bindS h
          obtain ⟨p54, cs55, hA56, hat57⟩ := SlR.at (hS.fc (i := 1) rfl) hx53
          obtain rfl : cs55 = TCube.enc x52 := hat57.2.2.2
          have hS := hS.addFact (f := fAt k_TCube (p54.add (x39.toNat * 24)) (TCube.enc x52) x52) hat57
          refine sq_val (v_idx hF rfl hA56 rfl psl29 hx53) hF (by decide) (fun a hF => ?_)
          refine sq_val (v_load (cs := TCube.enc x52) hF rfl pa26 ps26 (hS.pc (i := 0) rfl)) hF (by decide) (fun a hF => ?_)
          refine sq_alloc hF hS pz26 rfl (by decide) (fun b58 a W hF hS => ?_)
          refine sq_val (v_assign hF rfl) hF (by decide) (fun a hF => ?_)
          refine sq_store (o := 0) (vs := TCube.enc x52) (cs' := TCube.enc x52) hF hS rfl rfl (i := 0) rfl rfl rfl ps26 (TCube.enc_one _) (Nat.le_of_ble_eq_true rfl) rfl (fun W hS => ?_)
          refine sq_nil ?_
          refine then_n ?_
          refine wp_seq ?_
          refine wp_reg ?_
          have hS := hS.freezeBox (i := 0) rfl
          have hS := hS.addFact (f := fFn1 Try.prog 97 ([.pointer (some (⟨b58, 0, none⟩))]) k_TCube true (fun (a0 : TCube) => space_Lean_2 k a0 x52) (fun y => .bool y)) ⟨pc97, fun M' W' hs hv cs a0 y hR hp => by obtain rfl := hR; exact fromSt (ok_space_Lean_2 k (St.ofAll hv ⟨((fBox b58 (TCube.enc x52) 26).st (hS.fc (i := 0) rfl) hs), trivial⟩) hp)⟩
          refine sq_val (v_makeFunc (xs := [.tmp 6]) (vs := [.pointer (some (⟨b58, 0, none⟩))]) hF rfl) hF (by decide) (fun a hF => ?_)
          refine sq_val (v_assign hF rfl) hF (by decide) (fun a hF => ?_)
          refine sq_nil ?_
          refine then_n ?_
          refine wp_seq ?_
          refine wp_reg ?_
          refine sq_val (v_move hF rfl) hF (by decide) (fun a hF => ?_)
          refine sq_val (v_move hF rfl) hF (by decide) (fun a hF => ?_)
          obtain ⟨hb59, h⟩ := ifS h
          refine sq_val (v_slice (κ := k_TCube) (lo := 0) (hi := x39.toNat) hF rfl rfl rfl psl29 (.inl ⟨rfl, rfl⟩) (.inr ⟨_, _, rfl, by omega, rfl⟩) (by omega) (by omega) (hS.fc (i := 3) rfl).1) hF (by decide) (fun a hF => ?_)
          have hcut62 := SlR.cut (hS.fc (i := 3) rfl) (lo := 0) (hi := x39.toNat) (by omega) (by omega)
          generalize (if c32 = 0 then A31 else Option.map (fun (q : Addr) => q.add (0 * (k_TCube).sz)) A31) = A60 at hF hcut62
          generalize c32 - 0 = c61 at hF hcut62
          have hS := hS.addFact (f := fSl k_TCube A60 c61 ((x30.take x39.toNat).drop 0)) hcut62
          refine sq_val (v_move hF rfl) hF (by decide) (fun a hF => ?_)
          obtain ⟨x63, hx64, h⟩ := bindS h
          refine sq_call hF pc99 rfl (by decide) (ok_slices_ContainsFunc_Cube k (hS.enter ⟨⟨0, rfl⟩, ⟨1, rfl⟩, trivial⟩) hx64) (fun v W hR a hF => ?_)
          obtain ⟨rfl, hT65⟩ := hR
          have hS := hS.grow hT65.below
          refine sq_val (v_not hF rfl) hF (by decide) (fun a hF => ?_)
          refine sq_val (v_move hF rfl) hF (by decide) (fun a hF => ?_)
          obtain ⟨x67, h, hk69⟩ := bindS h
          refine sq_cut 7 (fun a W => FH 43 [(3, .slice A31 ((x30).length) c32), (4, .slice A34 ((x33).length) c35), (6, .pointer (some (⟨b58, 0, none⟩))), (15, .slice A37 ((x36).length) c38), (16, .int .i64 ((x12.length : Int))), (17, .int .i64 (x39)), (36, .bool x67)] a ∧ St M w0 [] [⟨k_TCube, 26, A34, c35, x33⟩] [fSl k_TCube A60 c61 ((x30.take x39.toNat).drop 0), fFn1 Try.prog 97 ([.pointer (some (⟨b58, 0, none⟩))]) k_TCube true (fun (a0 : TCube) => space_Lean_2 k a0 x52) (fun y => .bool y), fBox b58 (TCube.enc x52) 26, fAt k_TCube (p54.add (x39.toNat * 24)) (TCube.enc x52) x52, fSl k_TCube A31 c32 x30, fSl k_TCube A37 c38 x36] W) (fun a W hJ => ?_) ?_
          ·
            have h := hk69
            obtain ⟨hF, hS⟩ := hJ
            refine sq_nil ?_
            refine then_n ?_
            obtain ⟨o80, h, hk81⟩ := bindS h
            refine wp_join (fun a W => ∃ (x77 : List TCube) (A78 : Option Addr) (c79 : Nat), x77 = o80 ∧ FH 43 [(3, .slice A31 ((x30).length) c32), (4, .slice A78 ((x77).length) c79), (15, .slice A37 ((x36).length) c38), (16, .int .i64 ((x12.length : Int))), (17, .int .i64 (x39))] a ∧ St M w0 [] [⟨k_TCube, 26, A78, c79, x77⟩] [fSl k_TCube A31 c32 x30, fSl k_TCube A37 c38 x36] W) (fun a W hJ => ?_) ?_
            ·
              obtain ⟨x77, A78, c79, rfl, hF, hS⟩ := hJ
              have h := hk81
              refine blk_n ?_
              obtain rfl := Option.some.inj h
              exact then_j ⟨x77, A78, c79, rfl, (hF.keep ⟨rfl, rfl, rfl, rfl, rfl, trivial⟩), hS⟩
            ·
              refine wp_if hF rfl (fun he82 => ?_) (fun he82 => ?_)
              ·
                replace h := ifT he82 h
                refine wp_reg ?_
                refine sq_val (v_move hF rfl) hF (by decide) (fun a hF => ?_)
                refine sq_val (v_load (cs := TCube.enc x52) hF rfl pa26 ps26 (hS.fbc (i := 2) rfl)) hF (by decide) (fun a hF => ?_)
                refine sq_buildSlice (κ := k_TCube) (xs := [.tmp 38]) (ys := [x52]) hF hS rfl rfl rfl (Els.cons rfl (Els.nil _ _ _)) rfl psl29 pz26 rfl (by decide) (by decide) (by decide) (fun A83 c84 a W hF hS => ?_)
                obtain ⟨x87, hx88, h⟩ := bindS h
                refine sq_append (ys := ([x52])) hF hS (i := 1) rfl rfl rfl (hS.rw_ (i := 0) rfl).src psl29 pb26 pz26 rfl (by decide) (by decide) hx88 (by decide) (fun A85 c86 a W hF hS => ?_)
                refine sq_val (v_assign hF rfl) hF (by decide) (fun a hF => ?_)
                refine sq_nil ?_
                obtain rfl := Option.some.inj h
                exact then_j ⟨x87, A85, c86, rfl, (hF.keep ⟨rfl, rfl, rfl, rfl, rfl, trivial⟩), (hS.keep (List.Sublist.refl _) (.cons _ (List.Sublist.refl _)) ⟨⟨4, rfl⟩, ⟨5, rfl⟩, trivial⟩)⟩
              ·
                replace h := ifF he82 h
                refine wp_skip ?_
                obtain rfl := Option.some.inj h
                exact then_j ⟨x33, A34, c35, rfl, (hF.keep ⟨rfl, rfl, rfl, rfl, rfl, trivial⟩), (hS.keep (List.Sublist.refl _) (List.Sublist.refl _) ⟨⟨4, rfl⟩, ⟨5, rfl⟩, trivial⟩)⟩
          ·
            by_cases he66 : (!x63) = true
            ·
              replace h := ifT he66 h
              refine sq_yes hF rfl rfl he66 ?_
              refine sq_val (v_move hF rfl) hF (by decide) (fun a hF => ?_)
              refine sq_yes hF rfl rfl he66 ?_
              refine sq_val (v_move hF rfl) hF (by decide) (fun a hF => ?_)
              refine sq_yes hF rfl rfl he66 ?_
              obtain ⟨hb70, h⟩ := ifS h
              refine sq_val (v_slice (κ := k_TCube) (lo := x39.toNat) (hi := x30.length) hF rfl rfl rfl psl29 (.inr ⟨_, _, rfl, by omega, rfl⟩) (.inl ⟨rfl, rfl⟩) (by omega) (by omega) (hS.fc (i := 4) rfl).1) hF (by decide) (fun a hF => ?_)
              have hcut73 := SlR.cut (hS.fc (i := 4) rfl) (lo := x39.toNat) (hi := x30.length) (by omega) (by omega)
              generalize (if c32 = x39.toNat then A31 else Option.map (fun (q : Addr) => q.add (x39.toNat * (k_TCube).sz)) A31) = A71 at hF hcut73
              generalize c32 - x39.toNat = c72 at hF hcut73
              have hS := hS.addFact (f := fSl k_TCube A71 c72 ((x30.take x30.length).drop x39.toNat)) hcut73
              refine sq_yes hF rfl rfl he66 ?_
              refine sq_val (v_move hF rfl) hF (by decide) (fun a hF => ?_)
              refine sq_yes hF rfl rfl he66 ?_
              obtain ⟨x74, hx75, h⟩ := bindS h
              refine sq_call hF pc99 rfl (by decide) (ok_slices_ContainsFunc_Cube k (hS.enter ⟨⟨0, rfl⟩, ⟨2, rfl⟩, trivial⟩) hx75) (fun v W hR a hF => ?_)
              obtain ⟨rfl, hT76⟩ := hR
              have hS := hS.grow hT76.below
              refine sq_yes hF rfl rfl he66 ?_
              refine sq_val (v_not hF rfl) hF (by decide) (fun a hF => ?_)
              refine sq_val (v_pick_t hF rfl he66 rfl) hF (by decide) (fun a hF => ?_)
              obtain rfl := Option.some.inj h
              exact sq_nil (then_j ⟨(hF.keep ⟨rfl, rfl, rfl, rfl, rfl, rfl, rfl, trivial⟩), (hS.keep (List.Sublist.refl _) (List.Sublist.refl _) ⟨⟨1, rfl⟩, ⟨2, rfl⟩, ⟨3, rfl⟩, ⟨4, rfl⟩, ⟨5, rfl⟩, ⟨6, rfl⟩, trivial⟩)⟩)
            ·
              have he66 : (!x63) = false := nB he66
              replace h := ifF he66 h
              refine sq_no hF rfl rfl he66 (by rintro x ⟨⟩; decide) (fun a hF => ?_)
              refine sq_no hF rfl rfl he66 (by rintro x ⟨⟩; decide) (fun a hF => ?_)
              refine sq_no hF rfl rfl he66 (by rintro x ⟨⟩; decide) (fun a hF => ?_)
              refine sq_no hF rfl rfl he66 (by rintro x ⟨⟩; decide) (fun a hF => ?_)
              refine sq_no hF rfl rfl he66 (by rintro x ⟨⟩; decide) (fun a hF => ?_)
              refine sq_no hF rfl rfl he66 (by rintro x ⟨⟩; decide) (fun a hF => ?_)
              refine sq_val (v_pick_f hF rfl he66 rfl) hF (by decide) (fun a hF => ?_)
              obtain rfl := Option.some.inj h
              exact sq_nil (then_j ⟨(hF.keep ⟨rfl, rfl, rfl, rfl, rfl, rfl, rfl, trivial⟩), hS⟩)
      ·
        replace h := ifF he46 h
        refine wp_exit ?_
        refine then_x ?_
        refine then_x ?_
        refine blk_hit ?_
        obtain rfl := Option.some.inj h
        exact then_j ⟨x33, A34, c35, rfl, (hF.keep ⟨rfl, trivial⟩), (hS.keep (List.Sublist.refl _) (List.Sublist.refl _) trivial)⟩

theorem ok_cube_both (k : Nat) {M : Nat → Prop} {w0 : World} {u0 : TCube} {u1 : TCube} {o : Bool} (hS : St M w0 [] [] [] w0) (h : cube_both k u0 u1 = some o) :
    Calls Try.prog 54 #[.agg (TCube.enc u0).toArray, .agg (TCube.enc u1).toArray] w0 fun e W' => ∃ v, e = .returned v ∧ (v = .bool (o) ∧ St M w0 [] [] [] W') := by
  unfold cube_both at h
  refine calls_start (args := [.agg (TCube.enc u0).toArray, .agg (TCube.enc u1).toArray]) Try.func54 rfl rfl (Nat.le_of_ble_eq_true rfl) (fun a hF => ?_)
  refine wp_seq ?_
  refine wp_reg ?_
  refine sq_box hF hS rfl rfl (by decide) (fun b1 a W hF hS => ?_)
  refine sq_box hF hS rfl rfl (by decide) (fun b2 a W hF hS => ?_)
  refine sq_val (v_assign hF rfl) hF (by decide) (fun a hF => ?_)
  refine sq_nil ?_
  refine then_n ?_
  refine wp_seq ?_
  refine wp_reg ?_
  refine sq_val (v_load (cs := TCube.enc u0) hF rfl pa26 ps26 (hS.bc (i := 1) rfl)) hF (by decide) (fun a hF => ?_)
  obtain ⟨x3, hx4, h⟩ := bindS h
  refine sq_call hF pc58 rfl (by decide) (ok_cube_Sound k (hS.enter trivial) hx4) (fun v W hR a hF => ?_)
  obtain ⟨rfl, hT5⟩ := hR
  have hS := hS.grow hT5.below
  refine sq_val (v_move hF rfl) hF (by decide) (fun a hF => ?_)
  obtain ⟨x7, h, hk9⟩ := bindS h
  refine sq_cut 3 (fun a W => FH 11 [(10, .bool x7)] a ∧ St M w0 [⟨b2, TCube.enc u1, 26⟩, ⟨b1, TCube.enc u0, 26⟩] [] [] W) (fun a W hJ => ?_) ?_
  ·
    have h := hk9
    obtain ⟨hF, hS⟩ := hJ
    refine sq_val (v_assign hF rfl) hF (by decide) (fun a hF => ?_)
    refine sq_nil ?_
    refine then_n ?_
    refine wp_ret ?_
    obtain rfl := Option.some.inj h
    exact ret1 hF rfl (rv_tmp hF rfl) ⟨_, rfl, rfl, (hS.keep (List.nil_sublist _) (List.Sublist.refl _) trivial)⟩
  ·
    by_cases he6 : x3 = true
    ·
      replace h := ifT he6 h
      refine sq_yes hF rfl rfl he6 ?_
      refine sq_val (v_load (cs := TCube.enc u1) hF rfl pa26 ps26 (hS.bc (i := 0) rfl)) hF (by decide) (fun a hF => ?_)
      refine sq_yes hF rfl rfl he6 ?_
      obtain ⟨x10, hx11, h⟩ := bindS h
      refine sq_call hF pc58 rfl (by decide) (ok_cube_Sound k (hS.enter trivial) hx11) (fun v W hR a hF => ?_)
      obtain ⟨rfl, hT12⟩ := hR
      have hS := hS.grow hT12.below
      refine sq_val (v_pick_t hF rfl he6 rfl) hF (by decide) (fun a hF => ?_)
      obtain rfl := Option.some.inj h
      exact sq_nil (then_j ⟨(hF.keep ⟨rfl, trivial⟩), hS⟩)
    ·
      have he6 : x3 = false := nB he6
      replace h := ifF he6 h
      refine sq_no hF rfl rfl he6 (by rintro x ⟨⟩; decide) (fun a hF => ?_)
      refine sq_no hF rfl rfl he6 (by rintro x ⟨⟩; decide) (fun a hF => ?_)
      refine sq_val (v_pick_f hF rfl he6 rfl) hF (by decide) (fun a hF => ?_)
      obtain rfl := Option.some.inj h
      exact sq_nil (then_j ⟨(hF.keep ⟨rfl, trivial⟩), hS⟩)

theorem ok_cube_Meet (k : Nat) {M : Nat → Prop} {w0 : World} {u0 : TCube} {u1 : TCube} {o : TCube × Bool} (hS : St M w0 [] [] [] w0) (h : cube_Meet k u0 u1 = some o) :
    Calls Try.prog 12 #[.agg (TCube.enc u0).toArray, .agg (TCube.enc u1).toArray] w0 fun e W' => ∃ v, e = .returned v ∧ (v = .tuple #[.agg (TCube.enc o.1).toArray, .bool (o.2)] ∧ St M w0 [] [] [] W') := by
  unfold cube_Meet at h
  refine calls_start (args := [.agg (TCube.enc u0).toArray, .agg (TCube.enc u1).toArray]) Try.func12 rfl rfl (Nat.le_of_ble_eq_true rfl) (fun a hF => ?_)
  refine wp_seq ?_
  refine wp_reg ?_
  refine sq_box hF hS rfl rfl (by decide) (fun b1 a W hF hS => ?_)
  refine sq_box hF hS rfl rfl (by decide) (fun b2 a W hF hS => ?_)
  refine sq_alloc hF hS pz26 rfl (by decide) (fun b3 a W hF hS => ?_)
  refine sq_val (v_assign hF rfl) hF (by decide) (fun a hF => ?_)
  refine sq_nil ?_
  refine then_n ?_
  refine wp_seq ?_
  refine wp_seq ?_
  refine wp_reg ?_
  refine sq_val (v_load (cs := TCube.enc u0) hF rfl pa26 ps26 (hS.bc (i := 2) rfl)) hF (by decide) (fun a hF => ?_)
  refine sq_val (v_load (cs := TCube.enc u1) hF rfl pa26 ps26 (hS.bc (i := 1) rfl)) hF (by decide) (fun a hF => ?_)
  obtain ⟨x4, hx5, h⟩ := bindS h
  refine sq_call hF pc54 rfl (by decide) (ok_cube_both k (hS.enter trivial) hx5) (fun v W hR a hF => ?_)
  obtain ⟨rfl, hT6⟩ := hR
  have hS := hS.grow hT6.below
  refine sq_val (v_not hF rfl) hF (by decide) (fun a hF => ?_)
  refine sq_nil ?_
  refine then_n ?_
  refine wp_if hF rfl (fun he7 => ?_) (fun he7 => ?_)
  ·
    replace h := ifT he7 h
    refine wp_seq ?_
    refine wp_reg ?_
    refine sq_val (v_build (parts := []) (out := TCube.enc TCube.zero) hF rfl rfl pz26 rfl pp26 rfl) hF (by decide) (fun a hF => ?_)
    refine sq_store (o := 0) (vs := TCube.enc TCube.zero) (cs' := TCube.enc TCube.zero) hF hS rfl rfl (i := 0) rfl rfl rfl ps26 (TCube.enc_one _) (Nat.le_of_ble_eq_true rfl) rfl (fun W hS => ?_)
    refine sq_val (v_assign hF rfl) hF (by decide) (fun a hF => ?_)
    refine sq_nil ?_
    refine then_n ?_
    refine wp_ret ?_
    refine then_r ?_
    obtain rfl := Option.some.inj h
    exact ret2 hF rfl (rv_cell (cs := TCube.enc TCube.zero) hF rfl pa26 ps26 (hS.bc (i := 0) rfl)) (rv_tmp hF rfl) ⟨_, rfl, rfl, (hS.keep (List.nil_sublist _) (List.Sublist.refl _) trivial)⟩
  ·
    replace h := ifF he7 h
    refine wp_skip ?_
    refine then_n ?_
    refine wp_seq ?_
    refine wp_seq ?_
    refine wp_reg ?_
    refine sq_val (v_move hF rfl) hF (by decide) (fun a hF => ?_)
    refine sq_nil ?_
    refine then_n ?_
    obtain ⟨o14, h, hk15⟩ := bindS h
    refine wp_join (fun a W => ∃ (x13 : TCube), Lo.brk x13 = o14 ∧ FH 60 [(2, .pointer (some (⟨b1, 0, none⟩))), (4, .pointer (some (⟨b3, 0, none⟩)))] a ∧ St M w0 [⟨b3, TCube.enc TCube.zero, 26⟩, ⟨b1, TCube.enc x13, 26⟩] [] [] W) (fun a W hJ => ?_) ?_
    ·
      obtain ⟨x13, rfl, hF, hS⟩ := hJ
      have h := hk15
      dsimp only at h
      refine then_n ?_
      refine wp_seq ?_
      refine wp_reg ?_
      refine sq_val (v_load (cs := TCube.enc x13) hF rfl pa26 ps26 (hS.bc (i := 1) rfl)) hF (by decide) (fun a hF => ?_)
      refine sq_store (o := 0) (vs := TCube.enc x13) (cs' := TCube.enc x13) hF hS rfl rfl (i := 0) rfl rfl rfl ps26 (TCube.enc_one _) (Nat.le_of_ble_eq_true rfl) rfl (fun W hS => ?_)
      refine sq_val (v_assign hF rfl) hF (by decide) (fun a hF => ?_)
      refine sq_nil ?_
      refine then_n ?_
      refine wp_ret ?_
      obtain rfl := Option.some.inj h
      exact ret2 hF rfl (rv_cell (cs := TCube.enc x13) hF rfl pa26 ps26 (hS.bc (i := 0) rfl)) (rv_tmp hF rfl) ⟨_, rfl, rfl, (hS.keep (List.nil_sublist _) (List.Sublist.refl _) trivial)⟩
    ·
      refine wp_block ?_
      refine wp_loop_fuel (I := fun m a W => ∃ (x11 : TCube) (x12 : Int), FH 60 [(2, .pointer (some (⟨b1, 0, none⟩))), (3, .pointer (some (⟨b2, 0, none⟩))), (4, .pointer (some (⟨b3, 0, none⟩))), (12, .int .i64 (x12))] a ∧ St M w0 [⟨b3, TCube.enc TCube.zero, 26⟩, ⟨b2, TCube.enc u1, 26⟩, ⟨b1, TCube.enc x11, 26⟩] [] [] W ∧ (cube_Meet.l0 k u1 m x11 x12) = some o14) ?_ (k := k) ⟨u0, 0, (hF.keep ⟨rfl, rfl, rfl, rfl, trivial⟩), hS, h⟩
      rintro m16 a W ⟨x11, x12, hF, hS, h⟩
      cases m16 with
      | zero => cases h
      | succ m16 =>
        rw [cube_Meet.l0] at h
        refine wp_seq ?_
        refine wp_reg ?_
        refine sq_val (v_lss hF rfl rfl) hF (by decide) (fun a hF => ?_)
        refine sq_nil ?_
        refine then_n ?_
        refine wp_seq ?_
        refine wp_if hF rfl (fun he17 => ?_) (fun he17 => ?_)
        ·
          replace h := ifT he17 h
          refine wp_skip ?_
          refine then_n ?_
          refine wp_seq ?_
          refine wp_block ?_
          refine wp_seq ?_
          refine wp_reg ?_
          refine sq_val (v_move hF rfl) hF (by decide) (fun a hF => ?_)
          refine sq_val (v_assign hF rfl) hF (by decide) (fun a hF => ?_)
          refine sq_nil ?_
          refine then_n ?_
          refine wp_seq ?_
          refine wp_seq ?_
          refine wp_quiet rfl (by kernel_rfl) hS ?_
          refine qt_val (fun W hC => (v_move hF rfl)) hF (by decide) (fun a hF => ?_)
          refine qt_val (fun W hC => (v_fieldAddr hF rfl pf26_0)) hF (by decide) (fun a hF => ?_)
          obtain ⟨hb18, h⟩ := ifS h
          refine qt_val (fun W hC => (v_indexAddr hF rfl rfl par24 hb18.1 hb18.2)) hF (by decide) (fun a hF => ?_)
          refine qt_val (fun W hC => (v_load1 hF rfl pa22 (cells_sub (vs := [.int .u64 ((x11.Value.at x12))]) (hC.2.bc (i := 2) rfl) (add_add _ _ _) (TCube.get_Value x11 x12 hb18.1 hb18.2)))) hF (by decide) (fun a hF => ?_)
          refine qt_val (fun W hC => (v_move hF rfl)) hF (by decide) (fun a hF => ?_)
          refine qt_val (fun W hC => (v_fieldAddr hF rfl pf26_0)) hF (by decide) (fun a hF => ?_)
          refine qt_val (fun W hC => (v_indexAddr hF rfl rfl par24 hb18.1 hb18.2)) hF (by decide) (fun a hF => ?_)
          refine qt_val (fun W hC => (v_load1 hF rfl pa22 (cells_sub (vs := [.int .u64 ((u1.Value.at x12))]) (hC.2.bc (i := 1) rfl) (add_add _ _ _) (TCube.get_Value u1 x12 hb18.1 hb18.2)))) hF (by decide) (fun a hF => ?_)
          refine qt_val (fun W hC => (v_xor hF rfl rfl)) hF (by decide) (fun a hF => ?_)
          refine qt_val (fun W hC => (v_move hF rfl)) hF (by decide) (fun a hF => ?_)
          refine qt_val (fun W hC => (v_fieldAddr hF rfl pf26_1)) hF (by decide) (fun a hF => ?_)
          refine qt_val (fun W hC => (v_indexAddr hF rfl rfl par24 hb18.1 hb18.2)) hF (by decide) (fun a hF => ?_)
          refine qt_val (fun W hC => (v_load1 hF rfl pa22 (cells_sub (vs := [.int .u64 ((x11.Care.at x12))]) (hC.2.bc (i := 2) rfl) (add_add _ _ _) (TCube.get_Care x11 x12 hb18.1 hb18.2)))) hF (by decide) (fun a hF => ?_)
          refine qt_val (fun W hC => (v_and hF rfl rfl)) hF (by decide) (fun a hF => ?_)
          refine qt_val (fun W hC => (v_move hF rfl)) hF (by decide) (fun a hF => ?_)
          refine qt_val (fun W hC => (v_fieldAddr hF rfl pf26_1)) hF (by decide) (fun a hF => ?_)
          refine qt_val (fun W hC => (v_indexAddr hF rfl rfl par24 hb18.1 hb18.2)) hF (by decide) (fun a hF => ?_)
          refine qt_val (fun W hC => (v_load1 hF rfl pa22 (cells_sub (vs := [.int .u64 ((u1.Care.at x12))]) (hC.2.bc (i := 1) rfl) (add_add _ _ _) (TCube.get_Care u1 x12 hb18.1 hb18.2)))) hF (by decide) (fun a hF => ?_)
          refine qt_val (fun W hC => (v_and hF rfl rfl)) hF (by decide) (fun a hF => ?_)
          refine qt_val (fun W hC => (v_neq hF rfl rfl)) hF (by decide) (fun a hF => ?_)
          refine qt_nil ?_
          intro W hC
          have hS := hC.2
          refine then_n ?_
          refine wp_if hF rfl (fun he19 => ?_) (fun he19 => ?_)
          ·
            replace h := ifT he19 h
            refine wp_seq ?_
            refine wp_reg ?_
            refine sq_val (v_build (parts := []) (out := TCube.enc TCube.zero) hF rfl rfl pz26 rfl pp26 rfl) hF (by decide) (fun a hF => ?_)
            refine sq_store (o := 0) (vs := TCube.enc TCube.zero) (cs' := TCube.enc TCube.zero) hF hS rfl rfl (i := 0) rfl rfl rfl ps26 (TCube.enc_one _) (Nat.le_of_ble_eq_true rfl) rfl (fun W hS => ?_)
            refine sq_val (v_assign hF rfl) hF (by decide) (fun a hF => ?_)
            refine sq_nil ?_
            refine then_n ?_
            refine wp_ret ?_
            refine then_r ?_
            refine blk_r ?_
            refine then_r ?_
            refine then_r ?_
            refine blk_r ?_
            refine then_r ?_
            refine then_r ?_
            obtain rfl := Option.some.inj h
            have h := hk15
            dsimp only at h
            obtain rfl := Option.some.inj h
            exact ret2 hF rfl (rv_cell (cs := TCube.enc TCube.zero) hF rfl pa26 ps26 (hS.bc (i := 0) rfl)) (rv_tmp hF rfl) ⟨_, rfl, rfl, (hS.keep (List.nil_sublist _) (List.Sublist.refl _) trivial)⟩
          ·
            replace h := ifF he19 h
            refine wp_skip ?_
            refine then_n ?_
            refine wp_seq ?_
            refine wp_drawn (QC M w0 [⟨b3, TCube.enc TCube.zero, 26⟩, ⟨b2, TCube.enc u1, 26⟩, ⟨b1, TCube.enc x11, 26⟩] [] []) (fun q => Nat.beq q 11) rfl hS (fun W hB0 hR0 => ?_)
            have hS := hR0
            have hQC : (QC M w0 [⟨b3, TCube.enc TCube.zero, 26⟩, ⟨b2, TCube.enc u1, 26⟩, ⟨b1, TCube.enc x11, 26⟩] [] []) W W := ⟨Bl.refl _ _, hS⟩
            refine e_val (listed' := #[true, false, false, false, false, false, false, false, false, false, false, false]) 0 rfl (by kernel_rfl) (by kernel_rfl) (fun _ _ _ h => h) (fun W => (v_move hF rfl)) hF (by decide) (fun a hF => ?_)
            refine e_val (listed' := #[true, true, false, false, false, false, false, false, false, false, false, false]) 1 rfl (by kernel_rfl) (by kernel_rfl) (fun _ _ _ h => h) (fun W => (v_fieldAddr hF rfl pf26_1)) hF (by decide) (fun a hF => ?_)
            refine e_val (listed' := #[true, true, true, false, false, false, false, false, false, false, false, false]) 2 rfl (by kernel_rfl) (by kernel_rfl) (fun _ _ _ h => h) (fun W => (v_indexAddr hF rfl rfl par24 hb18.1 hb18.2)) hF (by decide) (fun a hF => ?_)
            refine e_valS (listed' := #[true, true, true, true, false, false, false, false, false, false, false, false]) 3 rfl (by kernel_rfl) (by kernel_rfl) (fun _ _ _ h => h) (fun W hC => (v_load1 hF rfl pa22 (cells_sub (vs := [.int .u64 ((x11.Care.at x12))]) (hC.2.bc (i := 2) rfl) (add_add _ _ _) (TCube.get_Care x11 x12 hb18.1 hb18.2)))) hQC (by kernel_rfl) hF (by decide) (fun a hF => ?_)
            refine e_val (listed' := #[true, true, true, true, true, false, false, false, false, false, false, false]) 4 rfl (by kernel_rfl) (by kernel_rfl) (fun _ _ _ h => h) (fun W => (v_move hF rfl)) hF (by decide) (fun a hF => ?_)
            refine e_val (listed' := #[true, true, true, true, true, true, false, false, false, false, false, false]) 5 rfl (by kernel_rfl) (by kernel_rfl) (fun _ _ _ h => h) (fun W => (v_fieldAddr hF rfl pf26_1)) hF (by decide) (fun a hF => ?_)
            refine e_val (listed' := #[true, true, true, true, true, true, true, false, false, false, false, false]) 6 rfl (by kernel_rfl) (by kernel_rfl) (fun _ _ _ h => h) (fun W => (v_indexAddr hF rfl rfl par24 hb18.1 hb18.2)) hF (by decide) (fun a hF => ?_)
            refine e_valS (listed' := #[true, true, true, true, true, true, true, true, false, false, false, false]) 7 rfl (by kernel_rfl) (by kernel_rfl) (fun _ _ _ h => h) (fun W hC => (v_load1 hF rfl pa22 (cells_sub (vs := [.int .u64 ((u1.Care.at x12))]) (hC.2.bc (i := 1) rfl) (add_add _ _ _) (TCube.get_Care u1 x12 hb18.1 hb18.2)))) hQC (by kernel_rfl) hF (by decide) (fun a hF => ?_)
            refine e_val (listed' := #[true, true, true, true, true, true, true, true, true, false, false, false]) 8 rfl (by kernel_rfl) (by kernel_rfl) (fun _ _ _ h => h) (fun W => (v_or hF rfl rfl)) hF (by decide) (fun a hF => ?_)
            refine e_val (listed' := #[true, true, true, true, true, true, true, true, true, true, false, false]) 9 rfl (by kernel_rfl) (by kernel_rfl) (fun _ _ _ h => h) (fun W => (v_fieldAddr hF rfl pf26_1)) hF (by decide) (fun a hF => ?_)
            refine e_val (listed' := #[true, true, true, true, true, true, true, true, true, true, true, false]) 10 rfl (by kernel_rfl) (by kernel_rfl) (fun _ _ _ h => h) (fun W => (v_indexAddr hF rfl rfl par24 hb18.1 hb18.2)) hF (by decide) (fun a hF => ?_)
            refine e_one (listed' := #[true, true, true, true, true, true, true, true, true, true, true, true]) 11 rfl (by kernel_rfl) (by kernel_rfl) ?_
            refine sq_store (o := 12 + x12.toNat * 1) (vs := [.int .u64 ((bOr .u64 (x11.Care.at x12) (u1.Care.at x12)))]) (cs' := TCube.enc (TCube.setCare x11 (x11.Care.upd x12 (bOr .u64 (x11.Care.at x12) (u1.Care.at x12))))) hF hS rfl (by simp only [add_add, add_plain, Nat.zero_add]) (i := 2) rfl rfl rfl ps22 (one1 rfl) (by have h0 := hb18.1; have h1 := hb18.2; simp only [TCube.enc, List.length_cons, List.length_nil]; omega) (TCube.set_Care x11 x12 _ hb18.1 hb18.2) (fun W hS => ?_)
            refine sq_nil (then_j ⟨?_, ?_⟩)
            · exact fun _ hE => absurd hE (by decide)
            ·
              refine e_done (by kernel_rfl) ?_ _
              refine then_n ?_
              refine wp_drawn (QC M w0 [⟨b3, TCube.enc TCube.zero, 26⟩, ⟨b2, TCube.enc u1, 26⟩, ⟨b1, TCube.enc (TCube.setCare x11 (x11.Care.upd x12 (bOr .u64 (x11.Care.at x12) (u1.Care.at x12)))), 26⟩] [] []) (fun q => Nat.beq q 11) rfl hS (fun W hB0 hR0 => ?_)
              have hS := hR0
              have hQC : (QC M w0 [⟨b3, TCube.enc TCube.zero, 26⟩, ⟨b2, TCube.enc u1, 26⟩, ⟨b1, TCube.enc (TCube.setCare x11 (x11.Care.upd x12 (bOr .u64 (x11.Care.at x12) (u1.Care.at x12)))), 26⟩] [] []) W W := ⟨Bl.refl _ _, hS⟩
              refine e_val (listed' := #[true, false, false, false, false, false, false, false, false, false, false, false]) 0 rfl (by kernel_rfl) (by kernel_rfl) (fun _ _ _ h => h) (fun W => (v_move hF rfl)) hF (by decide) (fun a hF => ?_)
              refine e_val (listed' := #[true, true, false, false, false, false, false, false, false, false, false, false]) 1 rfl (by kernel_rfl) (by kernel_rfl) (fun _ _ _ h => h) (fun W => (v_fieldAddr hF rfl pf26_0)) hF (by decide) (fun a hF => ?_)
              refine e_val (listed' := #[true, true, true, false, false, false, false, false, false, false, false, false]) 2 rfl (by kernel_rfl) (by kernel_rfl) (fun _ _ _ h => h) (fun W => (v_indexAddr hF rfl rfl par24 hb18.1 hb18.2)) hF (by decide) (fun a hF => ?_)
              refine e_valS (listed' := #[true, true, true, true, false, false, false, false, false, false, false, false]) 3 rfl (by kernel_rfl) (by kernel_rfl) (fun _ _ _ h => h) (fun W hC => (v_load1 hF rfl pa22 (cells_sub (vs := [.int .u64 ((x11.Value.at x12))]) (hC.2.bc (i := 2) rfl) (add_add _ _ _) (TCube.get_Value (TCube.setCare x11 (x11.Care.upd x12 (bOr .u64 (x11.Care.at x12) (u1.Care.at x12)))) x12 hb18.1 hb18.2)))) hQC (by kernel_rfl) hF (by decide) (fun a hF => ?_)
              refine e_val (listed' := #[true, true, true, true, true, false, false, false, false, false, false, false]) 4 rfl (by kernel_rfl) (by kernel_rfl) (fun _ _ _ h => h) (fun W => (v_move hF rfl)) hF (by decide) (fun a hF => ?_)
              refine e_val (listed' := #[true, true, true, true, true, true, false, false, false, false, false, false]) 5 rfl (by kernel_rfl) (by kernel_rfl) (fun _ _ _ h => h) (fun W => (v_fieldAddr hF rfl pf26_0)) hF (by decide) (fun a hF => ?_)
              refine e_val (listed' := #[true, true, true, true, true, true, true, false, false, false, false, false]) 6 rfl (by kernel_rfl) (by kernel_rfl) (fun _ _ _ h => h) (fun W => (v_indexAddr hF rfl rfl par24 hb18.1 hb18.2)) hF (by decide) (fun a hF => ?_)
              refine e_valS (listed' := #[true, true, true, true, true, true, true, true, false, false, false, false]) 7 rfl (by kernel_rfl) (by kernel_rfl) (fun _ _ _ h => h) (fun W hC => (v_load1 hF rfl pa22 (cells_sub (vs := [.int .u64 ((u1.Value.at x12))]) (hC.2.bc (i := 1) rfl) (add_add _ _ _) (TCube.get_Value u1 x12 hb18.1 hb18.2)))) hQC (by kernel_rfl) hF (by decide) (fun a hF => ?_)
              refine e_val (listed' := #[true, true, true, true, true, true, true, true, true, false, false, false]) 8 rfl (by kernel_rfl) (by kernel_rfl) (fun _ _ _ h => h) (fun W => (v_or hF rfl rfl)) hF (by decide) (fun a hF => ?_)
              refine e_val (listed' := #[true, true, true, true, true, true, true, true, true, true, false, false]) 9 rfl (by kernel_rfl) (by kernel_rfl) (fun _ _ _ h => h) (fun W => (v_fieldAddr hF rfl pf26_0)) hF (by decide) (fun a hF => ?_)
              refine e_val (listed' := #[true, true, true, true, true, true, true, true, true, true, true, false]) 10 rfl (by kernel_rfl) (by kernel_rfl) (fun _ _ _ h => h) (fun W => (v_indexAddr hF rfl rfl par24 hb18.1 hb18.2)) hF (by decide) (fun a hF => ?_)
              refine e_one (listed' := #[true, true, true, true, true, true, true, true, true, true, true, true]) 11 rfl (by kernel_rfl) (by kernel_rfl) ?_
              refine sq_store (o := 0 + x12.toNat * 1) (vs := [.int .u64 ((bOr .u64 (x11.Value.at x12) (u1.Value.at x12)))]) (cs' := TCube.enc ({ Value := (x11.Value.upd x12 (bOr .u64 (x11.Value.at x12) (u1.Value.at x12))), Care := (x11.Care.upd x12 (bOr .u64 (x11.Care.at x12) (u1.Care.at x12))) } : TCube)) hF hS rfl (by simp only [add_add, add_plain, Nat.zero_add]) (i := 2) rfl rfl rfl ps22 (one1 rfl) (by have h0 := hb18.1; have h1 := hb18.2; simp only [TCube.enc, List.length_cons, List.length_nil]; omega) (TCube.set_Value (TCube.setCare x11 (x11.Care.upd x12 (bOr .u64 (x11.Care.at x12) (u1.Care.at x12)))) x12 _ hb18.1 hb18.2) (fun W hS => ?_)
              refine sq_nil (then_j ⟨?_, ?_⟩)
              · exact fun _ hE => absurd hE (by decide)
              ·
                refine e_done (by kernel_rfl) ?_ _
                refine blk_n ?_
                refine then_n ?_
                refine wp_reg ?_
                refine sq_val (v_add hF rfl rfl) hF (by decide) (fun a hF => ?_)
                refine sq_val (v_move hF rfl) hF (by decide) (fun a hF => ?_)
                refine sq_nil ?_
                exact then_j ⟨m16, Nat.lt_succ_self _, ({ Value := (x11.Value.upd x12 (bOr .u64 (x11.Value.at x12) (u1.Value.at x12))), Care := (x11.Care.upd x12 (bOr .u64 (x11.Care.at x12) (u1.Care.at x12))) } : TCube), (IntKind.i64.wrap (x12 + 1)), (hF.keep ⟨rfl, rfl, rfl, rfl, trivial⟩), hS, h⟩
        ·
          replace h := ifF he17 h
          refine wp_exit ?_
          refine then_x ?_
          refine then_x ?_
          refine blk_hit ?_
          obtain rfl := Option.some.inj h
          exact then_j ⟨x11, rfl, (hF.keep ⟨rfl, rfl, trivial⟩), (hS.keep (.cons_cons _ (.cons _ (List.Sublist.refl _))) (List.Sublist.refl _) trivial)⟩
end Go.Proofs.Ytangebngeeamoaa
