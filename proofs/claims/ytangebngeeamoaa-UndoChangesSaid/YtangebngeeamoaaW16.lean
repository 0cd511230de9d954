/- What calls of the Go functions come to. -/
import Derived.Test.YtangebngeeamoaaW15
set_option linter.unusedVariables false
set_option linter.unusedSimpArgs false
set_option maxRecDepth 100000
set_option maxHeartbeats 4000000
namespace Go.Proofs.Ytangebngeeamoaa
open Go.RowKit Go.Pod
theorem ok_law08_UndoChanges (k : Nat) {M : Nat → Prop} {w0 : World} {u0 : List TRule} {A0_0 : Option Addr} {c0_0 : Nat} {u1 : List TMod} {A1_0 : Option Addr} {c1_0 : Nat} {u2 : Int} {o : Bool} (hS : St M w0 [] [] [fSl k_TRule A0_0 c0_0 u0, fSl k_TMod A1_0 c1_0 u1] w0) (h : law08_UndoChanges k u0 u1 u2 = some o) :
    Calls Try.prog 5 #[.slice A0_0 ((u0).length) c0_0, .slice A1_0 ((u1).length) c1_0, .int .i64 (u2)] w0 fun e W' => ∃ v, e = .returned v ∧ (v = .bool (o) ∧ St M w0 [] [] [] W') := by
  unfold law08_UndoChanges at h
  refine calls_start (args := [.slice A0_0 ((u0).length) c0_0, .slice A1_0 ((u1).length) c1_0, .int .i64 (u2)]) Try.func5 rfl rfl (Nat.le_of_ble_eq_true rfl) (fun a hF => ?_)
  refine wp_seq ?_
  refine wp_reg ?_
  refine sq_val (v_assign hF rfl) hF (by decide) (fun a hF => ?_)
  refine sq_nil ?_
  refine then_n ?_
  refine wp_seq ?_
  refine wp_seq ?_
  refine wp_reg ?_
  refine sq_val (v_move hF rfl) hF (by decide) (fun a hF => ?_)
  refine sq_val (v_len hF rfl pu37) hF (by decide) (fun a hF => ?_)
  refine sq_val (v_gtr hF rfl rfl) hF (by decide) (fun a hF => ?_)
  refine sq_val (v_move hF rfl) hF (by decide) (fun a hF => ?_)
  refine sq_cut 4 (fun a W => FH 118 [(0, .slice A0_0 ((u0).length) c0_0), (1, .slice A1_0 ((u1).length) c1_0), (2, .int .i64 (u2)), (25, .bool ((decide (40 < (u0.length : Int))) || (decide (12 < (u1.length : Int)))))] a ∧ St M w0 [] [] [fSl k_TRule A0_0 c0_0 u0, fSl k_TMod A1_0 c1_0 u1] W) (fun a W hJ => ?_) ?_
  ·
   obtain ⟨hF, hS⟩ := hJ
   refine sq_nil ?_
   refine then_n ?_
   refine wp_if hF rfl (fun he2 => ?_) (fun he2 => ?_)
   ·
    replace h := ifT he2 h
    refine wp_seq ?_
    refine wp_reg ?_
    obtain ⟨x3, hx4, h⟩ := bindS h
    refine sq_call hF pc30 rfl (by decide) (ok_law08_answers k (hS.enter trivial) hx4) (fun v W hR a hF => ?_)
    obtain ⟨rfl, hT5⟩ := hR
    have hS := hS.grow hT5.below
    refine sq_val (v_assign hF rfl) hF (by decide) (fun a hF => ?_)
    refine sq_nil ?_
    refine then_n ?_
    refine wp_ret ?_
    refine then_r ?_
    obtain rfl := Option.some.inj h
    exact ret1 hF rfl (rv_tmp hF rfl) ⟨_, rfl, rfl, (hS.keep (List.Sublist.refl _) (List.Sublist.refl _) trivial)⟩
   ·
    replace h := ifF he2 h
    refine wp_skip ?_
    refine then_n ?_
    refine wp_seq ?_
    refine wp_reg ?_
    refine sq_val (v_assign hF rfl) hF (by decide) (fun a hF => ?_)
    refine sq_nil ?_
    refine then_n ?_
    refine wp_seq ?_
    refine wp_reg ?_
    refine sq_val (v_move hF rfl) hF (by decide) (fun a hF => ?_)
    refine sq_val (v_assign hF rfl) hF (by decide) (fun a hF => ?_)
    refine sq_nil ?_
    refine then_n ?_
    refine wp_seq ?_
    refine wp_seq ?_
    refine wp_reg ?_
    refine sq_val (v_assign hF rfl) hF (by decide) (fun a hF => ?_)
    refine sq_nil ?_
    refine then_n ?_
    obtain ⟨o26, h, hk27⟩ := bindS h
    refine wp_join (fun a W => ∃ (x20 : List Tundo_Patch) (x23 : List TRule) (A21 : Option Addr) (c22 : Nat) (A24 : Option Addr) (c25 : Nat), Lo.brk (x20, x23) = o26 ∧ FH 118 [(0, .slice A0_0 ((u0).length) c0_0), (7, .slice A21 ((x20).length) c22), (8, .slice A24 ((x23).length) c25)] a ∧ St M w0 [] [⟨k_Tundo_Patch, 51, A21, c22, x20⟩] [fSl k_TRule A24 c25 x23, fSl k_TRule A0_0 c0_0 u0] W) (fun a W hJ => ?_) ?_
    ·
     obtain ⟨x20, x23, A21, c22, A24, c25, rfl, hF, hS⟩ := hJ
     have h := hk27
     dsimp only at h
     refine then_n ?_
     refine wp_seq ?_
     refine wp_seq ?_
     refine wp_reg ?_
     refine sq_val (v_move hF rfl) hF (by decide) (fun a hF => ?_)
     refine sq_val (v_len hF rfl pu49) hF (by decide) (fun a hF => ?_)
     refine sq_val (v_sub hF rfl rfl) hF (by decide) (fun a hF => ?_)
     refine sq_val (v_assign hF rfl) hF (by decide) (fun a hF => ?_)
     refine sq_nil ?_
     refine then_n ?_
     obtain ⟨o39, h, hk40⟩ := bindS h
     refine wp_join (fun a W => ∃ (x36 : List TRule) (A37 : Option Addr) (c38 : Nat), Lo.brk x36 = o39 ∧ FH 118 [(0, .slice A0_0 ((u0).length) c0_0), (8, .slice A37 ((x36).length) c38)] a ∧ St M w0 [] [] [fSl k_TRule A37 c38 x36, fSl k_TRule A0_0 c0_0 u0] W) (fun a W hJ => ?_) ?_
     ·
      obtain ⟨x36, A37, c38, rfl, hF, hS⟩ := hJ
      have h := hk40
      dsimp only at h
      refine then_n ?_
      refine wp_seq ?_
      refine wp_reg ?_
      obtain ⟨x41, hx42, h⟩ := bindS h
      refine sq_call hF pc30 rfl (by decide) (ok_law08_answers k (hS.enter trivial) hx42) (fun v W hR a hF => ?_)
      obtain ⟨rfl, hT43⟩ := hR
      have hS := hS.grow hT43.below
      refine sq_val (v_move hF rfl) hF (by decide) (fun a hF => ?_)
      obtain ⟨x45, h, hk47⟩ := bindS h
      refine sq_cut 4 (fun a W => FH 118 [(117, .bool x45)] a ∧ St M w0 [] [] [fSl k_TRule A37 c38 x36, fSl k_TRule A0_0 c0_0 u0] W) (fun a W hJ => ?_) ?_
      ·
       have h := hk47
       obtain ⟨hF, hS⟩ := hJ
       refine sq_val (v_assign hF rfl) hF (by decide) (fun a hF => ?_)
       refine sq_nil ?_
       refine then_n ?_
       refine wp_ret ?_
       obtain rfl := Option.some.inj h
       exact ret1 hF rfl (rv_tmp hF rfl) ⟨_, rfl, rfl, (hS.keep (List.Sublist.refl _) (List.Sublist.refl _) trivial)⟩
      ·
       by_cases he44 : x41 = true
       ·
        replace h := ifT he44 h
        refine sq_yes hF rfl rfl he44 ?_
        refine sq_val (v_move hF rfl) hF (by decide) (fun a hF => ?_)
        refine sq_yes hF rfl rfl he44 ?_
        refine sq_val (v_move hF rfl) hF (by decide) (fun a hF => ?_)
        refine sq_yes hF rfl rfl he44 ?_
        obtain ⟨x48, hx49, h⟩ := bindS h
        refine sq_call hF pc26 rfl (by decide) (ok_ref04_Same k (hS.enter ⟨⟨0, rfl⟩, ⟨1, rfl⟩, trivial⟩) hx49) (fun v W hR a hF => ?_)
        obtain ⟨rfl, hT50⟩ := hR
        have hS := hS.grow hT50.below
        refine sq_val (v_pick_t hF rfl he44 rfl) hF (by decide) (fun a hF => ?_)
        obtain rfl := Option.some.inj h
        exact sq_nil (then_j ⟨(hF.keep ⟨rfl, trivial⟩), hS⟩)
       ·
        have he44 : x41 = false := nB he44
        replace h := ifF he44 h
        refine sq_no hF rfl rfl he44 (by rintro x ⟨⟩; decide) (fun a hF => ?_)
        refine sq_no hF rfl rfl he44 (by rintro x ⟨⟩; decide) (fun a hF => ?_)
        refine sq_no hF rfl rfl he44 (by rintro x ⟨⟩; decide) (fun a hF => ?_)
        refine sq_val (v_pick_f hF rfl he44 rfl) hF (by decide) (fun a hF => ?_)
        obtain rfl := Option.some.inj h
        exact sq_nil (then_j ⟨(hF.keep ⟨rfl, trivial⟩), hS⟩)
     ·
      refine wp_block ?_
      refine wp_loop_fuel (I := fun m a W => ∃ (x32 : List TRule) (x35 : Int) (A33 : Option Addr) (c34 : Nat), FH 118 [(0, .slice A0_0 ((u0).length) c0_0), (7, .slice A21 ((x20).length) c22), (8, .slice A33 ((x32).length) c34), (15, .int .i64 (x35))] a ∧ St M w0 [] [⟨k_Tundo_Patch, 51, A21, c22, x20⟩] [fSl k_TRule A33 c34 x32, fSl k_TRule A0_0 c0_0 u0] W ∧ (law08_UndoChanges.l1 k x20 m x32 x35) = some o39) ?_ (k := k) ⟨x23, (IntKind.i64.wrap ((x20.length : Int) - 1)), A24, c25, (hF.keep ⟨rfl, rfl, rfl, rfl, trivial⟩), hS, h⟩
      rintro m51 a W ⟨x32, x35, A33, c34, hF, hS, h⟩
      cases m51 with
      | zero => cases h
      | succ m51 =>
       rw [law08_UndoChanges.l1] at h
       refine wp_seq ?_
       refine wp_seq ?_
       refine wp_reg ?_
       refine sq_val (v_move hF rfl) hF (by decide) (fun a hF => ?_)
       refine sq_val (v_geq hF rfl rfl) hF (by decide) (fun a hF => ?_)
       refine sq_nil ?_
       refine then_n ?_
       refine wp_if hF rfl (fun he52 => ?_) (fun he52 => ?_)
       ·
        replace h := ifT he52 h
        refine wp_skip ?_
        refine then_n ?_
        refine wp_seq ?_
        refine wp_block ?_
        refine wp_seq ?_
        refine wp_reg ?_
        refine sq_val (v_move hF rfl) hF (by decide) (fun a hF => ?_)
        refine sq_val (v_move hF rfl) hF (by decide) (fun a hF => ?_)
        refine sq_val (v_move hF rfl) hF (by decide) (fun a hF => ?_)
        obtain ⟨x53, hx54, h⟩ := bindS h
        obtain ⟨p55, cs56, hA57, hc59, hr60⟩ := Row.ok.at (hS.rw_ (i := 0) rfl) hx54
        obtain ⟨A61, c62, A64, c65, rfl, hs63, hs66⟩ := hr60
        have hS := hS.addFact (f := fSl k_TRule A61 c62 x53.Gone) hs63
        have hS := hS.addFact (f := fSl k_TRule A64 c65 x53.New) hs66
        refine sq_val (v_idx hF rfl hA57 rfl psl49 hx54) hF (by decide) (fun a hF => ?_)
        refine sq_val (v_load (cs := Tundo_Patch.enc x53 A61 c62 A64 c65) hF rfl pa51 ps51 hc59) hF (by decide) (fun a hF => ?_)
        obtain ⟨x67, hx68, h⟩ := bindS h
        refine sq_call hF pc32 rfl (by decide) (ok_undo_Back k (hS.enter ⟨⟨2, rfl⟩, ⟨1, rfl⟩, ⟨0, rfl⟩, trivial⟩) hx68) (fun v W hR a hF => ?_)
        obtain ⟨A69, c70, rfl, hT71⟩ := hR
        have hS := hS.join hT71
        refine sq_val (v_move hF rfl) hF (by decide) (fun a hF => ?_)
        refine sq_val (v_extract hF rfl rfl) hF (by decide) (fun a hF => ?_)
        refine sq_val (v_extract hF rfl rfl) hF (by decide) (fun a hF => ?_)
        refine sq_val (v_assign hF rfl) hF (by decide) (fun a hF => ?_)
        refine sq_val (v_assign hF rfl) hF (by decide) (fun a hF => ?_)
        refine sq_nil ?_
        refine then_n ?_
        refine wp_seq ?_
        refine wp_seq ?_
        refine wp_reg ?_
        refine sq_val (v_move hF rfl) hF (by decide) (fun a hF => ?_)
        refine sq_val (v_neq hF rfl rfl) hF (by decide) (fun a hF => ?_)
        refine sq_nil ?_
        refine then_n ?_
        refine wp_if hF rfl (fun he72 => ?_) (fun he72 => ?_)
        ·
         replace h := ifT he72 h
         refine wp_seq ?_
         refine wp_reg ?_
         refine sq_val (v_assign hF rfl) hF (by decide) (fun a hF => ?_)
         refine sq_nil ?_
         refine then_n ?_
         refine wp_ret ?_
         refine then_r ?_
         refine blk_r ?_
         refine then_r ?_
         refine then_r ?_
         refine blk_r ?_
         refine then_r ?_
         refine then_r ?_
         obtain rfl := Option.some.inj h
         have h := hk40
         dsimp only at h
         obtain rfl := Option.some.inj h
         exact ret1 hF rfl (rv_tmp hF rfl) ⟨_, rfl, rfl, (hS.keep (List.Sublist.refl _) (List.nil_sublist _) trivial)⟩
        ·
         replace h := ifF he72 h
         refine wp_skip ?_
         refine then_n ?_
         refine wp_reg ?_
         refine sq_val (v_move hF rfl) hF (by decide) (fun a hF => ?_)
         refine sq_val (v_assign hF rfl) hF (by decide) (fun a hF => ?_)
         refine sq_nil ?_
         refine blk_n ?_
         refine then_n ?_
         refine wp_reg ?_
         refine sq_val (v_move hF rfl) hF (by decide) (fun a hF => ?_)
         refine sq_val (v_sub hF rfl rfl) hF (by decide) (fun a hF => ?_)
         refine sq_val (v_assign hF rfl) hF (by decide) (fun a hF => ?_)
         refine sq_nil ?_
         have hS := hS.freeze (i := 0) rfl (posB rfl)
         exact then_j ⟨m51, Nat.lt_succ_self _, x67.1, (IntKind.i64.wrap (x35 - 1)), A69, c70, (hF.keep ⟨rfl, rfl, rfl, rfl, trivial⟩), (hS.keep (List.Sublist.refl _) (List.Sublist.refl _) ⟨⟨0, rfl⟩, ⟨4, rfl⟩, trivial⟩), h⟩
       ·
        replace h := ifF he52 h
        refine wp_exit ?_
        refine then_x ?_
        refine then_x ?_
        refine blk_hit ?_
        obtain rfl := Option.some.inj h
        exact then_j ⟨x32, A33, c34, rfl, (hF.keep ⟨rfl, rfl, trivial⟩), (hS.keep (List.Sublist.refl _) (List.nil_sublist _) ⟨⟨0, rfl⟩, ⟨1, rfl⟩, trivial⟩)⟩
    ·
     have hS := hS.addNil k_Tundo_Patch 51
     refine wp_block ?_
     refine wp_loop_fuel (I := fun m a W => ∃ (x13 : List Tundo_Patch) (x16 : List TRule) (x19 : Int) (A14 : Option Addr) (c15 : Nat) (A17 : Option Addr) (c18 : Nat), FH 118 [(0, .slice A0_0 ((u0).length) c0_0), (1, .slice A1_0 ((u1).length) c1_0), (2, .int .i64 (u2)), (7, .slice A14 ((x13).length) c15), (8, .slice A17 ((x16).length) c18), (9, .int .i64 (x19))] a ∧ St M w0 [] [⟨k_Tundo_Patch, 51, A14, c15, x13⟩] [fSl k_TRule A17 c18 x16, fSl k_TRule A0_0 c0_0 u0, fSl k_TMod A1_0 c1_0 u1] W ∧ (law08_UndoChanges.l0 k u1 u2 m x13 x16 x19) = some o26) ?_ (k := k) ⟨([]), u0, 0, none, 0, A0_0, c0_0, (hF.keep ⟨rfl, rfl, rfl, rfl, rfl, rfl, trivial⟩), (hS.keep (List.Sublist.refl _) (List.Sublist.refl _) ⟨⟨0, rfl⟩, ⟨0, rfl⟩, ⟨1, rfl⟩, trivial⟩), h⟩
     rintro m73 a W ⟨x13, x16, x19, A14, c15, A17, c18, hF, hS, h⟩
     cases m73 with
     | zero => cases h
     | succ m73 =>
      rw [law08_UndoChanges.l0] at h
      refine wp_seq ?_
      refine wp_seq ?_
      refine wp_reg ?_
      refine sq_val (v_move hF rfl) hF (by decide) (fun a hF => ?_)
      refine sq_val (v_move hF rfl) hF (by decide) (fun a hF => ?_)
      refine sq_val (v_len hF rfl pu48) hF (by decide) (fun a hF => ?_)
      refine sq_val (v_lss hF rfl rfl) hF (by decide) (fun a hF => ?_)
      refine sq_nil ?_
      refine then_n ?_
      refine wp_if hF rfl (fun he74 => ?_) (fun he74 => ?_)
      ·
       replace h := ifT he74 h
       refine wp_skip ?_
       refine then_n ?_
       refine wp_seq ?_
       obtain ⟨o81, h, hk82⟩ := bindS h
       refine wp_join (fun a W => ∃ (x75 : List Tundo_Patch) (x78 : List TRule) (A76 : Option Addr) (c77 : Nat) (A79 : Option Addr) (c80 : Nat), Lo.brk (x75, x78) = o81 ∧ FH 118 [(0, .slice A0_0 ((u0).length) c0_0), (1, .slice A1_0 ((u1).length) c1_0), (2, .int .i64 (u2)), (7, .slice A76 ((x75).length) c77), (8, .slice A79 ((x78).length) c80), (9, .int .i64 (x19))] a ∧ St M w0 [] [⟨k_Tundo_Patch, 51, A76, c77, x75⟩] [fSl k_TRule A79 c80 x78, fSl k_TRule A0_0 c0_0 u0, fSl k_TMod A1_0 c1_0 u1] W) (fun a W hJ => ?_) ?_
       ·
        obtain ⟨x75, x78, A76, c77, A79, c80, rfl, hF, hS⟩ := hJ
        have h := hk82
        dsimp only at h
        refine then_n ?_
        refine wp_reg ?_
        refine sq_val (v_move hF rfl) hF (by decide) (fun a hF => ?_)
        refine sq_val (v_add hF rfl rfl) hF (by decide) (fun a hF => ?_)
        refine sq_val (v_assign hF rfl) hF (by decide) (fun a hF => ?_)
        refine sq_nil ?_
        exact then_j ⟨m73, Nat.lt_succ_self _, x75, x78, (IntKind.i64.wrap (x19 + 1)), A76, c77, A79, c80, (hF.keep ⟨rfl, rfl, rfl, rfl, rfl, rfl, trivial⟩), hS, h⟩
       ·
        refine wp_block ?_
        refine wp_seq ?_
        refine wp_seq ?_
        refine wp_reg ?_
        refine sq_val (v_move hF rfl) hF (by decide) (fun a hF => ?_)
        refine sq_val (v_move hF rfl) hF (by decide) (fun a hF => ?_)
        obtain ⟨x83, hx84, h⟩ := bindS h
        obtain ⟨p85, cs86, hA87, hat88⟩ := SlR.at (hS.fc (i := 2) rfl) hx84
        obtain ⟨A89, c90, rfl, hs91⟩ := hat88.2.2.2
        have hS := hS.addFact (f := fAt k_TMod (p85.add (x19.toNat * 31)) (TMod.enc x83 A89 c90) x83) hat88
        have hS := hS.addFact (f := fSl k_TAct A89 c90 x83.Acts) hs91
        refine sq_val (v_idx hF rfl hA87 rfl psl48 hx84) hF (by decide) (fun a hF => ?_)
        refine sq_val (v_fieldAddr hF rfl pf40_3) hF (by decide) (fun a hF => ?_)
        refine sq_val (v_load1 hF rfl pa38 (cells_sub (vs := [.slice A89 ((x83.Acts).length) c90]) (hS.pc (i := 1) rfl) rfl rfl)) hF (by decide) (fun a hF => ?_)
        refine sq_val (v_len hF rfl pu38) hF (by decide) (fun a hF => ?_)
        refine sq_val (v_gtr hF rfl rfl) hF (by decide) (fun a hF => ?_)
        refine sq_nil ?_
        refine then_n ?_
        refine wp_if hF rfl (fun he92 => ?_) (fun he92 => ?_)
        ·
         replace h := ifT he92 h
         refine wp_seq ?_
         refine wp_reg ?_
         obtain ⟨x93, hx94, h⟩ := bindS h
         refine sq_call hF pc30 rfl (by decide) (ok_law08_answers k (hS.enter trivial) hx94) (fun v W hR a hF => ?_)
         obtain ⟨rfl, hT95⟩ := hR
         have hS := hS.grow hT95.below
         refine sq_val (v_assign hF rfl) hF (by decide) (fun a hF => ?_)
         refine sq_nil ?_
         refine then_n ?_
         refine wp_ret ?_
         refine then_r ?_
         refine blk_r ?_
         refine then_r ?_
         refine then_r ?_
         refine then_r ?_
         refine blk_r ?_
         refine then_r ?_
         refine then_r ?_
         obtain rfl := Option.some.inj h
         have h := hk82
         dsimp only at h
         obtain rfl := Option.some.inj h
         have h := hk27
         dsimp only at h
         obtain rfl := Option.some.inj h
         exact ret1 hF rfl (rv_tmp hF rfl) ⟨_, rfl, rfl, (hS.keep (List.Sublist.refl _) (List.nil_sublist _) trivial)⟩
        ·
         replace h := ifF he92 h
         refine wp_skip ?_
         refine then_n ?_
         refine wp_seq ?_
         refine wp_reg ?_
         refine sq_val (v_move hF rfl) hF (by decide) (fun a hF => ?_)
         refine sq_val (v_move hF rfl) hF (by decide) (fun a hF => ?_)
         refine sq_val (v_move hF rfl) hF (by decide) (fun a hF => ?_)
         obtain ⟨p96, cs97, hA98, hat99⟩ := SlR.at (hS.fc (i := 4) rfl) hx84
         obtain ⟨A100, c101, rfl, hs102⟩ := hat99.2.2.2
         have hS := hS.addFact (f := fAt k_TMod (p96.add (x19.toNat * 31)) (TMod.enc x83 A100 c101) x83) hat99
         have hS := hS.addFact (f := fSl k_TAct A100 c101 x83.Acts) hs102
         refine sq_val (v_idx hF rfl hA98 rfl psl48 hx84) hF (by decide) (fun a hF => ?_)
         refine sq_val (v_load (cs := TMod.enc x83 A100 c101) hF rfl pa40 ps40 (hS.pc (i := 1) rfl)) hF (by decide) (fun a hF => ?_)
         refine sq_val (v_move hF rfl) hF (by decide) (fun a hF => ?_)
         obtain ⟨x103, hx104, h⟩ := bindS h
         refine sq_call hF pc31 rfl (by decide) (ok_undo_Inverse k (hS.enter ⟨⟨4, rfl⟩, ⟨0, rfl⟩, trivial⟩) hx104) (fun v W hR a hF => ?_)
         obtain ⟨A105, c106, A107, c108, A109, c110, rfl, hT111⟩ := hR
         have hS := hS.join hT111
         refine sq_val (v_move hF rfl) hF (by decide) (fun a hF => ?_)
         refine sq_val (v_extract hF rfl rfl) hF (by decide) (fun a hF => ?_)
         refine sq_val (v_extract hF rfl rfl) hF (by decide) (fun a hF => ?_)
         refine sq_val (v_extract hF rfl rfl) hF (by decide) (fun a hF => ?_)
         refine sq_alloc hF hS pz51 rfl (by decide) (fun b112 a W hF hS => ?_)
         refine sq_val (v_assign hF rfl) hF (by decide) (fun a hF => ?_)
         refine sq_store (o := 0) (vs := Tundo_Patch.enc x103.2.1 A107 c108 A109 c110) (cs' := Tundo_Patch.enc x103.2.1 A107 c108 A109 c110) hF hS rfl rfl (i := 0) rfl rfl rfl ps51 (Tundo_Patch.enc_one _ _ _ _ _) (Nat.le_of_ble_eq_true rfl) rfl (fun W hS => ?_)
         refine sq_val (v_assign hF rfl) hF (by decide) (fun a hF => ?_)
         refine sq_nil ?_
         refine then_n ?_
         refine wp_seq ?_
         refine wp_reg ?_
         refine sq_val (v_move hF rfl) hF (by decide) (fun a hF => ?_)
         refine sq_val (v_move hF rfl) hF (by decide) (fun a hF => ?_)
         refine sq_val (v_move hF rfl) hF (by decide) (fun a hF => ?_)
         obtain ⟨p113, cs114, hA115, hat116⟩ := SlR.at (hS.fc (i := 9) rfl) hx84
         obtain ⟨A117, c118, rfl, hs119⟩ := hat116.2.2.2
         have hS := hS.addFact (f := fAt k_TMod (p113.add (x19.toNat * 31)) (TMod.enc x83 A117 c118) x83) hat116
         have hS := hS.addFact (f := fSl k_TAct A117 c118 x83.Acts) hs119
         refine sq_val (v_idx hF rfl hA115 rfl psl48 hx84) hF (by decide) (fun a hF => ?_)
         refine sq_val (v_load (cs := TMod.enc x83 A117 c118) hF rfl pa40 ps40 (hS.pc (i := 1) rfl)) hF (by decide) (fun a hF => ?_)
         refine sq_val (v_move hF rfl) hF (by decide) (fun a hF => ?_)
         obtain ⟨x120, hx121, h⟩ := bindS h
         refine sq_call hF pc25 rfl (by decide) (ok_ref04_Apply k (hS.enter ⟨⟨9, rfl⟩, ⟨0, rfl⟩, trivial⟩) hx121) (fun v W hR a hF => ?_)
         obtain ⟨A122, c123, rfl, hT124⟩ := hR
         have hS := hS.join hT124
         refine sq_val (v_move hF rfl) hF (by decide) (fun a hF => ?_)
         refine sq_val (v_extract hF rfl rfl) hF (by decide) (fun a hF => ?_)
         refine sq_val (v_extract hF rfl rfl) hF (by decide) (fun a hF => ?_)
         refine sq_val (v_assign hF rfl) hF (by decide) (fun a hF => ?_)
         refine sq_val (v_assign hF rfl) hF (by decide) (fun a hF => ?_)
         refine sq_nil ?_
         refine then_n ?_
         refine wp_seq ?_
         refine wp_seq ?_
         refine wp_reg ?_
         refine sq_val (v_move hF rfl) hF (by decide) (fun a hF => ?_)
         refine sq_val (v_move hF rfl) hF (by decide) (fun a hF => ?_)
         refine sq_val (v_neq hF rfl rfl) hF (by decide) (fun a hF => ?_)
         refine sq_val (v_move hF rfl) hF (by decide) (fun a hF => ?_)
         obtain ⟨x126, h, hk128⟩ := bindS h
         refine sq_cut 5 (fun a W => FH 118 [(0, .slice A0_0 ((u0).length) c0_0), (1, .slice A1_0 ((u1).length) c1_0), (2, .int .i64 (u2)), (7, .slice A14 ((x13).length) c15), (8, .slice A17 ((x16).length) c18), (9, .int .i64 (x19)), (10, .slice A105 ((x103.1).length) c106), (11, .pointer (some (⟨b112, 0, none⟩))), (12, .int .i64 (x103.2.2)), (71, .bool x126)] a ∧ St M w0 [⟨b112, Tundo_Patch.enc x103.2.1 A107 c108 A109 c110, 51⟩] [⟨k_TRule, 65, A122, c123, x120.1⟩, ⟨k_Tundo_Patch, 51, A14, c15, x13⟩] [fSl k_TAct A117 c118 x83.Acts, fAt k_TMod (p113.add (x19.toNat * 31)) (TMod.enc x83 A117 c118) x83, fSl k_TRule A105 c106 x103.1, fSl k_TRule A107 c108 x103.2.1.Gone, fSl k_TRule A109 c110 x103.2.1.New, fSl k_TAct A100 c101 x83.Acts, fAt k_TMod (p96.add (x19.toNat * 31)) (TMod.enc x83 A100 c101) x83, fSl k_TAct A89 c90 x83.Acts, fAt k_TMod (p85.add (x19.toNat * 31)) (TMod.enc x83 A89 c90) x83, fSl k_TRule A17 c18 x16, fSl k_TRule A0_0 c0_0 u0, fSl k_TMod A1_0 c1_0 u1] W) (fun a W hJ => ?_) ?_
         ·
          have h := hk128
          obtain ⟨hF, hS⟩ := hJ
          refine sq_val (v_move hF rfl) hF (by decide) (fun a hF => ?_)
          refine sq_cut 13 (fun a W => FH 118 [(0, .slice A0_0 ((u0).length) c0_0), (1, .slice A1_0 ((u1).length) c1_0), (2, .int .i64 (u2)), (7, .slice A14 ((x13).length) c15), (8, .slice A17 ((x16).length) c18), (9, .int .i64 (x19)), (10, .slice A105 ((x103.1).length) c106), (11, .pointer (some (⟨b112, 0, none⟩))), (12, .int .i64 (x103.2.2)), (85, .bool (x126 || ((x103.2.2 != 0) && (decide (0 < (IntKind.i64.wrap ((x103.2.1.Gone.length : Int) + (x103.2.1.New.length : Int))))))))] a ∧ St M w0 [⟨b112, Tundo_Patch.enc x103.2.1 A107 c108 A109 c110, 51⟩] [⟨k_TRule, 65, A122, c123, x120.1⟩, ⟨k_Tundo_Patch, 51, A14, c15, x13⟩] [fSl k_TAct A117 c118 x83.Acts, fAt k_TMod (p113.add (x19.toNat * 31)) (TMod.enc x83 A117 c118) x83, fSl k_TRule A105 c106 x103.1, fSl k_TRule A107 c108 x103.2.1.Gone, fSl k_TRule A109 c110 x103.2.1.New, fSl k_TAct A100 c101 x83.Acts, fAt k_TMod (p96.add (x19.toNat * 31)) (TMod.enc x83 A100 c101) x83, fSl k_TAct A89 c90 x83.Acts, fAt k_TMod (p85.add (x19.toNat * 31)) (TMod.enc x83 A89 c90) x83, fSl k_TRule A17 c18 x16, fSl k_TRule A0_0 c0_0 u0, fSl k_TMod A1_0 c1_0 u1] W) (fun a W hJ => ?_) ?_
          ·
           obtain ⟨hF, hS⟩ := hJ
           refine sq_nil ?_
           refine then_n ?_
           refine wp_if hF rfl (fun he134 => ?_) (fun he134 => ?_)
           ·
            replace h := ifT he134 h
            refine wp_seq ?_
            refine wp_reg ?_
            refine sq_val (v_assign hF rfl) hF (by decide) (fun a hF => ?_)
            refine sq_nil ?_
            refine then_n ?_
            refine wp_ret ?_
            refine then_r ?_
            refine blk_r ?_
            refine then_r ?_
            refine then_r ?_
            refine then_r ?_
            refine blk_r ?_
            refine then_r ?_
            refine then_r ?_
            obtain rfl := Option.some.inj h
            have h := hk82
            dsimp only at h
            obtain rfl := Option.some.inj h
            have h := hk27
            dsimp only at h
            obtain rfl := Option.some.inj h
            exact ret1 hF rfl (rv_tmp hF rfl) ⟨_, rfl, rfl, (hS.keep (List.nil_sublist _) (List.nil_sublist _) trivial)⟩
           ·
            replace h := ifF he134 h
            refine wp_skip ?_
            refine then_n ?_
            refine wp_seq ?_
            refine wp_reg ?_
            refine sq_val (v_move hF rfl) hF (by decide) (fun a hF => ?_)
            refine sq_val (v_eql hF rfl rfl) hF (by decide) (fun a hF => ?_)
            refine sq_nil ?_
            refine then_n ?_
            obtain ⟨o141, h, hk142⟩ := bindS h
            refine wp_join (fun a W => ∃ (x135 : List Tundo_Patch) (x138 : List TRule) (A136 : Option Addr) (c137 : Nat) (A139 : Option Addr) (c140 : Nat), (x135, x138) = o141 ∧ FH 118 [(0, .slice A0_0 ((u0).length) c0_0), (1, .slice A1_0 ((u1).length) c1_0), (2, .int .i64 (u2)), (7, .slice A136 ((x135).length) c137), (8, .slice A139 ((x138).length) c140), (9, .int .i64 (x19))] a ∧ St M w0 [] [⟨k_Tundo_Patch, 51, A136, c137, x135⟩] [fSl k_TRule A139 c140 x138, fSl k_TRule A0_0 c0_0 u0, fSl k_TMod A1_0 c1_0 u1] W) (fun a W hJ => ?_) ?_
            ·
             obtain ⟨x135, x138, A136, c137, A139, c140, rfl, hF, hS⟩ := hJ
             have h := hk142
             dsimp only at h
             refine blk_n ?_
             obtain rfl := Option.some.inj h
             exact then_j ⟨x135, x138, A136, c137, A139, c140, rfl, (hF.keep ⟨rfl, rfl, rfl, rfl, rfl, rfl, trivial⟩), hS⟩
            ·
             refine wp_if hF rfl (fun he143 => ?_) (fun he143 => ?_)
             ·
              replace h := ifT he143 h
              refine wp_seq ?_
              refine wp_reg ?_
              refine sq_val (v_move hF rfl) hF (by decide) (fun a hF => ?_)
              refine sq_val (v_assign hF rfl) hF (by decide) (fun a hF => ?_)
              refine sq_nil ?_
              refine then_n ?_
              refine wp_reg ?_
              refine sq_val (v_move hF rfl) hF (by decide) (fun a hF => ?_)
              refine sq_val (v_load (cs := Tundo_Patch.enc x103.2.1 A107 c108 A109 c110) hF rfl pa51 ps51 (hS.bc (i := 0) rfl)) hF (by decide) (fun a hF => ?_)
              refine sq_buildSlice (κ := k_Tundo_Patch) (xs := [.tmp 90]) (ys := [x103.2.1]) hF hS rfl rfl rfl (Els.cons ⟨A107, c108, A109, c110, rfl, (hS.fc (i := 3) rfl), (hS.fc (i := 4) rfl)⟩ (Els.nil _ _ _)) rfl psl49 pz51 rfl (by decide) (by decide) (by decide) (fun A144 c145 a W hF hS => ?_)
              obtain ⟨x148, hx149, h⟩ := bindS h
              refine sq_append (ys := ([x103.2.1])) hF hS (i := 2) rfl rfl rfl (hS.rw_ (i := 0) rfl).src psl49 pb51 pz51 rfl (by decide) (by decide) hx149 (by decide) (fun A146 c147 a W hF hS => ?_)
              refine sq_val (v_assign hF rfl) hF (by decide) (fun a hF => ?_)
              refine sq_nil ?_
              obtain rfl := Option.some.inj h
              exact then_j ⟨x148, x103.1, A146, c147, A105, c106, rfl, (hF.keep ⟨rfl, rfl, rfl, rfl, rfl, rfl, trivial⟩), (hS.keep (List.nil_sublist _) (.cons _ (.cons _ (List.Sublist.refl _))) ⟨⟨2, rfl⟩, ⟨10, rfl⟩, ⟨11, rfl⟩, trivial⟩)⟩
             ·
              replace h := ifF he143 h
              refine wp_skip ?_
              obtain rfl := Option.some.inj h
              exact then_j ⟨x13, x16, A14, c15, A17, c18, rfl, (hF.keep ⟨rfl, rfl, rfl, rfl, rfl, rfl, trivial⟩), (hS.keep (List.nil_sublist _) (.cons _ (List.Sublist.refl _)) ⟨⟨9, rfl⟩, ⟨10, rfl⟩, ⟨11, rfl⟩, trivial⟩)⟩
          ·
           by_cases he132 : x126 = true
           ·
            refine sq_no hF rfl rfl he132 (by rintro x ⟨⟩; decide) (fun a hF => ?_)
            refine sq_no hF rfl rfl he132 (by rintro x ⟨⟩; decide) (fun a hF => ?_)
            refine sq_no hF rfl rfl he132 (by rintro x ⟨⟩; decide) (fun a hF => ?_)
            refine sq_no2 hF rfl rfl (by rintro x ⟨⟩; decide) (fun a hF => ?_)
            refine sq_no2 hF rfl rfl (by rintro x ⟨⟩; decide) (fun a hF => ?_)
            refine sq_no2 hF rfl rfl (by rintro x ⟨⟩; decide) (fun a hF => ?_)
            refine sq_no2 hF rfl rfl (by rintro x ⟨⟩; decide) (fun a hF => ?_)
            refine sq_no2 hF rfl rfl (by rintro x ⟨⟩; decide) (fun a hF => ?_)
            refine sq_no2 hF rfl rfl (by rintro x ⟨⟩; decide) (fun a hF => ?_)
            refine sq_no2 hF rfl rfl (by rintro x ⟨⟩; decide) (fun a hF => ?_)
            refine sq_no2 hF rfl rfl (by rintro x ⟨⟩; decide) (fun a hF => ?_)
            refine sq_no hF rfl rfl he132 (by rintro x ⟨⟩; decide) (fun a hF => ?_)
            refine sq_val (v_pick_t hF rfl he132 rfl) hF (by decide) (fun a hF => ?_)
            exact sq_nil (then_j ⟨(hF.keep ⟨rfl, rfl, rfl, rfl, rfl, rfl, rfl, rfl, rfl, (boolV (or_t he132)), trivial⟩), hS⟩)
           ·
            have he132 : x126 = false := nB he132
            refine sq_yes hF rfl rfl he132 ?_
            refine sq_val (v_move hF rfl) hF (by decide) (fun a hF => ?_)
            refine sq_yes hF rfl rfl he132 ?_
            refine sq_val (v_neq hF rfl rfl) hF (by decide) (fun a hF => ?_)
            refine sq_yes hF rfl rfl he132 ?_
            refine sq_val (v_move hF rfl) hF (by decide) (fun a hF => ?_)
            refine sq_cut 9 (fun a W => FH 118 [(0, .slice A0_0 ((u0).length) c0_0), (1, .slice A1_0 ((u1).length) c1_0), (2, .int .i64 (u2)), (7, .slice A14 ((x13).length) c15), (8, .slice A17 ((x16).length) c18), (9, .int .i64 (x19)), (10, .slice A105 ((x103.1).length) c106), (11, .pointer (some (⟨b112, 0, none⟩))), (12, .int .i64 (x103.2.2)), (72, .bool (x126)), (73, .int .i64 (x103.2.2)), (74, .bool ((x103.2.2 != 0))), (75, .bool ((x103.2.2 != 0))), (84, .bool ((x103.2.2 != 0) && (decide (0 < (IntKind.i64.wrap ((x103.2.1.Gone.length : Int) + (x103.2.1.New.length : Int)))))))] a ∧ St M w0 [⟨b112, Tundo_Patch.enc x103.2.1 A107 c108 A109 c110, 51⟩] [⟨k_TRule, 65, A122, c123, x120.1⟩, ⟨k_Tundo_Patch, 51, A14, c15, x13⟩] [fSl k_TAct A117 c118 x83.Acts, fAt k_TMod (p113.add (x19.toNat * 31)) (TMod.enc x83 A117 c118) x83, fSl k_TRule A105 c106 x103.1, fSl k_TRule A107 c108 x103.2.1.Gone, fSl k_TRule A109 c110 x103.2.1.New, fSl k_TAct A100 c101 x83.Acts, fAt k_TMod (p96.add (x19.toNat * 31)) (TMod.enc x83 A100 c101) x83, fSl k_TAct A89 c90 x83.Acts, fAt k_TMod (p85.add (x19.toNat * 31)) (TMod.enc x83 A89 c90) x83, fSl k_TRule A17 c18 x16, fSl k_TRule A0_0 c0_0 u0, fSl k_TMod A1_0 c1_0 u1] W) (fun a W hJ => ?_) ?_
            ·
             obtain ⟨hF, hS⟩ := hJ
             refine sq_val (v_pick_f hF rfl he132 rfl) hF (by decide) (fun a hF => ?_)
             exact sq_nil (then_j ⟨(hF.keep ⟨rfl, rfl, rfl, rfl, rfl, rfl, rfl, rfl, rfl, (boolV (or_f he132)), trivial⟩), hS⟩)
            ·
             by_cases he133 : (x103.2.2 != 0) = true
             ·
              refine sq_yes hF rfl rfl he133 ?_
              refine sq_val (v_fieldAddr hF rfl pf51_0) hF (by decide) (fun a hF => ?_)
              refine sq_yes hF rfl rfl he133 ?_
              refine sq_val (v_load1 hF rfl pa37 (cells_sub (vs := [.slice A107 ((x103.2.1.Gone).length) c108]) (hS.bc (i := 0) rfl) rfl rfl)) hF (by decide) (fun a hF => ?_)
              refine sq_yes hF rfl rfl he133 ?_
              refine sq_val (v_len hF rfl pu37) hF (by decide) (fun a hF => ?_)
              refine sq_yes hF rfl rfl he133 ?_
              refine sq_val (v_fieldAddr hF rfl pf51_1) hF (by decide) (fun a hF => ?_)
              refine sq_yes hF rfl rfl he133 ?_
              refine sq_val (v_load1 hF rfl pa37 (cells_sub (vs := [.slice A109 ((x103.2.1.New).length) c110]) (hS.bc (i := 0) rfl) rfl rfl)) hF (by decide) (fun a hF => ?_)
              refine sq_yes hF rfl rfl he133 ?_
              refine sq_val (v_len hF rfl pu37) hF (by decide) (fun a hF => ?_)
              refine sq_yes hF rfl rfl he133 ?_
              refine sq_val (v_add hF rfl rfl) hF (by decide) (fun a hF => ?_)
              refine sq_yes hF rfl rfl he133 ?_
              refine sq_val (v_gtr hF rfl rfl) hF (by decide) (fun a hF => ?_)
              refine sq_yes hF rfl rfl he132 ?_
              refine sq_val (v_pick_t hF rfl he133 rfl) hF (by decide) (fun a hF => ?_)
              exact sq_nil (then_j ⟨(hF.keep ⟨rfl, rfl, rfl, rfl, rfl, rfl, rfl, rfl, rfl, rfl, rfl, rfl, rfl, (boolV (and_t he133)), trivial⟩), hS⟩)
             ·
              have he133 : (x103.2.2 != 0) = false := nB he133
              refine sq_no hF rfl rfl he133 (by rintro x ⟨⟩; decide) (fun a hF => ?_)
              refine sq_no hF rfl rfl he133 (by rintro x ⟨⟩; decide) (fun a hF => ?_)
              refine sq_no hF rfl rfl he133 (by rintro x ⟨⟩; decide) (fun a hF => ?_)
              refine sq_no hF rfl rfl he133 (by rintro x ⟨⟩; decide) (fun a hF => ?_)
              refine sq_no hF rfl rfl he133 (by rintro x ⟨⟩; decide) (fun a hF => ?_)
              refine sq_no hF rfl rfl he133 (by rintro x ⟨⟩; decide) (fun a hF => ?_)
              refine sq_no hF rfl rfl he133 (by rintro x ⟨⟩; decide) (fun a hF => ?_)
              refine sq_no hF rfl rfl he133 (by rintro x ⟨⟩; decide) (fun a hF => ?_)
              refine sq_yes hF rfl rfl he132 ?_
              refine sq_val (v_pick_f hF rfl he133 rfl) hF (by decide) (fun a hF => ?_)
              exact sq_nil (then_j ⟨(hF.keep ⟨rfl, rfl, rfl, rfl, rfl, rfl, rfl, rfl, rfl, rfl, rfl, rfl, rfl, (boolV (and_f he133)), trivial⟩), hS⟩)
         ·
          by_cases he125 : (x103.2.2 != x120.2) = true
          ·
           replace h := ifT he125 h
           refine sq_no hF rfl rfl he125 (by rintro x ⟨⟩; decide) (fun a hF => ?_)
           refine sq_no hF rfl rfl he125 (by rintro x ⟨⟩; decide) (fun a hF => ?_)
           refine sq_no hF rfl rfl he125 (by rintro x ⟨⟩; decide) (fun a hF => ?_)
           refine sq_no hF rfl rfl he125 (by rintro x ⟨⟩; decide) (fun a hF => ?_)
           refine sq_val (v_pick_t hF rfl he125 rfl) hF (by decide) (fun a hF => ?_)
           obtain rfl := Option.some.inj h
           exact sq_nil (then_j ⟨(hF.keep ⟨rfl, rfl, rfl, rfl, rfl, rfl, rfl, rfl, rfl, rfl, trivial⟩), hS⟩)
          ·
           have he125 : (x103.2.2 != x120.2) = false := nB he125
           replace h := ifF he125 h
           refine sq_yes hF rfl rfl he125 ?_
           refine sq_val (v_move hF rfl) hF (by decide) (fun a hF => ?_)
           refine sq_yes hF rfl rfl he125 ?_
           refine sq_val (v_move hF rfl) hF (by decide) (fun a hF => ?_)
           refine sq_yes hF rfl rfl he125 ?_
           obtain ⟨x129, hx130, h⟩ := bindS h
           refine sq_call hF pc26 rfl (by decide) (ok_ref04_Same k ((hS.freeze (i := 0) rfl (posB rfl)).enter ⟨⟨3, rfl⟩, ⟨0, rfl⟩, trivial⟩) hx130) (fun v W hR a hF => ?_)
           obtain ⟨rfl, hT131⟩ := hR
           have hS := hS.grow hT131.below
           refine sq_yes hF rfl rfl he125 ?_
           refine sq_val (v_not hF rfl) hF (by decide) (fun a hF => ?_)
           refine sq_val (v_pick_f hF rfl he125 rfl) hF (by decide) (fun a hF => ?_)
           obtain rfl := Option.some.inj h
           exact sq_nil (then_j ⟨(hF.keep ⟨rfl, rfl, rfl, rfl, rfl, rfl, rfl, rfl, rfl, rfl, trivial⟩), hS⟩)
      ·
       replace h := ifF he74 h
       refine wp_exit ?_
       refine then_x ?_
       refine then_x ?_
       refine blk_hit ?_
       obtain rfl := Option.some.inj h
       exact then_j ⟨x13, x16, A14, c15, A17, c18, rfl, (hF.keep ⟨rfl, rfl, rfl, trivial⟩), (hS.keep (List.Sublist.refl _) (List.Sublist.refl _) ⟨⟨0, rfl⟩, ⟨1, rfl⟩, trivial⟩)⟩
  ·
   by_cases he1 : (decide (40 < (u0.length : Int))) = true
   ·
    refine sq_no hF rfl rfl he1 (by rintro x ⟨⟩; decide) (fun a hF => ?_)
    refine sq_no hF rfl rfl he1 (by rintro x ⟨⟩; decide) (fun a hF => ?_)
    refine sq_no hF rfl rfl he1 (by rintro x ⟨⟩; decide) (fun a hF => ?_)
    refine sq_val (v_pick_t hF rfl he1 rfl) hF (by decide) (fun a hF => ?_)
    exact sq_nil (then_j ⟨(hF.keep ⟨rfl, rfl, rfl, (boolV (or_t he1)), trivial⟩), hS⟩)
   ·
    have he1 : (decide (40 < (u0.length : Int))) = false := nB he1
    refine sq_yes hF rfl rfl he1 ?_
    refine sq_val (v_move hF rfl) hF (by decide) (fun a hF => ?_)
    refine sq_yes hF rfl rfl he1 ?_
    refine sq_val (v_len hF rfl pu48) hF (by decide) (fun a hF => ?_)
    refine sq_yes hF rfl rfl he1 ?_
    refine sq_val (v_gtr hF rfl rfl) hF (by decide) (fun a hF => ?_)
    refine sq_val (v_pick_f hF rfl he1 rfl) hF (by decide) (fun a hF => ?_)
    exact sq_nil (then_j ⟨(hF.keep ⟨rfl, rfl, rfl, (boolV (or_f he1)), trivial⟩), hS⟩)
end Go.Proofs.Ytangebngeeamoaa
