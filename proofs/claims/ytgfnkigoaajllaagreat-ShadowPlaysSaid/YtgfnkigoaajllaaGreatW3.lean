/- What calls of the Go functions come to. -/
import Derived.Test.YtgfnkigoaajllaaGreatW2
set_option linter.unusedVariables false
set_option linter.unusedSimpArgs false
set_option maxRecDepth 100000
set_option maxHeartbeats 4000000
namespace Go.Proofs.YtgfnkigoaajllaaGreat
open Go.RowKit Go.Pod
theorem ok_law22_ShadowPlays (k : Nat) {M : Nat → Prop} {w0 : World} {u0 : Int} {u1 : List Tpodestalaw22_Act} {A1_0 : Option Addr} {c1_0 : Nat} {o : Bool} (hS : St M w0 [] [] [fSl k_Tpodestalaw22_Act A1_0 c1_0 u1] w0) (h : law22_ShadowPlays k u0 u1 = some o) :
    Calls Tryz.prog 4 #[.int .u8 (u0), .slice A1_0 ((u1).length) c1_0] w0 fun e W' => ∃ v, e = .returned v ∧ (v = .bool (o) ∧ St M w0 [] [] [] W') := by
  unfold law22_ShadowPlays at h
  refine cst Tryz.func4 rfl rfl rfl fun a hF => wq <| wg <| av hF rfl rfl fun a hF => nl <| tn <| wq <| wg <| mv hF rfl rfl fun a hF => sv (v_rem hF rfl rfl (by decide : (4 : Int) ≠ 0)) hF rfl fun a hF => sv (v_convI hF rfl pu5 pu3) hF rfl fun a hF => av hF rfl rfl fun a hF => nl <| tn <| wq <| wq <| wg <| mv hF rfl rfl fun a hF => sv (v_len hF rfl pu41) hF rfl fun a hF => sv (v_gtr hF rfl rfl) hF rfl fun a hF => nl <| tn <| wi hF rfl h (fun h => ?_) fun h => ?_
  ·
   refine wq <| wg ?_
   obtain ⟨x2, hx3, h⟩ := bindS h
   refine cl hF pc11 rfl rfl (ok_law22_answers k (hS.enter trivial) hx3) hS fun W a hF hS => av hF rfl rfl fun a hF => nl <| tn <| rt <| tr ?_
   obtain rfl := si h
   exact ret1 hF rfl (rv_tmp hF rfl) ⟨_, rfl, rfl, (hS.keep sl sl trivial)⟩
  ·
   refine sk <| tn <| wq <| wg <| mv hF rfl rfl fun a hF => ?_
   obtain ⟨x5, hx6, h⟩ := bindS h
   refine sq_call hF pc12 rfl (by decide) (ok_shadow_New (hS.enter trivial) hx6) (fun v W hR a hF => ?_)
   obtain ⟨b7, A8, c9, A10, c11, rfl, hT12⟩ := hR
   have hS := hS.joinB hT12
   refine av hF rfl rfl fun a hF => nl <| tn <| wq <| wg <| mv hF rfl rfl fun a hF => ?_
   obtain ⟨x15, hx16, h⟩ := bindS h
   refine sq_makeSlice (κ := (kSl k_TRule)) (zc := [.slice none 0 0]) hF hS rfl rfl psl42 pb26 pz26 rfl ⟨none, 0, rfl, SlR.nil _ _ _⟩ (by decide) hx16 (by decide) (fun A13 c14 a W hF hS => ?_)
   refine av hF rfl rfl fun a hF => nl <| tn <| wq <| wg <| av hF rfl rfl fun a hF => nl <| tn <| wq <| wq <| wg <| av hF rfl rfl fun a hF => nl <| tn ?_
   obtain ⟨o49, h, hk50⟩ := bindS h
   refine wp_join (fun a W => ∃ (x41 : Tshadow_Shadow) (x46 : List Tpodestalaw22_open) (A42 : Option Addr) (c43 : Nat) (A44 : Option Addr) (c45 : Nat) (A47 : Option Addr) (c48 : Nat), Lo.brk (x41, x46) = o49 ∧ FH 277 [(6, .pointer (some (⟨b7, 0, none⟩))), (8, .slice A47 ((x46).length) c48)] a ∧ St M w0 [⟨b7, Tshadow_Shadow.enc x41 A42 c43 A44 c45, 134⟩] [⟨(kSl k_TRule), 26, A42, c43, x41.base⟩, ⟨k_Tshadow_open, 140, A44, c45, x41.open_⟩, ⟨k_Tpodestalaw22_open, 55, A47, c48, x46⟩] [] W) (fun a W hJ => ?_) ?_
   ·
    obtain ⟨x41, x46, A42, c43, A44, c45, A47, c48, rfl, hF, hS⟩ := hJ
    have h := hk50
    dsimp only at h
    refine tn <| wq <| wg ?_
    obtain ⟨x51, hx52, h⟩ := bindS h
    refine cl hF pc11 rfl rfl (ok_law22_answers k (hS.enter trivial) hx52) hS fun W a hF hS => mv hF rfl rfl fun a hF => gandB 6 1 269 hF hS h rfl rfl rfl rfl rfl (fun r56 h => ?_) (fun x55 a W h hF hS => ?_)
    ·
     refine mv hF rfl rfl fun a hF => ?_
     obtain ⟨x57, hx58, h⟩ := bindS h
     refine sq_call hF pc20 rfl (by decide) (ok_shadow_Shadow_Open k hS hx58) (fun v W hR a hF => ?_)
     obtain ⟨A59, c60, rfl, hS⟩ := hR
     refine sv (v_len hF rfl pu38) hF rfl fun a hF => mv hF rfl rfl fun a hF => sv (v_len hF rfl pu43) hF rfl fun a hF => sv (v_eql hF rfl rfl) hF rfl fun a hF => ?_
     obtain rfl := si h
     exact gs 6 hF (hS.keep sl (.cons _ sl) trivial) rfl rfl rfl
    ·
     refine av hF rfl rfl fun a hF => nl <| tn <| rt ?_
     obtain rfl := si h
     exact ret1 hF rfl (rv_tmp hF rfl) ⟨_, rfl, rfl, (hS.keep sn sn trivial)⟩
   ·
    have hS := hS.addNil k_Tpodestalaw22_open 55
    have hS := hS.perm (List.Perm.refl _) (.trans (.cons _ (.swap _ _ _)) (.trans (.swap _ _ _) (.cons _ (.trans (.cons _ (.swap _ _ _)) (.trans (.swap _ _ _) (List.Perm.refl _))))))
    refine wb <| wp_loop_fuel (I := fun m a W => ∃ (x31 : List (List TRule)) (x32 : Tshadow_Shadow) (x37 : List Tpodestalaw22_open) (x40 : Int) (A33 : Option Addr) (c34 : Nat) (A35 : Option Addr) (c36 : Nat) (A38 : Option Addr) (c39 : Nat), FH 277 [(1, .slice A1_0 ((u1).length) c1_0), (5, .int .i64 ((IntKind.i64.wrap (Int.tmod u0 4)))), (6, .pointer (some (⟨b7, 0, none⟩))), (7, .slice A13 ((x31).length) c14), (8, .slice A38 ((x37).length) c39), (9, .int .i64 (x40))] a ∧ St M w0 [⟨b7, Tshadow_Shadow.enc x32 A33 c34 A35 c36, 134⟩] [⟨(kSl k_TRule), 26, A33, c34, x32.base⟩, ⟨k_Tshadow_open, 140, A35, c36, x32.open_⟩, ⟨k_Tpodestalaw22_open, 55, A38, c39, x37⟩, ⟨(kSl k_TRule), 26, A13, c14, x31⟩] [fSl k_Tpodestalaw22_Act A1_0 c1_0 u1] W ∧ (law22_ShadowPlays.l0 k u0 u1 m x31 x32 x37 x40) = some o49) ?_ (k := k) ⟨x15, x5, ([]), 0, A8, c9, A10, c11, none, 0, (hF.keep ⟨rfl, rfl, rfl, rfl, rfl, rfl, trivial⟩), hS, h⟩
    rintro m61 a W ⟨x31, x32, x37, x40, A33, c34, A35, c36, A38, c39, hF, hS, h⟩
    cases m61 with
    | zero => cases h
    | succ m61 =>
     rw [law22_ShadowPlays.l0] at h
     refine wq <| wq <| wg <| mv hF rfl rfl fun a hF => mv hF rfl rfl fun a hF => sv (v_len hF rfl pu41) hF rfl fun a hF => sv (v_lss hF rfl rfl) hF rfl fun a hF => nl <| tn <| wi hF rfl h (fun h => ?_) fun h => ?_
     ·
      refine sk <| tn <| wq ?_
      obtain ⟨o72, h, hk73⟩ := bindS h
      refine wp_join (fun a W => ∃ (x63 : List (List TRule)) (x64 : Tshadow_Shadow) (x69 : List Tpodestalaw22_open) (A65 : Option Addr) (c66 : Nat) (A67 : Option Addr) (c68 : Nat) (A70 : Option Addr) (c71 : Nat), Lo.brk (x63, x64, x69) = o72 ∧ FH 277 [(1, .slice A1_0 ((u1).length) c1_0), (5, .int .i64 ((IntKind.i64.wrap (Int.tmod u0 4)))), (6, .pointer (some (⟨b7, 0, none⟩))), (7, .slice A13 ((x63).length) c14), (8, .slice A70 ((x69).length) c71), (9, .int .i64 (x40))] a ∧ St M w0 [⟨b7, Tshadow_Shadow.enc x64 A65 c66 A67 c68, 134⟩] [⟨(kSl k_TRule), 26, A65, c66, x64.base⟩, ⟨k_Tshadow_open, 140, A67, c68, x64.open_⟩, ⟨k_Tpodestalaw22_open, 55, A70, c71, x69⟩, ⟨(kSl k_TRule), 26, A13, c14, x63⟩] [fSl k_Tpodestalaw22_Act A1_0 c1_0 u1] W) (fun a W hJ => ?_) ?_
      ·
       obtain ⟨x63, x64, x69, A65, c66, A67, c68, A70, c71, rfl, hF, hS⟩ := hJ
       have h := hk73
       dsimp only at h
       exact tn <| wg <| mv hF rfl rfl fun a hF => sv (v_add hF rfl rfl) hF rfl fun a hF => av hF rfl rfl fun a hF => nl <| then_j ⟨m61, Nat.lt_succ_self _, x63, x64, x69, (IntKind.i64.wrap (x40 + 1)), A65, c66, A67, c68, A70, c71, (hF.keep ⟨rfl, rfl, rfl, rfl, rfl, rfl, trivial⟩), hS, h⟩
      ·
       refine wb <| wq <| wg <| mv hF rfl rfl fun a hF => mv hF rfl rfl fun a hF => ?_
       obtain ⟨x74, hx75, h⟩ := bindS h
       obtain ⟨p76, cs77, hA78, hat79⟩ := SlR.at (hS.fc (i := 0) rfl) hx75
       obtain ⟨A80, c81, A83, c84, rfl, hs82, hs85⟩ := hat79.2.2.2
       have hS := hS.addFact (f := fAt k_Tpodestalaw22_Act (p76.add (x40.toNat * 36)) (Tpodestalaw22_Act.enc x74 A80 c81 A83 c84) x74) hat79
       have hS := hS.addFact (f := fSl k_TChange A80 c81 x74.L) hs82
       have hS := hS.addFact (f := fSl k_TAct A83 c84 x74.Rule.Acts) hs85
       refine sv (v_idx hF rfl hA78 rfl psl41 hx75) hF rfl fun a hF => sv (v_load (cs := Tpodestalaw22_Act.enc x74 A80 c81 A83 c84) hF rfl pa53 ps53 (hS.pc (i := 2) rfl)) hF rfl fun a hF => al hF hS pz53 rfl rfl fun b86 a W hF hS => sq_store (o := 0) (vs := Tpodestalaw22_Act.enc x74 A80 c81 A83 c84) (cs' := Tpodestalaw22_Act.enc x74 A80 c81 A83 c84) hF hS rfl rfl (i := 0) rfl rfl rfl ps53 (Tpodestalaw22_Act.enc_one _ _ _ _ _) (bl rfl) rfl fun W hS => nl <| tn <| wq <| wq <| wg <| fv hF rfl pf53_2 rfl fun a hF => lv hF rfl pa28 (hS.bc (i := 0) rfl) rfl rfl rfl fun a hF => sv (v_len hF rfl pu28) hF rfl fun a hF => sv (v_gtr hF rfl rfl) hF rfl fun a hF => mv hF rfl rfl fun a hF => gor 5 4 49 ((decide (20 < (x74.Rule.Acts.length : Int)))) hF rfl rfl rfl rfl rfl (fun _ => ?_) (fun a hF => ?_)
       ·
        exact fv hF rfl pf53_4 rfl fun a hF => fv hF rfl pf51_2 rfl fun a hF => lv hF rfl pa49 (hS.bc (i := 0) rfl) (add_add _ _ _) rfl rfl fun a hF => sv (v_len hF rfl pu49) hF rfl fun a hF => sv (v_gtr hF rfl rfl) hF rfl fun a hF => gq 5 hF rfl rfl rfl
       ·
        refine nl <| tn <| wi hF rfl h (fun h => ?_) fun h => ?_
        ·
         refine wp_exit <| tx <| bh ?_
         obtain rfl := si h
         exact then_j ⟨x31, x32, x37, A33, c34, A35, c36, A38, c39, rfl, (hF.keep ⟨rfl, rfl, rfl, rfl, rfl, rfl, trivial⟩), (hS.keep (.cons _ sl) sl ⟨⟨3, rfl⟩, trivial⟩)⟩
        ·
         refine sk <| tn <| wq <| wg <| av hF rfl rfl fun a hF => nl <| tn <| wq <| wq <| wg <| av hF rfl rfl fun a hF => nl <| tn ?_
         obtain ⟨o94, h, hk95⟩ := bindS h
         refine wp_join (fun a W => ∃ (x93 : Int), x93 = o94 ∧ FH 277 [(1, .slice A1_0 ((u1).length) c1_0), (5, .int .i64 ((IntKind.i64.wrap (Int.tmod u0 4)))), (6, .pointer (some (⟨b7, 0, none⟩))), (7, .slice A13 ((x31).length) c14), (8, .slice A38 ((x37).length) c39), (9, .int .i64 (x40)), (10, .pointer (some (⟨b86, 0, none⟩))), (11, .int .i64 (x93))] a ∧ St M w0 [⟨b86, Tpodestalaw22_Act.enc x74 A80 c81 A83 c84, 53⟩, ⟨b7, Tshadow_Shadow.enc x32 A33 c34 A35 c36, 134⟩] [⟨(kSl k_TRule), 26, A33, c34, x32.base⟩, ⟨k_Tshadow_open, 140, A35, c36, x32.open_⟩, ⟨k_Tpodestalaw22_open, 55, A38, c39, x37⟩, ⟨(kSl k_TRule), 26, A13, c14, x31⟩] [fSl k_TAct A83 c84 x74.Rule.Acts, fSl k_TChange A80 c81 x74.L, fSl k_Tpodestalaw22_Act A1_0 c1_0 u1] W) (fun a W hJ => ?_) ?_
         ·
          obtain ⟨x93, rfl, hF, hS⟩ := hJ
          have h := hk95
          refine tn <| wq <| wg <| av hF rfl rfl fun a hF => nl <| tn <| wq <| wq <| wg <| fv hF rfl pf53_0 rfl fun a hF => lv hF rfl pa3 (hS.bc (i := 0) rfl) rfl rfl rfl fun a hF => nl <| tn ?_
          obtain ⟨o105, h, hk106⟩ := bindS h
          refine wp_join (fun a W => ∃ (x96 : List (List TRule)) (x97 : Tshadow_Shadow) (x102 : List Tpodestalaw22_open) (A98 : Option Addr) (c99 : Nat) (A100 : Option Addr) (c101 : Nat) (A103 : Option Addr) (c104 : Nat), Lo.brk (x96, x97, x102) = o105 ∧ FH 277 [(1, .slice A1_0 ((u1).length) c1_0), (5, .int .i64 ((IntKind.i64.wrap (Int.tmod u0 4)))), (6, .pointer (some (⟨b7, 0, none⟩))), (7, .slice A13 ((x96).length) c14), (8, .slice A103 ((x102).length) c104), (9, .int .i64 (x40))] a ∧ St M w0 [⟨b7, Tshadow_Shadow.enc x97 A98 c99 A100 c101, 134⟩] [⟨(kSl k_TRule), 26, A98, c99, x97.base⟩, ⟨k_Tshadow_open, 140, A100, c101, x97.open_⟩, ⟨k_Tpodestalaw22_open, 55, A103, c104, x102⟩, ⟨(kSl k_TRule), 26, A13, c14, x96⟩] [fSl k_Tpodestalaw22_Act A1_0 c1_0 u1] W) (fun a W hJ => ?_) ?_
          ·
           obtain ⟨x96, x97, x102, A98, c99, A100, c101, A103, c104, rfl, hF, hS⟩ := hJ
           have h := hk106
           dsimp only at h
           refine tn <| wq <| wg <| av hF rfl rfl fun a hF => nl <| tn ?_
           obtain ⟨o109, h, hk110⟩ := bindS h
           refine wp_join (fun a W => Lo.brk () = o109 ∧ FH 277 [(1, .slice A1_0 ((u1).length) c1_0), (5, .int .i64 ((IntKind.i64.wrap (Int.tmod u0 4)))), (6, .pointer (some (⟨b7, 0, none⟩))), (7, .slice A13 ((x96).length) c14), (8, .slice A103 ((x102).length) c104), (9, .int .i64 (x40))] a ∧ St M w0 [⟨b7, Tshadow_Shadow.enc x97 A98 c99 A100 c101, 134⟩] [⟨(kSl k_TRule), 26, A98, c99, x97.base⟩, ⟨k_Tshadow_open, 140, A100, c101, x97.open_⟩, ⟨k_Tpodestalaw22_open, 55, A103, c104, x102⟩, ⟨(kSl k_TRule), 26, A13, c14, x96⟩] [fSl k_Tpodestalaw22_Act A1_0 c1_0 u1] W) (fun a W hJ => ?_) ?_
           ·
            obtain ⟨rfl, hF, hS⟩ := hJ
            have h := hk110
            dsimp only at h
            refine bn ?_
            obtain rfl := si h
            exact then_j ⟨x96, x97, x102, A98, c99, A100, c101, A103, c104, rfl, (hF.keep ⟨rfl, rfl, rfl, rfl, rfl, rfl, trivial⟩), hS⟩
           ·
            refine wb <| wp_loop_fuel (I := fun m a W => ∃ (x108 : Int), FH 277 [(1, .slice A1_0 ((u1).length) c1_0), (5, .int .i64 ((IntKind.i64.wrap (Int.tmod u0 4)))), (6, .pointer (some (⟨b7, 0, none⟩))), (7, .slice A13 ((x96).length) c14), (8, .slice A103 ((x102).length) c104), (9, .int .i64 (x40)), (21, .int .i64 (x108))] a ∧ St M w0 [⟨b7, Tshadow_Shadow.enc x97 A98 c99 A100 c101, 134⟩] [⟨(kSl k_TRule), 26, A98, c99, x97.base⟩, ⟨k_Tshadow_open, 140, A100, c101, x97.open_⟩, ⟨k_Tpodestalaw22_open, 55, A103, c104, x102⟩, ⟨(kSl k_TRule), 26, A13, c14, x96⟩] [fSl k_Tpodestalaw22_Act A1_0 c1_0 u1] W ∧ (law22_ShadowPlays.l2 k u0 x96 x97 x102 m x108) = some o109) ?_ (k := k) ⟨(-1), (hF.keep ⟨rfl, rfl, rfl, rfl, rfl, rfl, rfl, trivial⟩), hS, h⟩
            rintro m111 a W ⟨x108, hF, hS, h⟩
            cases m111 with
            | zero => cases h
            | succ m111 =>
             rw [law22_ShadowPlays.l2] at h
             refine wq <| wq <| wg <| mv hF rfl rfl fun a hF => mv hF rfl rfl fun a hF => sv (v_leq hF rfl rfl) hF rfl fun a hF => nl <| tn <| wi hF rfl h (fun h => ?_) fun h => ?_
             ·
              refine sk <| tn <| wq <| wb <| wq <| wg <| av hF rfl rfl fun a hF => nl <| tn <| wq <| wq <| wg <| mv hF rfl rfl fun a hF => sv (v_geq hF rfl rfl) hF rfl fun a hF => mv hF rfl rfl fun a hF => gand 3 2 238 ((decide (x108 < (IntKind.i64.wrap (Int.tmod u0 4))))) hF rfl rfl rfl rfl rfl (fun _ => ?_) (fun a hF => ?_)
              ·
               exact mv hF rfl rfl fun a hF => mv hF rfl rfl fun a hF => sv (v_lss hF rfl rfl) hF rfl fun a hF => gq 3 hF rfl rfl rfl
              ·
               refine nl <| tn ?_
               obtain ⟨o117, h, hk118⟩ := bindS h
               refine wp_join (fun a W => ∃ (x114 : List TRule) (A115 : Option Addr) (c116 : Nat), x114 = o117 ∧ FH 277 [(1, .slice A1_0 ((u1).length) c1_0), (5, .int .i64 ((IntKind.i64.wrap (Int.tmod u0 4)))), (6, .pointer (some (⟨b7, 0, none⟩))), (7, .slice A13 ((x96).length) c14), (8, .slice A103 ((x102).length) c104), (9, .int .i64 (x40)), (21, .int .i64 (x108)), (22, .slice A115 ((x114).length) c116)] a ∧ St M w0 [⟨b7, Tshadow_Shadow.enc x97 A98 c99 A100 c101, 134⟩] [⟨(kSl k_TRule), 26, A98, c99, x97.base⟩, ⟨k_Tshadow_open, 140, A100, c101, x97.open_⟩, ⟨k_Tpodestalaw22_open, 55, A103, c104, x102⟩, ⟨(kSl k_TRule), 26, A13, c14, x96⟩] [fSl k_TRule A115 c116 x114, fSl k_Tpodestalaw22_Act A1_0 c1_0 u1] W) (fun a W hJ => ?_) ?_
               ·
                obtain ⟨x114, A115, c116, rfl, hF, hS⟩ := hJ
                have h := hk118
                refine tn <| wq <| wg <| mv hF rfl rfl fun a hF => mv hF rfl rfl fun a hF => ?_
                obtain ⟨x119, hx120, h⟩ := bindS h
                refine sq_call hF pc17 rfl (by decide) (ok_shadow_Shadow_Table k hS hx120) (fun v W hR a hF => ?_)
                obtain ⟨A121, c122, rfl, hS⟩ := hR
                refine mv hF rfl rfl fun a hF => ?_
                obtain ⟨x123, hx124, h⟩ := bindS h
                refine cl hF pc16 rfl rfl (ok_ref04_Same k ((hS.freeze (i := 0) rfl (posB rfl)).enter ⟨⟨0, rfl⟩, ⟨1, rfl⟩, trivial⟩) hx124) hS fun W a hF hS => sv (v_not hF rfl) hF rfl fun a hF => nl <| tn <| wi hF rfl h (fun h => ?_) fun h => ?_
                ·
                 refine wq <| wg <| av hF rfl rfl fun a hF => nl <| tn <| rt <| br <| tr <| tr <| br <| tr <| br <| tr <| tr <| tr <| br <| tr <| tr ?_
                 obtain rfl := si h
                 have h := hk110
                 dsimp only at h
                 obtain rfl := si h
                 have h := hk73
                 dsimp only at h
                 obtain rfl := si h
                 have h := hk50
                 dsimp only at h
                 obtain rfl := si h
                 exact ret1 hF rfl (rv_tmp hF rfl) ⟨_, rfl, rfl, (hS.keep sn sn trivial)⟩
                ·
                 exact sk <| bn <| tn <| wg <| mv hF rfl rfl fun a hF => sv (v_add hF rfl rfl) hF rfl fun a hF => av hF rfl rfl fun a hF => nl <| then_j ⟨m111, Nat.lt_succ_self _, (IntKind.i64.wrap (x108 + 1)), (hF.keep ⟨rfl, rfl, rfl, rfl, rfl, rfl, rfl, trivial⟩), (hS.keep sl (.cons _ sl) ⟨⟨1, rfl⟩, trivial⟩), h⟩
               ·
                refine wi hF rfl h (fun h => ?_) fun h => ?_
                ·
                 refine wq <| wg <| mv hF rfl rfl fun a hF => mv hF rfl rfl fun a hF => ?_
                 obtain ⟨x128, hx129, h⟩ := bindS h
                 obtain ⟨p130, cs131, hA132, hc134, hr135⟩ := Row.ok.at (hS.rw_ (i := 3) rfl) hx129
                 obtain ⟨A136, c137, rfl, hs138⟩ := hr135
                 have hS := hS.addFact (f := fSl k_TRule A136 c137 x128) hs138
                 refine sv (v_idx hF rfl hA132 rfl psl42 hx129) hF rfl fun a hF => sv (v_load1 hF rfl pa26 hc134) hF rfl fun a hF => av hF rfl rfl fun a hF => nl <| tn <| wq <| wg <| av hF rfl rfl fun a hF => nl <| tn ?_
                 obtain ⟨o150, h, hk151⟩ := bindS h
                 refine wp_join (fun a W => ∃ (x147 : List TRule) (A148 : Option Addr) (c149 : Nat), x147 = o150 ∧ FH 277 [(1, .slice A1_0 ((u1).length) c1_0), (5, .int .i64 ((IntKind.i64.wrap (Int.tmod u0 4)))), (6, .pointer (some (⟨b7, 0, none⟩))), (7, .slice A13 ((x96).length) c14), (8, .slice A103 ((x102).length) c104), (9, .int .i64 (x40)), (21, .int .i64 (x108)), (22, .slice A148 ((x147).length) c149)] a ∧ St M w0 [⟨b7, Tshadow_Shadow.enc x97 A98 c99 A100 c101, 134⟩] [⟨(kSl k_TRule), 26, A98, c99, x97.base⟩, ⟨k_Tshadow_open, 140, A100, c101, x97.open_⟩, ⟨k_Tpodestalaw22_open, 55, A103, c104, x102⟩, ⟨(kSl k_TRule), 26, A13, c14, x96⟩] [fSl k_TRule A148 c149 x147, fSl k_Tpodestalaw22_Act A1_0 c1_0 u1] W) (fun a W hJ => ?_) ?_
                 ·
                  obtain ⟨x147, A148, c149, rfl, hF, hS⟩ := hJ
                  have h := hk151
                  obtain rfl := si h
                  exact then_j ⟨x147, A148, c149, rfl, (hF.keep ⟨rfl, rfl, rfl, rfl, rfl, rfl, rfl, rfl, trivial⟩), hS⟩
                 ·
                  refine wb <| wp_loop_fuel (I := fun m a W => ∃ (x143 : List TRule) (x146 : Int) (A144 : Option Addr) (c145 : Nat), FH 277 [(1, .slice A1_0 ((u1).length) c1_0), (5, .int .i64 ((IntKind.i64.wrap (Int.tmod u0 4)))), (6, .pointer (some (⟨b7, 0, none⟩))), (7, .slice A13 ((x96).length) c14), (8, .slice A103 ((x102).length) c104), (9, .int .i64 (x40)), (21, .int .i64 (x108)), (22, .slice A144 ((x143).length) c145), (23, .int .i64 (x146))] a ∧ St M w0 [⟨b7, Tshadow_Shadow.enc x97 A98 c99 A100 c101, 134⟩] [⟨(kSl k_TRule), 26, A98, c99, x97.base⟩, ⟨k_Tshadow_open, 140, A100, c101, x97.open_⟩, ⟨k_Tpodestalaw22_open, 55, A103, c104, x102⟩, ⟨(kSl k_TRule), 26, A13, c14, x96⟩] [fSl k_TRule A144 c145 x143, fSl k_Tpodestalaw22_Act A1_0 c1_0 u1] W ∧ (law22_ShadowPlays.l3 k x102 x108 m x143 x146) = some o150) ?_ (k := k) ⟨x128, 0, A136, c137, (hF.keep ⟨rfl, rfl, rfl, rfl, rfl, rfl, rfl, rfl, rfl, trivial⟩), hS, h⟩
                  rintro m152 a W ⟨x143, x146, A144, c145, hF, hS, h⟩
                  cases m152 with
                  | zero => cases h
                  | succ m152 =>
                   rw [law22_ShadowPlays.l3] at h
                   refine wq <| wq <| wg <| mv hF rfl rfl fun a hF => mv hF rfl rfl fun a hF => sv (v_len hF rfl pu43) hF rfl fun a hF => sv (v_lss hF rfl rfl) hF rfl fun a hF => nl <| tn <| wi hF rfl h (fun h => ?_) fun h => ?_
                   ·
                    refine sk <| tn <| wq <| wb <| wg <| mv hF rfl rfl fun a hF => mv hF rfl rfl fun a hF => mv hF rfl rfl fun a hF => ?_
                    obtain ⟨x154, hx155, h⟩ := bindS h
                    obtain ⟨p156, cs157, hA158, hc160, hr161⟩ := Row.ok.at (hS.rw_ (i := 2) rfl) hx155
                    obtain ⟨A162, c163, rfl, hs164⟩ := hr161
                    have hS := hS.addFact (f := fSl k_TChange A162 c163 x154.l) hs164
                    refine sv (v_idx hF rfl hA158 rfl psl43 hx155) hF rfl fun a hF => fv hF rfl pf55_1 rfl fun a hF => lv hF rfl pa28 hc160 rfl rfl rfl fun a hF => mv hF rfl rfl fun a hF => ?_
                    obtain ⟨x165, hx166, h⟩ := bindS h
                    refine sq_call hF pc15 rfl (by decide) (ok_ref19_For k (hS.enter ⟨⟨0, rfl⟩, trivial⟩) hx166) (fun v W hR a hF => ?_)
                    obtain ⟨A167, c168, rfl, hT169⟩ := hR
                    have hS := hS.join hT169
                    have hS := hS.freeze (i := 0) rfl (posB rfl)
                    obtain ⟨x170, hx171, h⟩ := bindS h
                    refine sq_call hF pc14 rfl (by decide) (ok_ref04_Laid k (hS.enter ⟨⟨2, rfl⟩, ⟨0, rfl⟩, trivial⟩) hx171) (fun v W hR a hF => ?_)
                    obtain ⟨A172, c173, rfl, hT174⟩ := hR
                    have hS := hS.join hT174
                    exact av hF rfl rfl fun a hF => nl <| bn <| tn <| wg <| mv hF rfl rfl fun a hF => sv (v_add hF rfl rfl) hF rfl fun a hF => av hF rfl rfl fun a hF => nl <| then_j ⟨m152, Nat.lt_succ_self _, x170, (IntKind.i64.wrap (x146 + 1)), A172, c173, (hF.keep ⟨rfl, rfl, rfl, rfl, rfl, rfl, rfl, rfl, rfl, trivial⟩), (hS.keep sl sl ⟨⟨0, rfl⟩, ⟨4, rfl⟩, trivial⟩), h⟩
                   ·
                    refine wp_exit <| tx <| tx <| bh ?_
                    obtain rfl := si h
                    exact then_j ⟨x143, A144, c145, rfl, (hF.keep ⟨rfl, rfl, rfl, rfl, rfl, rfl, rfl, rfl, trivial⟩), hS⟩
                ·
                 refine sk ?_
                 have hS := hS.addFact (f := fSl k_TRule none 0 []) (SlR.nil _ _ _)
                 obtain rfl := si h
                 exact then_j ⟨([]), none, 0, rfl, (hF.keep ⟨rfl, rfl, rfl, rfl, rfl, rfl, rfl, rfl, trivial⟩), hS⟩
             ·
              refine wp_exit <| tx <| tx <| bh ?_
              obtain rfl := si h
              exact then_j ⟨rfl, (hF.keep ⟨rfl, rfl, rfl, rfl, rfl, rfl, trivial⟩), hS⟩
          ·
           refine wb <| wq <| wg <| sv (v_eql hF rfl rfl) hF rfl fun a hF => av hF rfl rfl fun a hF => nl <| tn ?_
           obtain ⟨o184, h, hk185⟩ := bindS h
           refine wp_join (fun a W => ∃ (x175 : List (List TRule)) (x176 : Tshadow_Shadow) (x181 : List Tpodestalaw22_open) (A177 : Option Addr) (c178 : Nat) (A179 : Option Addr) (c180 : Nat) (A182 : Option Addr) (c183 : Nat), Lo.brk (x175, x176, x181) = o184 ∧ FH 277 [(1, .slice A1_0 ((u1).length) c1_0), (5, .int .i64 ((IntKind.i64.wrap (Int.tmod u0 4)))), (6, .pointer (some (⟨b7, 0, none⟩))), (7, .slice A13 ((x175).length) c14), (8, .slice A182 ((x181).length) c183), (9, .int .i64 (x40))] a ∧ St M w0 [⟨b7, Tshadow_Shadow.enc x176 A177 c178 A179 c180, 134⟩] [⟨(kSl k_TRule), 26, A177, c178, x176.base⟩, ⟨k_Tshadow_open, 140, A179, c180, x176.open_⟩, ⟨k_Tpodestalaw22_open, 55, A182, c183, x181⟩, ⟨(kSl k_TRule), 26, A13, c14, x175⟩] [fSl k_Tpodestalaw22_Act A1_0 c1_0 u1] W) (fun a W hJ => ?_) ?_
           ·
            obtain ⟨x175, x176, x181, A177, c178, A179, c180, A182, c183, rfl, hF, hS⟩ := hJ
            have h := hk185
            dsimp only at h
            refine bn ?_
            obtain rfl := si h
            exact then_j ⟨x175, x176, x181, A177, c178, A179, c180, A182, c183, rfl, (hF.keep ⟨rfl, rfl, rfl, rfl, rfl, rfl, trivial⟩), hS⟩
           ·
            refine wi hF rfl h (fun h => ?_) fun h => ?_
            ·
             refine wq <| wq <| wg <| av hF rfl rfl fun a hF => nl <| tn ?_
             obtain ⟨o192, h, hk193⟩ := bindS h
             refine wp_join (fun a W => ∃ (x191 : Int), x191 = o192 ∧ FH 277 [(1, .slice A1_0 ((u1).length) c1_0), (5, .int .i64 ((IntKind.i64.wrap (Int.tmod u0 4)))), (6, .pointer (some (⟨b7, 0, none⟩))), (7, .slice A13 ((x31).length) c14), (8, .slice A38 ((x37).length) c39), (9, .int .i64 (x40)), (10, .pointer (some (⟨b86, 0, none⟩))), (11, .int .i64 (x93)), (13, .int .i64 (x191))] a ∧ St M w0 [⟨b86, Tpodestalaw22_Act.enc x74 A80 c81 A83 c84, 53⟩, ⟨b7, Tshadow_Shadow.enc x32 A33 c34 A35 c36, 134⟩] [⟨(kSl k_TRule), 26, A33, c34, x32.base⟩, ⟨k_Tshadow_open, 140, A35, c36, x32.open_⟩, ⟨k_Tpodestalaw22_open, 55, A38, c39, x37⟩, ⟨(kSl k_TRule), 26, A13, c14, x31⟩] [fSl k_TAct A83 c84 x74.Rule.Acts, fSl k_TChange A80 c81 x74.L, fSl k_Tpodestalaw22_Act A1_0 c1_0 u1] W) (fun a W hJ => ?_) ?_
             ·
              obtain ⟨x191, rfl, hF, hS⟩ := hJ
              have h := hk193
              refine tn <| wq <| wq <| wg <| mv hF rfl rfl fun a hF => sv (v_geq hF rfl rfl) hF rfl fun a hF => nl <| tn ?_
              obtain ⟨o195, h, hk196⟩ := bindS h
              refine wp_join (fun a W => ∃ (x194 : Int), x194 = o195 ∧ FH 277 [(1, .slice A1_0 ((u1).length) c1_0), (5, .int .i64 ((IntKind.i64.wrap (Int.tmod u0 4)))), (6, .pointer (some (⟨b7, 0, none⟩))), (7, .slice A13 ((x31).length) c14), (8, .slice A38 ((x37).length) c39), (9, .int .i64 (x40)), (10, .pointer (some (⟨b86, 0, none⟩))), (13, .int .i64 (x194))] a ∧ St M w0 [⟨b86, Tpodestalaw22_Act.enc x74 A80 c81 A83 c84, 53⟩, ⟨b7, Tshadow_Shadow.enc x32 A33 c34 A35 c36, 134⟩] [⟨(kSl k_TRule), 26, A33, c34, x32.base⟩, ⟨k_Tshadow_open, 140, A35, c36, x32.open_⟩, ⟨k_Tpodestalaw22_open, 55, A38, c39, x37⟩, ⟨(kSl k_TRule), 26, A13, c14, x31⟩] [fSl k_TAct A83 c84 x74.Rule.Acts, fSl k_TChange A80 c81 x74.L, fSl k_Tpodestalaw22_Act A1_0 c1_0 u1] W) (fun a W hJ => ?_) ?_
              ·
               obtain ⟨x194, rfl, hF, hS⟩ := hJ
               have h := hk196
               refine tn <| wq <| wq <| wg <| mv hF rfl rfl fun a hF => fv hF rfl pf53_1 rfl fun a hF => lv hF rfl pa3 (hS.bc (i := 0) rfl) rfl rfl rfl fun a hF => fv hF rfl pf53_2 rfl fun a hF => lv hF rfl pa28 (hS.bc (i := 0) rfl) rfl rfl rfl fun a hF => ?_
               have hS := hS.perm (.trans (.swap _ _ _) (List.Perm.refl _)) (List.Perm.refl _)
               have hS := hS.addFact (f := fSl k_TChange A80 c81 x74.L) (hS.fc (i := 1) rfl)
               obtain ⟨x197, hx198, h⟩ := bindS h
               refine sq_call hF pc13 rfl (by decide) (ok_shadow_Shadow_Begin k hS hx198) (fun v W hR a hF => ?_)
               obtain ⟨A199, c200, A201, c202, rfl, hS⟩ := hR
               refine mv hF rfl rfl fun a hF => sv (v_neq hF rfl rfl) hF rfl fun a hF => nl <| tn <| wi hF rfl h (fun h => ?_) fun h => ?_
               ·
                refine wq <| wg <| av hF rfl rfl fun a hF => nl <| tn <| rt <| tr <| tr <| br <| tr <| tr <| br <| tr <| tr <| tr <| br <| tr <| tr ?_
                obtain rfl := si h
                have h := hk185
                dsimp only at h
                obtain rfl := si h
                have h := hk106
                dsimp only at h
                obtain rfl := si h
                have h := hk73
                dsimp only at h
                obtain rfl := si h
                have h := hk50
                dsimp only at h
                obtain rfl := si h
                exact ret1 hF rfl (rv_tmp hF rfl) ⟨_, rfl, rfl, (hS.keep sn sn trivial)⟩
               ·
                refine sk <| tn <| wq <| wg <| mv hF rfl rfl fun a hF => sv (v_eql hF rfl rfl) hF rfl fun a hF => nl <| tn ?_
                obtain ⟨o207, h, hk208⟩ := bindS h
                refine wp_join (fun a W => ∃ (x204 : List Tpodestalaw22_open) (A205 : Option Addr) (c206 : Nat), x204 = o207 ∧ FH 277 [(1, .slice A1_0 ((u1).length) c1_0), (5, .int .i64 ((IntKind.i64.wrap (Int.tmod u0 4)))), (6, .pointer (some (⟨b7, 0, none⟩))), (7, .slice A13 ((x31).length) c14), (8, .slice A205 ((x204).length) c206), (9, .int .i64 (x40))] a ∧ St M w0 [⟨b7, Tshadow_Shadow.enc x197.1 A199 c200 A201 c202, 134⟩] [⟨k_Tpodestalaw22_open, 55, A205, c206, x204⟩, ⟨(kSl k_TRule), 26, A199, c200, x197.1.base⟩, ⟨k_Tshadow_open, 140, A201, c202, x197.1.open_⟩, ⟨(kSl k_TRule), 26, A13, c14, x31⟩] [fSl k_Tpodestalaw22_Act A1_0 c1_0 u1] W) (fun a W hJ => ?_) ?_
                ·
                 obtain ⟨x204, A205, c206, rfl, hF, hS⟩ := hJ
                 have h := hk208
                 have hS := hS.perm (List.Perm.refl _) (.trans (.swap _ _ _) (.cons _ (.trans (.swap _ _ _) (List.Perm.refl _))))
                 obtain rfl := si h
                 exact then_j ⟨x31, x197.1, x204, A199, c200, A201, c202, A205, c206, rfl, (hF.keep ⟨rfl, rfl, rfl, rfl, rfl, rfl, trivial⟩), hS⟩
                ·
                 refine wi hF rfl h (fun h => ?_) fun h => ?_
                 ·
                  refine wg <| mv hF rfl rfl fun a hF => fv hF rfl pf53_1 rfl fun a hF => lv hF rfl pa3 (hS.bc (i := 1) rfl) rfl rfl rfl fun a hF => fv hF rfl pf53_2 rfl fun a hF => lv hF rfl pa28 (hS.bc (i := 1) rfl) rfl rfl rfl fun a hF => sv (v_build (parts := [(0, .tmp 165), (1, .tmp 167)]) (out := Tpodestalaw22_open.enc ({ txn := x74.Txn, l := x74.L } : Tpodestalaw22_open) A80 c81) hF rfl rfl pz55 rfl pp55 rfl) hF rfl fun a hF => sq_buildSlice (κ := k_Tpodestalaw22_open) (xs := [.tmp 168]) (ys := [({ txn := x74.Txn, l := x74.L } : Tpodestalaw22_open)]) hF hS rfl rfl rfl (Els.cons ⟨A80, c81, rfl, (hS.fc (i := 1) rfl)⟩ (Els.nil _ _ _)) rfl psl43 pz55 rfl (by decide) (by decide) (by decide) (fun A210 c211 a W hF hS => ?_)
                  obtain ⟨x214, hx215, h⟩ := bindS h
                  refine sq_append (ys := ([({ txn := x74.Txn, l := x74.L } : Tpodestalaw22_open)])) hF hS (i := 3) rfl rfl rfl (hS.rw_ (i := 0) rfl).src psl43 pb55 pz55 rfl (by decide) (by decide) hx215 (by decide) (fun A212 c213 a W hF hS => ?_)
                  refine av hF rfl rfl fun a hF => nl ?_
                  have hS := hS.perm (List.Perm.refl _) (.trans (.cons _ (.cons _ (.swap _ _ _))) (.trans (.cons _ (.swap _ _ _)) (.trans (.swap _ _ _) (.cons _ (.trans (.swap _ _ _) (.cons _ (.trans (.swap _ _ _) (.cons _ (.trans (.swap _ _ _) (List.Perm.refl _))))))))))
                  obtain rfl := si h
                  exact then_j ⟨x214, A212, c213, rfl, (hF.keep ⟨rfl, rfl, rfl, rfl, rfl, rfl, trivial⟩), (hS.keep (.cons_cons _ sn) (.cons_cons _ (.cons_cons _ (.cons_cons _ (.cons_cons _ sn)))) ⟨⟨2, rfl⟩, trivial⟩)⟩
                 ·
                  refine sk ?_
                  have hS := hS.perm (List.Perm.refl _) (.trans (.cons _ (.swap _ _ _)) (.trans (.swap _ _ _) (List.Perm.refl _)))
                  obtain rfl := si h
                  exact then_j ⟨x37, A38, c39, rfl, (hF.keep ⟨rfl, rfl, rfl, rfl, rfl, rfl, trivial⟩), (hS.keep (.cons_cons _ sn) sl ⟨⟨2, rfl⟩, trivial⟩)⟩
              ·
               refine wi hF rfl h (fun h => ?_) fun h => ?_
               ·
                refine wg <| av hF rfl rfl fun a hF => nl ?_
                obtain rfl := si h
                exact then_j ⟨5, rfl, (hF.keep ⟨rfl, rfl, rfl, rfl, rfl, rfl, rfl, rfl, trivial⟩), hS⟩
               ·
                refine sk ?_
                obtain rfl := si h
                exact then_j ⟨x191, rfl, (hF.keep ⟨rfl, rfl, rfl, rfl, rfl, rfl, rfl, rfl, trivial⟩), hS⟩
             ·
              refine wb <| wp_loop_fuel (I := fun m a W => ∃ (x189 : Int) (x190 : Int), FH 277 [(1, .slice A1_0 ((u1).length) c1_0), (5, .int .i64 ((IntKind.i64.wrap (Int.tmod u0 4)))), (6, .pointer (some (⟨b7, 0, none⟩))), (7, .slice A13 ((x31).length) c14), (8, .slice A38 ((x37).length) c39), (9, .int .i64 (x40)), (10, .pointer (some (⟨b86, 0, none⟩))), (11, .int .i64 (x93)), (13, .int .i64 (x189)), (14, .int .i64 (x190))] a ∧ St M w0 [⟨b86, Tpodestalaw22_Act.enc x74 A80 c81 A83 c84, 53⟩, ⟨b7, Tshadow_Shadow.enc x32 A33 c34 A35 c36, 134⟩] [⟨(kSl k_TRule), 26, A33, c34, x32.base⟩, ⟨k_Tshadow_open, 140, A35, c36, x32.open_⟩, ⟨k_Tpodestalaw22_open, 55, A38, c39, x37⟩, ⟨(kSl k_TRule), 26, A13, c14, x31⟩] [fSl k_TAct A83 c84 x74.Rule.Acts, fSl k_TChange A80 c81 x74.L, fSl k_Tpodestalaw22_Act A1_0 c1_0 u1] W ∧ (law22_ShadowPlays.l4 k u0 x74 m x189 x190) = some o192) ?_ (k := k) ⟨0, 0, (hF.keep ⟨rfl, rfl, rfl, rfl, rfl, rfl, rfl, rfl, rfl, rfl, trivial⟩), hS, h⟩
              rintro m217 a W ⟨x189, x190, hF, hS, h⟩
              cases m217 with
              | zero => cases h
              | succ m217 =>
               rw [law22_ShadowPlays.l4] at h
               refine wq <| wq <| wg <| mv hF rfl rfl fun a hF => fv hF rfl pf53_2 rfl fun a hF => lv hF rfl pa28 (hS.bc (i := 0) rfl) rfl rfl rfl fun a hF => sv (v_len hF rfl pu28) hF rfl fun a hF => sv (v_lss hF rfl rfl) hF rfl fun a hF => nl <| tn <| wi hF rfl h (fun h => ?_) fun h => ?_
               ·
                refine sk <| tn <| wq ?_
                obtain ⟨o220, h, hk221⟩ := bindS h
                refine wp_join (fun a W => ∃ (x219 : Int), x219 = o220 ∧ FH 277 [(1, .slice A1_0 ((u1).length) c1_0), (5, .int .i64 ((IntKind.i64.wrap (Int.tmod u0 4)))), (6, .pointer (some (⟨b7, 0, none⟩))), (7, .slice A13 ((x31).length) c14), (8, .slice A38 ((x37).length) c39), (9, .int .i64 (x40)), (10, .pointer (some (⟨b86, 0, none⟩))), (11, .int .i64 (x93)), (13, .int .i64 (x219)), (14, .int .i64 (x190))] a ∧ St M w0 [⟨b86, Tpodestalaw22_Act.enc x74 A80 c81 A83 c84, 53⟩, ⟨b7, Tshadow_Shadow.enc x32 A33 c34 A35 c36, 134⟩] [⟨(kSl k_TRule), 26, A33, c34, x32.base⟩, ⟨k_Tshadow_open, 140, A35, c36, x32.open_⟩, ⟨k_Tpodestalaw22_open, 55, A38, c39, x37⟩, ⟨(kSl k_TRule), 26, A13, c14, x31⟩] [fSl k_TAct A83 c84 x74.Rule.Acts, fSl k_TChange A80 c81 x74.L, fSl k_Tpodestalaw22_Act A1_0 c1_0 u1] W) (fun a W hJ => ?_) ?_
                ·
                 obtain ⟨x219, rfl, hF, hS⟩ := hJ
                 have h := hk221
                 exact tn <| wg <| mv hF rfl rfl fun a hF => sv (v_add hF rfl rfl) hF rfl fun a hF => av hF rfl rfl fun a hF => nl <| then_j ⟨m217, Nat.lt_succ_self _, x219, (IntKind.i64.wrap (x190 + 1)), (hF.keep ⟨rfl, rfl, rfl, rfl, rfl, rfl, rfl, rfl, rfl, rfl, trivial⟩), hS, h⟩
                ·
                 refine wb <| wq <| wg <| fv hF rfl pf53_2 rfl fun a hF => lv hF rfl pa28 (hS.bc (i := 0) rfl) rfl rfl rfl fun a hF => mv hF rfl rfl fun a hF => ?_
                 obtain ⟨x222, hx223, h⟩ := bindS h
                 obtain ⟨p224, cs225, hA226, hat227⟩ := SlR.at (hS.fc (i := 1) rfl) hx223
                 obtain ⟨A228, c229, rfl, hs230⟩ := hat227.2.2.2
                 have hS := hS.addFact (f := fAt k_TChange (p224.add (x190.toNat * 32)) (TChange.enc x222 A228 c229) x222) hat227
                 have hS := hS.addFact (f := fSl k_TAct A228 c229 x222.Mod.Acts) hs230
                 refine sv (v_idx hF rfl hA226 rfl psl28 hx223) hF rfl fun a hF => fv hF rfl pf59_0 rfl fun a hF => lv hF rfl pa3 (hS.pc (i := 1) rfl) rfl rfl rfl fun a hF => sv (v_lss hF rfl rfl) hF rfl fun a hF => mv hF rfl rfl fun a hF => gor 8 7 141 ((decide ((IntKind.i64.wrap (Int.tmod u0 4)) ≤ x222.Unit))) hF rfl rfl rfl rfl rfl (fun _ => ?_) (fun a hF => ?_)
                 ·
                  refine fv hF rfl pf53_2 rfl fun a hF => lv hF rfl pa28 (hS.bc (i := 0) rfl) rfl rfl rfl fun a hF => mv hF rfl rfl fun a hF => ?_
                  obtain ⟨p232, cs233, hA234, hat235⟩ := SlR.at (hS.fc (i := 3) rfl) hx223
                  obtain ⟨A236, c237, rfl, hs238⟩ := hat235.2.2.2
                  have hS := hS.addFact (f := fAt k_TChange (p232.add (x190.toNat * 32)) (TChange.enc x222 A236 c237) x222) hat235
                  have hS := hS.addFact (f := fSl k_TAct A236 c237 x222.Mod.Acts) hs238
                  exact sv (v_idx hF rfl hA234 rfl psl28 hx223) hF rfl fun a hF => fv hF rfl pf59_0 rfl fun a hF => lv hF rfl pa3 (hS.pc (i := 1) rfl) rfl rfl rfl fun a hF => mv hF rfl rfl fun a hF => sv (v_geq hF rfl rfl) hF rfl fun a hF => gq 8 hF rfl rfl rfl
                 ·
                  refine nl <| tn ?_
                  obtain ⟨o240, h, hk241⟩ := bindS h
                  refine wp_join (fun a W => ∃ (x239 : Int), x239 = o240 ∧ FH 277 [(1, .slice A1_0 ((u1).length) c1_0), (5, .int .i64 ((IntKind.i64.wrap (Int.tmod u0 4)))), (6, .pointer (some (⟨b7, 0, none⟩))), (7, .slice A13 ((x31).length) c14), (8, .slice A38 ((x37).length) c39), (9, .int .i64 (x40)), (10, .pointer (some (⟨b86, 0, none⟩))), (11, .int .i64 (x93)), (13, .int .i64 (x239)), (14, .int .i64 (x190))] a ∧ St M w0 [⟨b86, Tpodestalaw22_Act.enc x74 A80 c81 A83 c84, 53⟩, ⟨b7, Tshadow_Shadow.enc x32 A33 c34 A35 c36, 134⟩] [⟨(kSl k_TRule), 26, A33, c34, x32.base⟩, ⟨k_Tshadow_open, 140, A35, c36, x32.open_⟩, ⟨k_Tpodestalaw22_open, 55, A38, c39, x37⟩, ⟨(kSl k_TRule), 26, A13, c14, x31⟩] [fSl k_TAct A83 c84 x74.Rule.Acts, fSl k_TChange A80 c81 x74.L, fSl k_Tpodestalaw22_Act A1_0 c1_0 u1] W) (fun a W hJ => ?_) ?_
                  ·
                   obtain ⟨x239, rfl, hF, hS⟩ := hJ
                   have h := hk241
                   refine bn ?_
                   obtain rfl := si h
                   exact then_j ⟨x239, rfl, (hF.keep ⟨rfl, rfl, rfl, rfl, rfl, rfl, rfl, rfl, rfl, rfl, trivial⟩), hS⟩
                  ·
                   refine wi hF rfl h (fun h => ?_) fun h => ?_
                   ·
                    refine wg <| av hF rfl rfl fun a hF => nl ?_
                    obtain rfl := si h
                    exact then_j ⟨1, rfl, (hF.keep ⟨rfl, rfl, rfl, rfl, rfl, rfl, rfl, rfl, rfl, rfl, trivial⟩), (hS.keep sl sl ⟨⟨2, rfl⟩, ⟨3, rfl⟩, ⟨4, rfl⟩, trivial⟩)⟩
                   ·
                    refine sk ?_
                    obtain rfl := si h
                    exact then_j ⟨x189, rfl, (hF.keep ⟨rfl, rfl, rfl, rfl, rfl, rfl, rfl, rfl, rfl, rfl, trivial⟩), (hS.keep sl sl ⟨⟨2, rfl⟩, ⟨3, rfl⟩, ⟨4, rfl⟩, trivial⟩)⟩
               ·
                refine wp_exit <| tx <| tx <| bh ?_
                obtain rfl := si h
                exact then_j ⟨x189, rfl, (hF.keep ⟨rfl, rfl, rfl, rfl, rfl, rfl, rfl, rfl, rfl, trivial⟩), hS⟩
            ·
             refine wq <| wq <| wg <| sv (v_eql hF rfl rfl) hF rfl fun a hF => av hF rfl rfl fun a hF => nl <| tn ?_
             obtain ⟨o244, h, hk245⟩ := bindS h
             refine wp_join (fun a W => ∃ (x243 : Bool), x243 = o244 ∧ FH 277 [(1, .slice A1_0 ((u1).length) c1_0), (5, .int .i64 ((IntKind.i64.wrap (Int.tmod u0 4)))), (6, .pointer (some (⟨b7, 0, none⟩))), (7, .slice A13 ((x31).length) c14), (8, .slice A38 ((x37).length) c39), (9, .int .i64 (x40)), (10, .pointer (some (⟨b86, 0, none⟩))), (11, .int .i64 (x93)), (13, .int .i64 (0)), (171, .bool (x243))] a ∧ St M w0 [⟨b86, Tpodestalaw22_Act.enc x74 A80 c81 A83 c84, 53⟩, ⟨b7, Tshadow_Shadow.enc x32 A33 c34 A35 c36, 134⟩] [⟨(kSl k_TRule), 26, A33, c34, x32.base⟩, ⟨k_Tshadow_open, 140, A35, c36, x32.open_⟩, ⟨k_Tpodestalaw22_open, 55, A38, c39, x37⟩, ⟨(kSl k_TRule), 26, A13, c14, x31⟩] [fSl k_TAct A83 c84 x74.Rule.Acts, fSl k_TChange A80 c81 x74.L, fSl k_Tpodestalaw22_Act A1_0 c1_0 u1] W) (fun a W hJ => ?_) ?_
             ·
              obtain ⟨x243, rfl, hF, hS⟩ := hJ
              have h := hk245
              refine tn ?_
              obtain ⟨o255, h, hk256⟩ := bindS h
              refine wp_join (fun a W => ∃ (x246 : List (List TRule)) (x247 : Tshadow_Shadow) (x252 : List Tpodestalaw22_open) (A248 : Option Addr) (c249 : Nat) (A250 : Option Addr) (c251 : Nat) (A253 : Option Addr) (c254 : Nat), Lo.brk (x246, x247, x252) = o255 ∧ FH 277 [(1, .slice A1_0 ((u1).length) c1_0), (5, .int .i64 ((IntKind.i64.wrap (Int.tmod u0 4)))), (6, .pointer (some (⟨b7, 0, none⟩))), (7, .slice A13 ((x246).length) c14), (8, .slice A253 ((x252).length) c254), (9, .int .i64 (x40))] a ∧ St M w0 [⟨b7, Tshadow_Shadow.enc x247 A248 c249 A250 c251, 134⟩] [⟨(kSl k_TRule), 26, A248, c249, x247.base⟩, ⟨k_Tshadow_open, 140, A250, c251, x247.open_⟩, ⟨k_Tpodestalaw22_open, 55, A253, c254, x252⟩, ⟨(kSl k_TRule), 26, A13, c14, x246⟩] [fSl k_Tpodestalaw22_Act A1_0 c1_0 u1] W) (fun a W hJ => ?_) ?_
              ·
               obtain ⟨x246, x247, x252, A248, c249, A250, c251, A253, c254, rfl, hF, hS⟩ := hJ
               have h := hk256
               dsimp only at h
               obtain rfl := si h
               exact then_j ⟨x246, x247, x252, A248, c249, A250, c251, A253, c254, rfl, (hF.keep ⟨rfl, rfl, rfl, rfl, rfl, rfl, trivial⟩), hS⟩
              ·
               refine wi hF rfl h (fun h => ?_) fun h => ?_
               ·
                refine wq <| wq <| wg <| mv hF rfl rfl fun a hF => sv (v_lss hF rfl rfl) hF rfl fun a hF => nl <| tn ?_
                obtain ⟨o259, h, hk260⟩ := bindS h
                refine wp_join (fun a W => ∃ (x258 : Int), x258 = o259 ∧ FH 277 [(1, .slice A1_0 ((u1).length) c1_0), (5, .int .i64 ((IntKind.i64.wrap (Int.tmod u0 4)))), (6, .pointer (some (⟨b7, 0, none⟩))), (7, .slice A13 ((x31).length) c14), (8, .slice A38 ((x37).length) c39), (9, .int .i64 (x40)), (10, .pointer (some (⟨b86, 0, none⟩))), (11, .int .i64 (x93)), (13, .int .i64 (x258))] a ∧ St M w0 [⟨b86, Tpodestalaw22_Act.enc x74 A80 c81 A83 c84, 53⟩, ⟨b7, Tshadow_Shadow.enc x32 A33 c34 A35 c36, 134⟩] [⟨(kSl k_TRule), 26, A33, c34, x32.base⟩, ⟨k_Tshadow_open, 140, A35, c36, x32.open_⟩, ⟨k_Tpodestalaw22_open, 55, A38, c39, x37⟩, ⟨(kSl k_TRule), 26, A13, c14, x31⟩] [fSl k_TAct A83 c84 x74.Rule.Acts, fSl k_TChange A80 c81 x74.L, fSl k_Tpodestalaw22_Act A1_0 c1_0 u1] W) (fun a W hJ => ?_) ?_
                ·
                 obtain ⟨x258, rfl, hF, hS⟩ := hJ
                 have h := hk260
                 refine tn <| wq <| wg <| av hF rfl rfl fun a hF => nl <| tn <| wq <| wq <| wg <| fv hF rfl pf53_0 rfl fun a hF => lv hF rfl pa3 (hS.bc (i := 0) rfl) rfl rfl rfl fun a hF => sv (v_eql hF rfl rfl) hF rfl fun a hF => nl <| tn ?_
                 obtain ⟨o267, h, hk268⟩ := bindS h
                 refine wp_join (fun a W => ∃ (x261 : Tshadow_Shadow) (x266 : Int) (A262 : Option Addr) (c263 : Nat) (A264 : Option Addr) (c265 : Nat), (x261, x266) = o267 ∧ FH 277 [(1, .slice A1_0 ((u1).length) c1_0), (5, .int .i64 ((IntKind.i64.wrap (Int.tmod u0 4)))), (6, .pointer (some (⟨b7, 0, none⟩))), (7, .slice A13 ((x31).length) c14), (8, .slice A38 ((x37).length) c39), (9, .int .i64 (x40)), (10, .pointer (some (⟨b86, 0, none⟩))), (11, .int .i64 (x93)), (13, .int .i64 (x258)), (15, .int .i64 (x266))] a ∧ St M w0 [⟨b7, Tshadow_Shadow.enc x261 A262 c263 A264 c265, 134⟩, ⟨b86, Tpodestalaw22_Act.enc x74 A80 c81 A83 c84, 53⟩] [⟨(kSl k_TRule), 26, A262, c263, x261.base⟩, ⟨k_Tshadow_open, 140, A264, c265, x261.open_⟩, ⟨k_Tpodestalaw22_open, 55, A38, c39, x37⟩, ⟨(kSl k_TRule), 26, A13, c14, x31⟩] [fSl k_TAct A83 c84 x74.Rule.Acts, fSl k_TChange A80 c81 x74.L, fSl k_Tpodestalaw22_Act A1_0 c1_0 u1] W) (fun a W hJ => ?_) ?_
                 ·
                  obtain ⟨x261, x266, A262, c263, A264, c265, rfl, hF, hS⟩ := hJ
                  have h := hk268
                  dsimp only at h
                  refine tn <| wq <| wq <| wg <| mv hF rfl rfl fun a hF => mv hF rfl rfl fun a hF => sv (v_neq hF rfl rfl) hF rfl fun a hF => nl <| tn <| wi hF rfl h (fun h => ?_) fun h => ?_
                  ·
                   refine wq <| wg <| av hF rfl rfl fun a hF => nl <| tn <| rt <| tr <| tr <| tr <| br <| tr <| tr <| br <| tr <| tr <| tr <| br <| tr <| tr ?_
                   obtain rfl := si h
                   have h := hk256
                   dsimp only at h
                   obtain rfl := si h
                   have h := hk185
                   dsimp only at h
                   obtain rfl := si h
                   have h := hk106
                   dsimp only at h
                   obtain rfl := si h
                   have h := hk73
                   dsimp only at h
                   obtain rfl := si h
                   have h := hk50
                   dsimp only at h
                   obtain rfl := si h
                   exact ret1 hF rfl (rv_tmp hF rfl) ⟨_, rfl, rfl, (hS.keep sn sn trivial)⟩
                  ·
                   refine sk <| tn <| wq <| wq <| wg <| av hF rfl rfl fun a hF => nl <| tn ?_
                   obtain ⟨o276, h, hk277⟩ := bindS h
                   refine wp_join (fun a W => ∃ (x275 : List (List TRule)), x275 = o276 ∧ FH 277 [(1, .slice A1_0 ((u1).length) c1_0), (5, .int .i64 ((IntKind.i64.wrap (Int.tmod u0 4)))), (6, .pointer (some (⟨b7, 0, none⟩))), (7, .slice A13 ((x275).length) c14), (8, .slice A38 ((x37).length) c39), (9, .int .i64 (x40)), (11, .int .i64 (x93))] a ∧ St M w0 [⟨b7, Tshadow_Shadow.enc x261 A262 c263 A264 c265, 134⟩] [⟨(kSl k_TRule), 26, A262, c263, x261.base⟩, ⟨k_Tshadow_open, 140, A264, c265, x261.open_⟩, ⟨k_Tpodestalaw22_open, 55, A38, c39, x37⟩, ⟨(kSl k_TRule), 26, A13, c14, x275⟩] [fSl k_Tpodestalaw22_Act A1_0 c1_0 u1] W) (fun a W hJ => ?_) ?_
                   ·
                    obtain ⟨x275, rfl, hF, hS⟩ := hJ
                    have h := hk277
                    refine tn <| wq <| wg <| mv hF rfl rfl fun a hF => sv (v_geq hF rfl rfl) hF rfl fun a hF => nl <| tn ?_
                    obtain ⟨o281, h, hk282⟩ := bindS h
                    refine wp_join (fun a W => ∃ (x278 : List Tpodestalaw22_open) (A279 : Option Addr) (c280 : Nat), x278 = o281 ∧ FH 277 [(1, .slice A1_0 ((u1).length) c1_0), (5, .int .i64 ((IntKind.i64.wrap (Int.tmod u0 4)))), (6, .pointer (some (⟨b7, 0, none⟩))), (7, .slice A13 ((x275).length) c14), (8, .slice A279 ((x278).length) c280), (9, .int .i64 (x40))] a ∧ St M w0 [⟨b7, Tshadow_Shadow.enc x261 A262 c263 A264 c265, 134⟩] [⟨k_Tpodestalaw22_open, 55, A279, c280, x278⟩, ⟨(kSl k_TRule), 26, A262, c263, x261.base⟩, ⟨k_Tshadow_open, 140, A264, c265, x261.open_⟩, ⟨(kSl k_TRule), 26, A13, c14, x275⟩] [fSl k_Tpodestalaw22_Act A1_0 c1_0 u1] W) (fun a W hJ => ?_) ?_
                    ·
                     obtain ⟨x278, A279, c280, rfl, hF, hS⟩ := hJ
                     have h := hk282
                     have hS := hS.perm (List.Perm.refl _) (.trans (.swap _ _ _) (.cons _ (.trans (.swap _ _ _) (List.Perm.refl _))))
                     obtain rfl := si h
                     exact then_j ⟨x275, x261, x278, A262, c263, A264, c265, A279, c280, rfl, (hF.keep ⟨rfl, rfl, rfl, rfl, rfl, rfl, trivial⟩), hS⟩
                    ·
                     refine wi hF rfl h (fun h => ?_) fun h => ?_
                     ·
                      have hS := hS.freeze (i := 2) rfl (posB rfl)
                      refine wp_drawn (fun _ => St M w0 [⟨b7, Tshadow_Shadow.enc x261 A262 c263 A264 c265, 134⟩] [] [fSl k_Tpodestalaw22_open A38 c39 x37, fSl k_Tpodestalaw22_Act A1_0 c1_0 u1]) (fun _ => false) rfl hS (fun W hB0 hR0 => ?_)
                      have hS := hR0
                      refine eqc (hS.keep sl sn ⟨⟨0, rfl⟩, ⟨1, rfl⟩, trivial⟩) fun hQC => e_val' 1 rfl (by kernel_rfl) (fun W => (v_move hF rfl)) hF rfl fun a hF => e_val' 2 rfl (by kernel_rfl) (fun W => (v_move hF rfl)) hF rfl fun a hF => ?_
                      obtain ⟨hb284, h⟩ := ifS h
                      refine e_val' 3 rfl (by kernel_rfl) (fun W => (v_slice (κ := k_Tpodestalaw22_open) (lo := 0) (hi := x93.toNat) hF rfl rfl rfl psl43 (.inl ⟨rfl, rfl⟩) (.inr ⟨_, _, rfl, by omega, rfl⟩) (by omega) (by omega) (hS.fc (i := 0) rfl).1)) hF rfl fun a hF => ?_
                      have hcut287 := SlR.cut (xs := x37) (hS.fc (i := 0) rfl) (lo := 0) (hi := x93.toNat) (by omega) (by omega)
                      generalize (if c39 = 0 then A38 else Option.map (fun (q : Addr) => q.add (0 * (k_Tpodestalaw22_open).sz)) A38) = A285 at hF hcut287
                      generalize c39 - 0 = c286 at hF hcut287
                      have hS := hS.addFact (f := fSl k_Tpodestalaw22_open A285 c286 ((x37.take x93.toNat).drop 0)) hcut287
                      refine e_val' 5 rfl (by kernel_rfl) (fun W => (v_move hF rfl)) hF rfl fun a hF => e_val' 6 rfl (by kernel_rfl) (fun W => (v_move hF rfl)) hF rfl fun a hF => e_val' 7 rfl (by kernel_rfl) (fun W => (v_add hF rfl rfl)) hF rfl fun a hF => ?_
                      obtain ⟨hb288, h⟩ := ifS h
                      refine e_val' 8 rfl (by kernel_rfl) (fun W => (v_slice (κ := k_Tpodestalaw22_open) (lo := (IntKind.i64.wrap (x93 + 1)).toNat) (hi := x37.length) hF rfl rfl rfl psl43 (.inr ⟨_, _, rfl, by omega, rfl⟩) (.inl ⟨rfl, rfl⟩) (by omega) (by omega) (hS.fc (i := 1) rfl).1)) hF rfl fun a hF => ?_
                      have hcut291 := SlR.cut (xs := x37) (hS.fc (i := 1) rfl) (lo := (IntKind.i64.wrap (x93 + 1)).toNat) (hi := x37.length) (by omega) (by omega)
                      generalize (if c39 = (IntKind.i64.wrap (x93 + 1)).toNat then A38 else Option.map (fun (q : Addr) => q.add ((IntKind.i64.wrap (x93 + 1)).toNat * (k_Tpodestalaw22_open).sz)) A38) = A289 at hF hcut291
                      generalize c39 - (IntKind.i64.wrap (x93 + 1)).toNat = c290 at hF hcut291
                      have hS := hS.addFact (f := fSl k_Tpodestalaw22_open A289 c290 ((x37.take x37.length).drop (IntKind.i64.wrap (x93 + 1)).toNat)) hcut291
                      refine e_one' 0 rfl (by kernel_rfl) <| sq_buildSlice (κ := k_Tpodestalaw22_open) (xs := []) (ys := ([] : List Tpodestalaw22_open)) hF hS rfl rfl rfl (Els.nil _ _ _) rfl psl43 pz55 rfl (by decide) (by decide) (by decide) (fun A292 c293 a W hF hS => ?_)
                      refine sq_nil (then_j ⟨?_, ?_⟩)
                      · exact fun _ _ => (hS.keep sl sn ⟨⟨2, rfl⟩, ⟨3, rfl⟩, trivial⟩)
                      ·
                       refine eqc (hS.keep sl sn ⟨⟨2, rfl⟩, ⟨3, rfl⟩, trivial⟩) fun hQC => e_one' 4 rfl (by kernel_rfl) ?_
                       obtain ⟨x296, hx297, h⟩ := bindS h
                       refine sq_append (ys := ((x37.take x93.toNat).drop 0)) hF hS (i := 0) rfl rfl rfl (SlR.src (hS.fc (i := 1) rfl)) psl43 pb55 pz55 rfl (by decide) (by decide) hx297 (by decide) (fun A294 c295 a W hF hS => ?_)
                       refine sq_nil (then_j ⟨?_, ?_⟩)
                       · exact fun _ _ => (hS.keep sl sn ⟨⟨2, rfl⟩, ⟨3, rfl⟩, trivial⟩)
                       ·
                        refine e_one' 9 rfl (by kernel_rfl) ?_
                        obtain ⟨x300, hx301, h⟩ := bindS h
                        refine sq_append (ys := ((x37.take x37.length).drop (IntKind.i64.wrap (x93 + 1)).toNat)) hF hS (i := 0) rfl rfl rfl (SlR.src (hS.fc (i := 0) rfl)) psl43 pb55 pz55 rfl (by decide) (by decide) hx301 (by decide) (fun A298 c299 a W hF hS => ?_)
                        refine sq_nil (then_j ⟨?_, ?_⟩)
                        · exact fun _ _ => (hS.keep sl sn ⟨⟨2, rfl⟩, ⟨3, rfl⟩, trivial⟩)
                        ·
                         refine e_val' 10 rfl (by kernel_rfl) (fun W => (v_assign hF rfl)) hF rfl fun a hF => e_done (by kernel_rfl) ?_ _
                         obtain rfl := si h
                         exact then_j ⟨x300, A298, c299, rfl, (hF.keep ⟨rfl, rfl, rfl, rfl, rfl, rfl, trivial⟩), (hS.keep sl sl ⟨⟨3, rfl⟩, trivial⟩)⟩
                     ·
                      refine sk ?_
                      have hS := hS.perm (List.Perm.refl _) (.trans (.cons _ (.swap _ _ _)) (.trans (.swap _ _ _) (List.Perm.refl _)))
                      obtain rfl := si h
                      exact then_j ⟨x37, A38, c39, rfl, (hF.keep ⟨rfl, rfl, rfl, rfl, rfl, rfl, trivial⟩), hS⟩
                   ·
                    refine wb <| wp_loop_fuel (I := fun m a W => ∃ (x273 : List (List TRule)) (x274 : Int), FH 277 [(1, .slice A1_0 ((u1).length) c1_0), (5, .int .i64 ((IntKind.i64.wrap (Int.tmod u0 4)))), (6, .pointer (some (⟨b7, 0, none⟩))), (7, .slice A13 ((x273).length) c14), (8, .slice A38 ((x37).length) c39), (9, .int .i64 (x40)), (10, .pointer (some (⟨b86, 0, none⟩))), (11, .int .i64 (x93)), (16, .int .i64 (x274))] a ∧ St M w0 [⟨b7, Tshadow_Shadow.enc x261 A262 c263 A264 c265, 134⟩, ⟨b86, Tpodestalaw22_Act.enc x74 A80 c81 A83 c84, 53⟩] [⟨(kSl k_TRule), 26, A262, c263, x261.base⟩, ⟨k_Tshadow_open, 140, A264, c265, x261.open_⟩, ⟨k_Tpodestalaw22_open, 55, A38, c39, x37⟩, ⟨(kSl k_TRule), 26, A13, c14, x273⟩] [fSl k_TAct A83 c84 x74.Rule.Acts, fSl k_TChange A80 c81 x74.L, fSl k_Tpodestalaw22_Act A1_0 c1_0 u1] W ∧ (law22_ShadowPlays.l5 k u0 x37 x74 x93 m x273 x274) = some o276) ?_ (k := k) ⟨x31, 0, (hF.keep ⟨rfl, rfl, rfl, rfl, rfl, rfl, rfl, rfl, rfl, trivial⟩), hS, h⟩
                    rintro m302 a W ⟨x273, x274, hF, hS, h⟩
                    cases m302 with
                    | zero => cases h
                    | succ m302 =>
                     rw [law22_ShadowPlays.l5] at h
                     refine wq <| wq <| wg <| mv hF rfl rfl fun a hF => mv hF rfl rfl fun a hF => sv (v_lss hF rfl rfl) hF rfl fun a hF => mv hF rfl rfl fun a hF => gand 2 3 193 ((decide (0 ≤ x93))) hF rfl rfl rfl rfl rfl (fun _ => ?_) (fun a hF => ?_)
                     ·
                      exact mv hF rfl rfl fun a hF => sv (v_geq hF rfl rfl) hF rfl fun a hF => gq 2 hF rfl rfl rfl
                     ·
                      refine mv hF rfl rfl fun a hF => gand 3 7 197 ((x74.What == 1)) hF rfl rfl rfl rfl rfl (fun _ => ?_) (fun a hF => ?_)
                      ·
                       exact fv hF rfl pf53_0 rfl fun a hF => lv hF rfl pa3 (hS.bc (i := 1) rfl) rfl rfl rfl fun a hF => sv (v_eql hF rfl rfl) hF rfl fun a hF => gq 3 hF rfl rfl rfl
                      ·
                       refine nl <| tn <| wi hF rfl h (fun h => ?_) fun h => ?_
                       ·
                        refine sk <| tn <| wq <| wb <| wp_drawn (QC M w0 [⟨b7, Tshadow_Shadow.enc x261 A262 c263 A264 c265, 134⟩, ⟨b86, Tpodestalaw22_Act.enc x74 A80 c81 A83 c84, 53⟩] [⟨(kSl k_TRule), 26, A262, c263, x261.base⟩, ⟨k_Tshadow_open, 140, A264, c265, x261.open_⟩, ⟨k_Tpodestalaw22_open, 55, A38, c39, x37⟩, ⟨(kSl k_TRule), 26, A13, c14, x273⟩] [fSl k_TAct A83 c84 x74.Rule.Acts, fSl k_TChange A80 c81 x74.L, fSl k_Tpodestalaw22_Act A1_0 c1_0 u1]) (fun q => Nat.beq q 15) rfl hS (fun W hB0 hR0 => ?_)
                        have hS := hR0
                        refine eqc ⟨Bl.refl _ _, hS⟩ fun hQC => e_val' 0 rfl (by kernel_rfl) (fun W => (v_move hF rfl)) hF rfl fun a hF => e_val' 1 rfl (by kernel_rfl) (fun W => (v_move hF rfl)) hF rfl fun a hF => e_val' 2 rfl (by kernel_rfl) (fun W => (v_move hF rfl)) hF rfl fun a hF => e_val' 3 rfl (by kernel_rfl) (fun W => (v_move hF rfl)) hF rfl fun a hF => ?_
                        obtain ⟨x306, hx307, h⟩ := bindS h
                        obtain ⟨p308, cs309, hA310, hc312, hr313⟩ := Row.ok.at (hR0.rw_ (i := 3) rfl) hx307
                        obtain ⟨A314, c315, rfl, hs316⟩ := hr313
                        refine e_val' 4 rfl (by kernel_rfl) (fun W => (v_idx hF rfl hA310 rfl psl42 hx307)) hF rfl fun a hF => e_valS' 5 rfl (by kernel_rfl) (fun W hC => (v_load1 hF rfl pa26 (hc312.grow hC.1))) hQC (by kernel_rfl) hF rfl fun a hF => e_val' 6 rfl (by kernel_rfl) (fun W => (v_move hF rfl)) hF rfl fun a hF => e_val' 7 rfl (by kernel_rfl) (fun W => (v_move hF rfl)) hF rfl fun a hF => ?_
                        obtain ⟨x317, hx318, h⟩ := bindS h
                        obtain ⟨p319, cs320, hA321, hc323, hr324⟩ := Row.ok.at (hR0.rw_ (i := 2) rfl) hx318
                        obtain ⟨A325, c326, rfl, hs327⟩ := hr324
                        refine e_val' 8 rfl (by kernel_rfl) (fun W => (v_idx hF rfl hA321 rfl psl43 hx318)) hF rfl fun a hF => e_val' 9 rfl (by kernel_rfl) (fun W => (v_fieldAddr hF rfl pf55_1)) hF rfl fun a hF => e_valS' 10 rfl (by kernel_rfl) (fun W hC => (v_load1 hF rfl pa28 (cells_sub (vs := [.slice A325 ((x317.l).length) c326]) (hc323.grow hC.1) rfl rfl))) hQC (by kernel_rfl) hF rfl fun a hF => e_val' 11 rfl (by kernel_rfl) (fun W => (v_move hF rfl)) hF rfl fun a hF => e_one' 12 rfl (by kernel_rfl) ?_
                        have hS := hS.addFact (f := fSl k_TRule A314 c315 x306) hs316
                        have hS := hS.addFact (f := fSl k_TChange A325 c326 x317.l) hs327
                        obtain ⟨x328, hx329, h⟩ := bindS h
                        refine sq_call hF pc15 rfl (by decide) (ok_ref19_For k (hS.enter ⟨⟨0, rfl⟩, trivial⟩) hx329) (fun v W hR a hF => ?_)
                        obtain ⟨A330, c331, rfl, hT332⟩ := hR
                        have hS := hS.join hT332
                        refine sq_nil (then_j ⟨?_, ?_⟩)
                        · exact fun hQ0 _ => hQ0.next hT332.below
                        ·
                         have hQC := hQC.next hT332.below
                         refine e_one' 13 rfl (by kernel_rfl) ?_
                         have hS := hS.freeze (i := 0) rfl (posB rfl)
                         obtain ⟨x333, hx334, h⟩ := bindS h
                         refine sq_call hF pc14 rfl (by decide) (ok_ref04_Laid k (hS.enter ⟨⟨2, rfl⟩, ⟨0, rfl⟩, trivial⟩) hx334) (fun v W hR a hF => ?_)
                         obtain ⟨A335, c336, rfl, hT337⟩ := hR
                         have hS := hS.join hT337
                         refine sq_nil (then_j ⟨?_, ?_⟩)
                         · exact fun hQ0 _ => hQ0.next hT337.below
                         ·
                          have hQC := hQC.next hT337.below
                          obtain ⟨p338, cs339, hA340, hc342, hr343⟩ := Row.ok.at (hR0.rw_ (i := 3) rfl) hx307
                          obtain ⟨A344, c345, rfl, hs346⟩ := hr343
                          refine e_val' 14 rfl (by kernel_rfl) (fun W => (v_idx hF rfl hA340 rfl psl42 hx307)) hF rfl fun a hF => e_one' 15 rfl (by kernel_rfl) <| sq_storeEl hF hS (i := 3) rfl hA340 rfl hx307 rfl rfl ps26 ⟨A335, c336, rfl, (hS.fc (i := 0) rfl)⟩ (fun W hS => ?_)
                          have hF : FH 277 [(1, .slice A1_0 ((u1).length) c1_0), (5, .int .i64 ((IntKind.i64.wrap (Int.tmod u0 4)))), (6, .pointer (some (⟨b7, 0, none⟩))), (7, .slice A13 (((x273.set x274.toNat x333)).length) c14), (8, .slice A38 ((x37).length) c39), (9, .int .i64 (x40)), (10, .pointer (some (⟨b86, 0, none⟩))), (11, .int .i64 (x93)), (16, .int .i64 (x274)), (190, .int .i64 (x274)), (191, .int .i64 ((IntKind.i64.wrap (Int.tmod u0 4)))), (192, .bool ((decide (x274 < (IntKind.i64.wrap (Int.tmod u0 4)))))), (193, .bool ((decide (x274 < (IntKind.i64.wrap (Int.tmod u0 4)))))), (196, .bool (((decide (x274 < (IntKind.i64.wrap (Int.tmod u0 4)))) && (decide (0 ≤ x93))))), (197, .bool (((decide (x274 < (IntKind.i64.wrap (Int.tmod u0 4)))) && (decide (0 ≤ x93))))), (201, .bool ((((decide (x274 < (IntKind.i64.wrap (Int.tmod u0 4)))) && (decide (0 ≤ x93))) && (x74.What == 1)))), (204, .slice A13 (((x273.set x274.toNat x333)).length) c14), (205, .int .i64 (x274)), (206, .slice A13 (((x273.set x274.toNat x333)).length) c14), (207, .int .i64 (x274)), (209, .slice A314 ((x306).length) c315), (210, .slice A38 ((x37).length) c39), (211, .int .i64 (x93)), (212, .pointer (some (p319.add (x93.toNat * 2)))), (213, .pointer (some ((p319.add (x93.toNat * 2)).add (1)))), (214, .slice A325 ((x317.l).length) c326), (215, .int .i64 (x274)), (216, .slice A330 ((x328).length) c331), (217, .slice A335 ((x333).length) c336)] a := (hF.keep ⟨rfl, rfl, rfl, (by simp only [List.length_set] <;> rfl), rfl, rfl, rfl, rfl, rfl, rfl, rfl, rfl, rfl, rfl, rfl, rfl, (by simp only [List.length_set] <;> rfl), rfl, (by simp only [List.length_set] <;> rfl), rfl, rfl, rfl, rfl, rfl, rfl, rfl, rfl, rfl, rfl, trivial⟩)
                          refine sq_nil (then_j ⟨?_, ?_⟩)
                          · exact fun _ hE => absurd hE (by decide)
                          ·
                           refine e_done (by kernel_rfl) ?_ _
                           exact bn <| tn <| wg <| mv hF rfl rfl fun a hF => sv (v_add hF rfl rfl) hF rfl fun a hF => av hF rfl rfl fun a hF => nl <| then_j ⟨m302, Nat.lt_succ_self _, (x273.set x274.toNat x333), (IntKind.i64.wrap (x274 + 1)), (hF.keep ⟨rfl, rfl, rfl, rfl, rfl, rfl, rfl, rfl, rfl, trivial⟩), (hS.keep sl sl ⟨⟨4, rfl⟩, ⟨5, rfl⟩, ⟨6, rfl⟩, trivial⟩), h⟩
                       ·
                        refine wp_exit <| tx <| tx <| bh ?_
                        obtain rfl := si h
                        exact then_j ⟨x273, rfl, (hF.keep ⟨rfl, rfl, rfl, rfl, rfl, rfl, rfl, trivial⟩), (hS.keep (.cons_cons _ sn) sl ⟨⟨2, rfl⟩, trivial⟩)⟩
                 ·
                  refine wi hF rfl h (fun h => ?_) fun h => ?_
                  ·
                   refine wg <| mv hF rfl rfl fun a hF => fv hF rfl pf53_1 rfl fun a hF => lv hF rfl pa3 (hS.bc (i := 0) rfl) rfl rfl rfl fun a hF => ?_
                   have hS := hS.perm (.trans (.swap _ _ _) (List.Perm.refl _)) (List.Perm.refl _)
                   obtain ⟨x348, hx349, h⟩ := bindS h
                   refine sq_call hF pc18 rfl (by decide) (ok_shadow_Shadow_Commit k hS hx349) (fun v W hR a hF => ?_)
                   obtain ⟨A350, c351, A352, c353, rfl, hS⟩ := hR
                   refine av hF rfl rfl fun a hF => nl ?_
                   obtain rfl := si h
                   exact then_j ⟨x348.1, x348.2, A350, c351, A352, c353, rfl, (hF.keep ⟨rfl, rfl, rfl, rfl, rfl, rfl, rfl, rfl, rfl, rfl, trivial⟩), hS⟩
                  ·
                   refine wg <| mv hF rfl rfl fun a hF => fv hF rfl pf53_1 rfl fun a hF => lv hF rfl pa3 (hS.bc (i := 0) rfl) rfl rfl rfl fun a hF => ?_
                   have hS := hS.perm (.trans (.swap _ _ _) (List.Perm.refl _)) (List.Perm.refl _)
                   obtain ⟨x354, hx355, h⟩ := bindS h
                   refine sq_call hF pc21 rfl (by decide) (ok_shadow_Shadow_Abort k hS hx355) (fun v W hR a hF => ?_)
                   obtain ⟨A356, c357, A358, c359, rfl, hS⟩ := hR
                   refine av hF rfl rfl fun a hF => nl ?_
                   obtain rfl := si h
                   exact then_j ⟨x354.1, x354.2, A356, c357, A358, c359, rfl, (hF.keep ⟨rfl, rfl, rfl, rfl, rfl, rfl, rfl, rfl, rfl, rfl, trivial⟩), hS⟩
                ·
                 refine wi hF rfl h (fun h => ?_) fun h => ?_
                 ·
                  refine wg <| av hF rfl rfl fun a hF => nl ?_
                  obtain rfl := si h
                  exact then_j ⟨4, rfl, (hF.keep ⟨rfl, rfl, rfl, rfl, rfl, rfl, rfl, rfl, rfl, trivial⟩), hS⟩
                 ·
                  refine sk ?_
                  obtain rfl := si h
                  exact then_j ⟨0, rfl, (hF.keep ⟨rfl, rfl, rfl, rfl, rfl, rfl, rfl, rfl, rfl, trivial⟩), hS⟩
               ·
                refine wq <| wg <| av hF rfl rfl fun a hF => nl <| tn <| wq <| wq <| wg <| av hF rfl rfl fun a hF => nl <| tn ?_
                obtain ⟨o371, h, hk372⟩ := bindS h
                refine wp_join (fun a W => ∃ (x369 : List (List TRule)) (x370 : Bool), (x369, x370) = o371 ∧ FH 277 [(1, .slice A1_0 ((u1).length) c1_0), (5, .int .i64 ((IntKind.i64.wrap (Int.tmod u0 4)))), (6, .pointer (some (⟨b7, 0, none⟩))), (7, .slice A13 ((x369).length) c14), (8, .slice A38 ((x37).length) c39), (9, .int .i64 (x40)), (10, .pointer (some (⟨b86, 0, none⟩))), (17, .bool (x370))] a ∧ St M w0 [⟨b86, Tpodestalaw22_Act.enc x74 A80 c81 A83 c84, 53⟩, ⟨b7, Tshadow_Shadow.enc x32 A33 c34 A35 c36, 134⟩] [⟨(kSl k_TRule), 26, A33, c34, x32.base⟩, ⟨k_Tshadow_open, 140, A35, c36, x32.open_⟩, ⟨k_Tpodestalaw22_open, 55, A38, c39, x37⟩, ⟨(kSl k_TRule), 26, A13, c14, x369⟩] [fSl k_TAct A83 c84 x74.Rule.Acts, fSl k_TChange A80 c81 x74.L, fSl k_Tpodestalaw22_Act A1_0 c1_0 u1] W) (fun a W hJ => ?_) ?_
                ·
                 obtain ⟨x369, x370, rfl, hF, hS⟩ := hJ
                 have h := hk372
                 dsimp only at h
                 refine tn <| wq <| wg <| mv hF rfl rfl fun a hF => fv hF rfl pf53_3 rfl fun a hF => lv hF rfl pa3 (hS.bc (i := 0) rfl) rfl rfl rfl fun a hF => fv hF rfl pf53_4 rfl fun a hF => sv (v_load (cs := TRule.enc x74.Rule A83 c84) hF rfl pa51 ps51 (cells_sub (vs := TRule.enc x74.Rule A83 c84) (hS.bc (i := 0) rfl) rfl rfl)) hF rfl fun a hF => ?_
                 have hS := hS.perm (.trans (.swap _ _ _) (List.Perm.refl _)) (List.Perm.refl _)
                 have hS := hS.addFact (f := fSl k_TAct A83 c84 x74.Rule.Acts) (hS.fc (i := 0) rfl)
                 obtain ⟨x373, hx374, h⟩ := bindS h
                 refine sq_call hF pc23 rfl (by decide) (ok_shadow_Shadow_Gone k hS hx374) (fun v W hR a hF => ?_)
                 obtain ⟨A375, c376, A377, c378, rfl, hS⟩ := hR
                 refine mv hF rfl rfl fun a hF => sv (v_neqB hF rfl rfl pu4) hF rfl fun a hF => nl <| tn <| wi hF rfl h (fun h => ?_) fun h => ?_
                 ·
                  refine wq <| wg <| av hF rfl rfl fun a hF => nl <| tn <| rt <| tr <| tr <| br <| tr <| tr <| br <| tr <| tr <| tr <| br <| tr <| tr ?_
                  obtain rfl := si h
                  have h := hk256
                  dsimp only at h
                  obtain rfl := si h
                  have h := hk185
                  dsimp only at h
                  obtain rfl := si h
                  have h := hk106
                  dsimp only at h
                  obtain rfl := si h
                  have h := hk73
                  dsimp only at h
                  obtain rfl := si h
                  have h := hk50
                  dsimp only at h
                  obtain rfl := si h
                  exact ret1 hF rfl (rv_tmp hF rfl) ⟨_, rfl, rfl, (hS.keep sn sn trivial)⟩
                 ·
                  refine sk ?_
                  obtain rfl := si h
                  exact then_j ⟨x369, x373.1, x37, A375, c376, A377, c378, A38, c39, rfl, (hF.keep ⟨rfl, rfl, rfl, rfl, rfl, rfl, trivial⟩), (hS.keep (.cons_cons _ sn) sl ⟨⟨2, rfl⟩, trivial⟩)⟩
                ·
                 refine wb <| wp_loop_fuel (I := fun m a W => ∃ (x366 : List (List TRule)) (x367 : Bool) (x368 : Int), FH 277 [(1, .slice A1_0 ((u1).length) c1_0), (5, .int .i64 ((IntKind.i64.wrap (Int.tmod u0 4)))), (6, .pointer (some (⟨b7, 0, none⟩))), (7, .slice A13 ((x366).length) c14), (8, .slice A38 ((x37).length) c39), (9, .int .i64 (x40)), (10, .pointer (some (⟨b86, 0, none⟩))), (17, .bool (x367)), (18, .int .i64 (x368))] a ∧ St M w0 [⟨b86, Tpodestalaw22_Act.enc x74 A80 c81 A83 c84, 53⟩, ⟨b7, Tshadow_Shadow.enc x32 A33 c34 A35 c36, 134⟩] [⟨(kSl k_TRule), 26, A33, c34, x32.base⟩, ⟨k_Tshadow_open, 140, A35, c36, x32.open_⟩, ⟨k_Tpodestalaw22_open, 55, A38, c39, x37⟩, ⟨(kSl k_TRule), 26, A13, c14, x366⟩] [fSl k_TAct A83 c84 x74.Rule.Acts, fSl k_TChange A80 c81 x74.L, fSl k_Tpodestalaw22_Act A1_0 c1_0 u1] W ∧ (law22_ShadowPlays.l6 k u0 x74 m x366 x367 x368) = some o371) ?_ (k := k) ⟨x31, false, 0, (hF.keep ⟨rfl, rfl, rfl, rfl, rfl, rfl, rfl, rfl, rfl, trivial⟩), hS, h⟩
                 rintro m380 a W ⟨x366, x367, x368, hF, hS, h⟩
                 cases m380 with
                 | zero => cases h
                 | succ m380 =>
                  rw [law22_ShadowPlays.l6] at h
                  refine wq <| wq <| wg <| mv hF rfl rfl fun a hF => mv hF rfl rfl fun a hF => sv (v_lss hF rfl rfl) hF rfl fun a hF => nl <| tn <| wi hF rfl h (fun h => ?_) fun h => ?_
                  ·
                   refine sk <| tn <| wq <| wb <| wq <| wg <| av hF rfl rfl fun a hF => nl <| tn <| wq <| wq <| wg <| av hF rfl rfl fun a hF => nl <| tn ?_
                   obtain ⟨o396, h, hk397⟩ := bindS h
                   refine wp_join (fun a W => ∃ (x392 : Bool) (x393 : List TRule) (A394 : Option Addr) (c395 : Nat), (x392, x393) = o396 ∧ FH 277 [(1, .slice A1_0 ((u1).length) c1_0), (5, .int .i64 ((IntKind.i64.wrap (Int.tmod u0 4)))), (6, .pointer (some (⟨b7, 0, none⟩))), (7, .slice A13 ((x366).length) c14), (8, .slice A38 ((x37).length) c39), (9, .int .i64 (x40)), (10, .pointer (some (⟨b86, 0, none⟩))), (17, .bool (x392)), (18, .int .i64 (x368)), (19, .slice A394 ((x393).length) c395)] a ∧ St M w0 [⟨b86, Tpodestalaw22_Act.enc x74 A80 c81 A83 c84, 53⟩, ⟨b7, Tshadow_Shadow.enc x32 A33 c34 A35 c36, 134⟩] [⟨k_TRule, 51, A394, c395, x393⟩, ⟨(kSl k_TRule), 26, A33, c34, x32.base⟩, ⟨k_Tshadow_open, 140, A35, c36, x32.open_⟩, ⟨k_Tpodestalaw22_open, 55, A38, c39, x37⟩, ⟨(kSl k_TRule), 26, A13, c14, x366⟩] [fSl k_TAct A83 c84 x74.Rule.Acts, fSl k_TChange A80 c81 x74.L, fSl k_Tpodestalaw22_Act A1_0 c1_0 u1] W) (fun a W hJ => ?_) ?_
                   ·
                    obtain ⟨x392, x393, A394, c395, rfl, hF, hS⟩ := hJ
                    have h := hk397
                    dsimp only at h
                    refine tn <| wg <| mv hF rfl rfl fun a hF => mv hF rfl rfl fun a hF => mv hF rfl rfl fun a hF => ?_
                    obtain ⟨x398, hx399, h⟩ := bindS h
                    obtain ⟨p400, cs401, hA402, hc404, hr405⟩ := Row.ok.at (hS.rw_ (i := 4) rfl) hx399
                    obtain ⟨A406, c407, rfl, hs408⟩ := hr405
                    have hS := hS.addFact (f := fSl k_TRule A406 c407 x398) hs408
                    refine sv (v_idx hF rfl hA402 rfl psl42 hx399) hF rfl fun a hF => ?_
                    have hS := hS.freeze (i := 0) rfl (posB rfl)
                    refine sq_storeEl hF hS (i := 3) rfl hA402 rfl hx399 rfl rfl ps26 ⟨A394, c395, rfl, (hS.fc (i := 0) rfl)⟩ (fun W hS => ?_)
                    have hF : FH 277 [(1, .slice A1_0 ((u1).length) c1_0), (5, .int .i64 ((IntKind.i64.wrap (Int.tmod u0 4)))), (6, .pointer (some (⟨b7, 0, none⟩))), (7, .slice A13 (((x366.set x368.toNat x393)).length) c14), (8, .slice A38 ((x37).length) c39), (9, .int .i64 (x40)), (10, .pointer (some (⟨b86, 0, none⟩))), (17, .bool (x392)), (18, .int .i64 (x368)), (19, .slice A394 ((x393).length) c395), (113, .slice A13 (((x366.set x368.toNat x393)).length) c14), (114, .int .i64 (x368)), (115, .slice A394 ((x393).length) c395)] a := (hF.keep ⟨rfl, rfl, rfl, (by simp only [List.length_set] <;> rfl), rfl, rfl, rfl, rfl, rfl, rfl, (by simp only [List.length_set] <;> rfl), rfl, rfl, trivial⟩)
                    exact nl <| bn <| tn <| wg <| mv hF rfl rfl fun a hF => sv (v_add hF rfl rfl) hF rfl fun a hF => av hF rfl rfl fun a hF => nl <| then_j ⟨m380, Nat.lt_succ_self _, (x366.set x368.toNat x393), x392, (IntKind.i64.wrap (x368 + 1)), (hF.keep ⟨rfl, rfl, rfl, rfl, rfl, rfl, rfl, rfl, rfl, trivial⟩), (hS.keep sl sl ⟨⟨2, rfl⟩, ⟨3, rfl⟩, ⟨4, rfl⟩, trivial⟩), h⟩
                   ·
                    have hS := hS.addNil k_TRule 51
                    refine wb <| wp_loop_fuel (I := fun m a W => ∃ (x387 : Bool) (x388 : List TRule) (x391 : Int) (A389 : Option Addr) (c390 : Nat), FH 277 [(1, .slice A1_0 ((u1).length) c1_0), (5, .int .i64 ((IntKind.i64.wrap (Int.tmod u0 4)))), (6, .pointer (some (⟨b7, 0, none⟩))), (7, .slice A13 ((x366).length) c14), (8, .slice A38 ((x37).length) c39), (9, .int .i64 (x40)), (10, .pointer (some (⟨b86, 0, none⟩))), (17, .bool (x387)), (18, .int .i64 (x368)), (19, .slice A389 ((x388).length) c390), (20, .int .i64 (x391))] a ∧ St M w0 [⟨b86, Tpodestalaw22_Act.enc x74 A80 c81 A83 c84, 53⟩, ⟨b7, Tshadow_Shadow.enc x32 A33 c34 A35 c36, 134⟩] [⟨k_TRule, 51, A389, c390, x388⟩, ⟨(kSl k_TRule), 26, A33, c34, x32.base⟩, ⟨k_Tshadow_open, 140, A35, c36, x32.open_⟩, ⟨k_Tpodestalaw22_open, 55, A38, c39, x37⟩, ⟨(kSl k_TRule), 26, A13, c14, x366⟩] [fSl k_TAct A83 c84 x74.Rule.Acts, fSl k_TChange A80 c81 x74.L, fSl k_Tpodestalaw22_Act A1_0 c1_0 u1] W ∧ (law22_ShadowPlays.l7 k x74 x366 x368 m x387 x388 x391) = some o396) ?_ (k := k) ⟨x367, ([]), 0, none, 0, (hF.keep ⟨rfl, rfl, rfl, rfl, rfl, rfl, rfl, rfl, rfl, rfl, rfl, trivial⟩), hS, h⟩
                    rintro m409 a W ⟨x387, x388, x391, A389, c390, hF, hS, h⟩
                    cases m409 with
                    | zero => cases h
                    | succ m409 =>
                     rw [law22_ShadowPlays.l7] at h
                     refine wq <| wq <| wg <| mv hF rfl rfl fun a hF => mv hF rfl rfl fun a hF => mv hF rfl rfl fun a hF => ?_
                     obtain ⟨x410, hx411, h⟩ := bindS h
                     obtain ⟨p412, cs413, hA414, hc416, hr417⟩ := Row.ok.at (hS.rw_ (i := 4) rfl) hx411
                     obtain ⟨A418, c419, rfl, hs420⟩ := hr417
                     have hS := hS.addFact (f := fSl k_TRule A418 c419 x410) hs420
                     refine sv (v_idx hF rfl hA414 rfl psl42 hx411) hF rfl fun a hF => sv (v_load1 hF rfl pa26 hc416) hF rfl fun a hF => sv (v_len hF rfl pu26) hF rfl fun a hF => sv (v_lss hF rfl rfl) hF rfl fun a hF => nl <| tn <| wi hF rfl h (fun h => ?_) fun h => ?_
                     ·
                      refine sk <| tn <| wq ?_
                      obtain ⟨o426, h, hk427⟩ := bindS h
                      refine wp_join (fun a W => ∃ (x422 : Bool) (x423 : List TRule) (A424 : Option Addr) (c425 : Nat), (x422, x423) = o426 ∧ FH 277 [(1, .slice A1_0 ((u1).length) c1_0), (5, .int .i64 ((IntKind.i64.wrap (Int.tmod u0 4)))), (6, .pointer (some (⟨b7, 0, none⟩))), (7, .slice A13 ((x366).length) c14), (8, .slice A38 ((x37).length) c39), (9, .int .i64 (x40)), (10, .pointer (some (⟨b86, 0, none⟩))), (17, .bool (x422)), (18, .int .i64 (x368)), (19, .slice A424 ((x423).length) c425), (20, .int .i64 (x391))] a ∧ St M w0 [⟨b86, Tpodestalaw22_Act.enc x74 A80 c81 A83 c84, 53⟩, ⟨b7, Tshadow_Shadow.enc x32 A33 c34 A35 c36, 134⟩] [⟨k_TRule, 51, A424, c425, x423⟩, ⟨(kSl k_TRule), 26, A33, c34, x32.base⟩, ⟨k_Tshadow_open, 140, A35, c36, x32.open_⟩, ⟨k_Tpodestalaw22_open, 55, A38, c39, x37⟩, ⟨(kSl k_TRule), 26, A13, c14, x366⟩] [fSl k_TAct A83 c84 x74.Rule.Acts, fSl k_TChange A80 c81 x74.L, fSl k_Tpodestalaw22_Act A1_0 c1_0 u1] W) (fun a W hJ => ?_) ?_
                      ·
                       obtain ⟨x422, x423, A424, c425, rfl, hF, hS⟩ := hJ
                       have h := hk427
                       dsimp only at h
                       exact tn <| wg <| mv hF rfl rfl fun a hF => sv (v_add hF rfl rfl) hF rfl fun a hF => av hF rfl rfl fun a hF => nl <| then_j ⟨m409, Nat.lt_succ_self _, x422, x423, (IntKind.i64.wrap (x391 + 1)), A424, c425, (hF.keep ⟨rfl, rfl, rfl, rfl, rfl, rfl, rfl, rfl, rfl, rfl, rfl, trivial⟩), hS, h⟩
                      ·
                       refine wb <| wq <| wp_quiet rfl (by kernel_rfl) hS <| qv (fun W hC => (v_move hF rfl)) hF rfl fun a hF => qv (fun W hC => (v_fieldAddr hF rfl pf53_3)) hF rfl fun a hF => qv (fun W hC => (v_load1 hF rfl pa3 (cells_sub (vs := [.int .i64 (x74.Unit)]) (hC.2.bc (i := 0) rfl) rfl rfl))) hF rfl fun a hF => qv (fun W hC => (v_eql hF rfl rfl)) hF rfl fun a hF => qv (fun W hC => (v_move hF rfl)) hF rfl fun a hF => ?_
                       obtain ⟨x429, h, hk431⟩ := bindS h
                       refine qt_cut 11 (fun a => FH 277 [(1, .slice A1_0 ((u1).length) c1_0), (5, .int .i64 ((IntKind.i64.wrap (Int.tmod u0 4)))), (6, .pointer (some (⟨b7, 0, none⟩))), (7, .slice A13 ((x366).length) c14), (8, .slice A38 ((x37).length) c39), (9, .int .i64 (x40)), (10, .pointer (some (⟨b86, 0, none⟩))), (17, .bool (x387)), (18, .int .i64 (x368)), (19, .slice A389 ((x388).length) c390), (20, .int .i64 (x391)), (102, .bool x429)] a) (fun a hF => ?_) ?_
                       ·
                        have h := hk431
                        refine qn ?_
                        intro W hC
                        have hS := hC.2
                        refine tn ?_
                        obtain ⟨o456, h, hk457⟩ := bindS h
                        refine wp_join (fun a W => ∃ (x452 : Bool) (x453 : List TRule) (A454 : Option Addr) (c455 : Nat), (x452, x453) = o456 ∧ FH 277 [(1, .slice A1_0 ((u1).length) c1_0), (5, .int .i64 ((IntKind.i64.wrap (Int.tmod u0 4)))), (6, .pointer (some (⟨b7, 0, none⟩))), (7, .slice A13 ((x366).length) c14), (8, .slice A38 ((x37).length) c39), (9, .int .i64 (x40)), (10, .pointer (some (⟨b86, 0, none⟩))), (17, .bool (x452)), (18, .int .i64 (x368)), (19, .slice A454 ((x453).length) c455), (20, .int .i64 (x391))] a ∧ St M w0 [⟨b86, Tpodestalaw22_Act.enc x74 A80 c81 A83 c84, 53⟩, ⟨b7, Tshadow_Shadow.enc x32 A33 c34 A35 c36, 134⟩] [⟨k_TRule, 51, A454, c455, x453⟩, ⟨(kSl k_TRule), 26, A33, c34, x32.base⟩, ⟨k_Tshadow_open, 140, A35, c36, x32.open_⟩, ⟨k_Tpodestalaw22_open, 55, A38, c39, x37⟩, ⟨(kSl k_TRule), 26, A13, c14, x366⟩] [fSl k_TAct A83 c84 x74.Rule.Acts, fSl k_TChange A80 c81 x74.L, fSl k_Tpodestalaw22_Act A1_0 c1_0 u1] W) (fun a W hJ => ?_) ?_
                        ·
                         obtain ⟨x452, x453, A454, c455, rfl, hF, hS⟩ := hJ
                         have h := hk457
                         dsimp only at h
                         refine bn ?_
                         obtain rfl := si h
                         exact then_j ⟨x452, x453, A454, c455, rfl, (hF.keep ⟨rfl, rfl, rfl, rfl, rfl, rfl, rfl, rfl, rfl, rfl, rfl, trivial⟩), hS⟩
                        ·
                         refine wi hF rfl h (fun h => ?_) fun h => ?_
                         ·
                          refine wg <| av hF rfl rfl fun a hF => nl ?_
                          obtain rfl := si h
                          exact then_j ⟨true, x388, A389, c390, rfl, (hF.keep ⟨rfl, rfl, rfl, rfl, rfl, rfl, rfl, rfl, rfl, rfl, rfl, trivial⟩), (hS.keep sl sl ⟨⟨1, rfl⟩, ⟨2, rfl⟩, ⟨3, rfl⟩, trivial⟩)⟩
                         ·
                          refine wg <| mv hF rfl rfl fun a hF => mv hF rfl rfl fun a hF => mv hF rfl rfl fun a hF => ?_
                          obtain ⟨p459, cs460, hA461, hc463, hr464⟩ := Row.ok.at (hS.rw_ (i := 4) rfl) hx411
                          obtain ⟨A465, c466, rfl, hs467⟩ := hr464
                          have hS := hS.addFact (f := fSl k_TRule A465 c466 x410) hs467
                          refine sv (v_idx hF rfl hA461 rfl psl42 hx411) hF rfl fun a hF => sv (v_load1 hF rfl pa26 hc463) hF rfl fun a hF => mv hF rfl rfl fun a hF => ?_
                          obtain ⟨x468, hx469, h⟩ := bindS h
                          obtain ⟨p470, cs471, hA472, hat473⟩ := SlR.at (hS.fc (i := 0) rfl) hx469
                          obtain ⟨A474, c475, rfl, hs476⟩ := hat473.2.2.2
                          have hS := hS.addFact (f := fAt k_TRule (p470.add (x391.toNat * 32)) (TRule.enc x468 A474 c475) x468) hat473
                          have hS := hS.addFact (f := fSl k_TAct A474 c475 x468.Acts) hs476
                          refine sv (v_idx hF rfl hA472 rfl psl26 hx469) hF rfl fun a hF => sv (v_load (cs := TRule.enc x468 A474 c475) hF rfl pa51 ps51 (hS.pc (i := 1) rfl)) hF rfl fun a hF => sq_buildSlice (κ := k_TRule) (xs := [.tmp 110]) (ys := [x468]) hF hS rfl rfl rfl (Els.cons ⟨A474, c475, rfl, (hS.fc (i := 0) rfl)⟩ (Els.nil _ _ _)) rfl psl26 pz51 rfl (by decide) (by decide) (by decide) (fun A477 c478 a W hF hS => ?_)
                          obtain ⟨x481, hx482, h⟩ := bindS h
                          refine sq_append (ys := ([x468])) hF hS (i := 1) rfl rfl rfl (hS.rw_ (i := 0) rfl).src psl26 pb51 pz51 rfl (by decide) (by decide) hx482 (by decide) (fun A479 c480 a W hF hS => ?_)
                          refine av hF rfl rfl fun a hF => nl ?_
                          obtain rfl := si h
                          exact then_j ⟨x387, x481, A479, c480, rfl, (hF.keep ⟨rfl, rfl, rfl, rfl, rfl, rfl, rfl, rfl, rfl, rfl, rfl, trivial⟩), (hS.keep sl (.cons _ sl) ⟨⟨4, rfl⟩, ⟨5, rfl⟩, ⟨6, rfl⟩, trivial⟩)⟩
                       ·
                        by_cases he428 : (x368 == x74.Unit) = true
                        ·
                         replace h := ifT he428 h
                         refine qt_yes hF rfl rfl he428 <| qv (fun W hC => (v_move hF rfl)) hF rfl fun a hF => qt_yes hF rfl rfl he428 <| qv (fun W hC => (v_move hF rfl)) hF rfl fun a hF => qt_yes hF rfl rfl he428 ?_
                         obtain ⟨p432, cs433, hA434, hc436, hr437⟩ := Row.ok.at (hS.rw_ (i := 4) rfl) hx411
                         obtain ⟨A438, c439, rfl, hs440⟩ := hr437
                         refine qv (fun W hC => (v_idx hF rfl hA434 rfl psl42 hx411)) hF rfl fun a hF => qt_yes hF rfl rfl he428 <| qv (fun W hC => (v_load1 hF rfl pa26 (hc436.grow hC.1))) hF rfl fun a hF => qt_yes hF rfl rfl he428 <| qv (fun W hC => (v_move hF rfl)) hF rfl fun a hF => qt_yes hF rfl rfl he428 ?_
                         obtain ⟨x441, hx442, h⟩ := bindS h
                         obtain ⟨p443, cs444, hA445, hat446⟩ := SlR.at hs440 hx442
                         obtain ⟨A447, c448, rfl, hs449⟩ := hat446.2.2.2
                         refine qv (fun W hC => (v_idx hF rfl hA445 rfl psl26 hx442)) hF rfl fun a hF => qt_yes hF rfl rfl he428 <| qv (fun W hC => (v_load (cs := TRule.enc x441 A447 c448) hF rfl pa51 ps51 (hat446.2.2.1.grow hC.1))) hF rfl fun a hF => qt_yes hF rfl rfl he428 <| qv (fun W hC => (v_fieldAddr hF rfl pf53_4)) hF rfl fun a hF => qt_yes hF rfl rfl he428 <| qv (fun W hC => (v_load (cs := TRule.enc x74.Rule A83 c84) hF rfl pa51 ps51 (cells_sub (vs := TRule.enc x74.Rule A83 c84) (hC.2.bc (i := 0) rfl) rfl rfl))) hF rfl fun a hF => qt_yes hF rfl rfl he428 ?_
                         obtain ⟨x450, hx451, h⟩ := bindS h
                         refine qt_call hF pc22 rfl (by decide) (fun W hC => q_of hC (ok_ref04_Key ((hC.2.addFact (f := fSl k_TAct A447 c448 x441.Acts) ((fSl k_TAct A447 c448 x441.Acts).st hs449 (Stp.below hC.1))).enter ⟨⟨0, rfl⟩, ⟨2, rfl⟩, trivial⟩) hx451)) (fun a hF => ?_)
                         refine qv (fun W hC => (v_pick_t hF rfl he428 rfl)) hF rfl fun a hF => ?_
                         obtain rfl := si h
                         exact qt_nil (hF.keep ⟨rfl, rfl, rfl, rfl, rfl, rfl, rfl, rfl, rfl, rfl, rfl, rfl, trivial⟩)
                        ·
                         have he428 : (x368 == x74.Unit) = false := nB he428
                         replace h := ifF he428 h
                         refine qt_no hF rfl rfl he428 (by decide) (fun a hF => ?_)
                         refine qt_no hF rfl rfl he428 (by decide) (fun a hF => ?_)
                         refine qt_no hF rfl rfl he428 (by decide) (fun a hF => ?_)
                         refine qt_no hF rfl rfl he428 (by decide) (fun a hF => ?_)
                         refine qt_no hF rfl rfl he428 (by decide) (fun a hF => ?_)
                         refine qt_no hF rfl rfl he428 (by decide) (fun a hF => ?_)
                         refine qt_no hF rfl rfl he428 (by decide) (fun a hF => ?_)
                         refine qt_no hF rfl rfl he428 (by decide) (fun a hF => ?_)
                         refine qt_no hF rfl rfl he428 (by decide) (fun a hF => ?_)
                         refine qt_no hF rfl rfl he428 (by decide) (fun a hF => ?_)
                         refine qv (fun W hC => (v_pick_f hF rfl he428 rfl)) hF rfl fun a hF => ?_
                         obtain rfl := si h
                         exact qt_nil (hF.keep ⟨rfl, rfl, rfl, rfl, rfl, rfl, rfl, rfl, rfl, rfl, rfl, rfl, trivial⟩)
                     ·
                      refine wp_exit <| tx <| tx <| bh ?_
                      obtain rfl := si h
                      exact then_j ⟨x387, x388, A389, c390, rfl, (hF.keep ⟨rfl, rfl, rfl, rfl, rfl, rfl, rfl, rfl, rfl, rfl, trivial⟩), (hS.keep sl sl ⟨⟨1, rfl⟩, ⟨2, rfl⟩, ⟨3, rfl⟩, trivial⟩)⟩
                  ·
                   refine wp_exit <| tx <| tx <| bh ?_
                   obtain rfl := si h
                   exact then_j ⟨x366, x367, rfl, (hF.keep ⟨rfl, rfl, rfl, rfl, rfl, rfl, rfl, rfl, trivial⟩), hS⟩
             ·
              refine wi hF rfl h (fun h => ?_) fun h => ?_
              ·
               refine sk ?_
               obtain rfl := si h
               exact then_j ⟨(x74.What == 1), rfl, (hF.keep ⟨rfl, rfl, rfl, rfl, rfl, rfl, rfl, rfl, rfl, rfl, trivial⟩), hS⟩
              ·
               refine wg <| sv (v_eql hF rfl rfl) hF rfl fun a hF => av hF rfl rfl fun a hF => nl ?_
               obtain rfl := si h
               exact then_j ⟨(x74.What == 2), rfl, (hF.keep ⟨rfl, rfl, rfl, rfl, rfl, rfl, rfl, rfl, rfl, rfl, trivial⟩), hS⟩
         ·
          refine wb <| wp_loop_fuel (I := fun m a W => ∃ (x91 : Int) (x92 : Int), FH 277 [(1, .slice A1_0 ((u1).length) c1_0), (5, .int .i64 ((IntKind.i64.wrap (Int.tmod u0 4)))), (6, .pointer (some (⟨b7, 0, none⟩))), (7, .slice A13 ((x31).length) c14), (8, .slice A38 ((x37).length) c39), (9, .int .i64 (x40)), (10, .pointer (some (⟨b86, 0, none⟩))), (11, .int .i64 (x91)), (12, .int .i64 (x92))] a ∧ St M w0 [⟨b86, Tpodestalaw22_Act.enc x74 A80 c81 A83 c84, 53⟩, ⟨b7, Tshadow_Shadow.enc x32 A33 c34 A35 c36, 134⟩] [⟨(kSl k_TRule), 26, A33, c34, x32.base⟩, ⟨k_Tshadow_open, 140, A35, c36, x32.open_⟩, ⟨k_Tpodestalaw22_open, 55, A38, c39, x37⟩, ⟨(kSl k_TRule), 26, A13, c14, x31⟩] [fSl k_TAct A83 c84 x74.Rule.Acts, fSl k_TChange A80 c81 x74.L, fSl k_Tpodestalaw22_Act A1_0 c1_0 u1] W ∧ (law22_ShadowPlays.l1 k x37 x74 m x91 x92) = some o94) ?_ (k := k) ⟨(-1), 0, (hF.keep ⟨rfl, rfl, rfl, rfl, rfl, rfl, rfl, rfl, rfl, trivial⟩), (hS.keep sl sl ⟨⟨0, rfl⟩, ⟨1, rfl⟩, ⟨3, rfl⟩, trivial⟩), h⟩
          rintro m484 a W ⟨x91, x92, hF, hS, h⟩
          cases m484 with
          | zero => cases h
          | succ m484 =>
           rw [law22_ShadowPlays.l1] at h
           refine wq <| wq <| wg <| mv hF rfl rfl fun a hF => mv hF rfl rfl fun a hF => sv (v_len hF rfl pu43) hF rfl fun a hF => sv (v_lss hF rfl rfl) hF rfl fun a hF => nl <| tn <| wi hF rfl h (fun h => ?_) fun h => ?_
           ·
            refine sk <| tn <| wq ?_
            obtain ⟨o487, h, hk488⟩ := bindS h
            refine wp_join (fun a W => ∃ (x486 : Int), x486 = o487 ∧ FH 277 [(1, .slice A1_0 ((u1).length) c1_0), (5, .int .i64 ((IntKind.i64.wrap (Int.tmod u0 4)))), (6, .pointer (some (⟨b7, 0, none⟩))), (7, .slice A13 ((x31).length) c14), (8, .slice A38 ((x37).length) c39), (9, .int .i64 (x40)), (10, .pointer (some (⟨b86, 0, none⟩))), (11, .int .i64 (x486)), (12, .int .i64 (x92))] a ∧ St M w0 [⟨b86, Tpodestalaw22_Act.enc x74 A80 c81 A83 c84, 53⟩, ⟨b7, Tshadow_Shadow.enc x32 A33 c34 A35 c36, 134⟩] [⟨(kSl k_TRule), 26, A33, c34, x32.base⟩, ⟨k_Tshadow_open, 140, A35, c36, x32.open_⟩, ⟨k_Tpodestalaw22_open, 55, A38, c39, x37⟩, ⟨(kSl k_TRule), 26, A13, c14, x31⟩] [fSl k_TAct A83 c84 x74.Rule.Acts, fSl k_TChange A80 c81 x74.L, fSl k_Tpodestalaw22_Act A1_0 c1_0 u1] W) (fun a W hJ => ?_) ?_
            ·
             obtain ⟨x486, rfl, hF, hS⟩ := hJ
             have h := hk488
             exact tn <| wg <| mv hF rfl rfl fun a hF => sv (v_add hF rfl rfl) hF rfl fun a hF => av hF rfl rfl fun a hF => nl <| then_j ⟨m484, Nat.lt_succ_self _, x486, (IntKind.i64.wrap (x92 + 1)), (hF.keep ⟨rfl, rfl, rfl, rfl, rfl, rfl, rfl, rfl, rfl, trivial⟩), hS, h⟩
            ·
             refine wb <| wq <| wp_quiet rfl (by kernel_rfl) hS <| qv (fun W hC => (v_move hF rfl)) hF rfl fun a hF => qv (fun W hC => (v_move hF rfl)) hF rfl fun a hF => ?_
             obtain ⟨x489, hx490, h⟩ := bindS h
             obtain ⟨p491, cs492, hA493, hc495, hr496⟩ := Row.ok.at (hS.rw_ (i := 2) rfl) hx490
             obtain ⟨A497, c498, rfl, hs499⟩ := hr496
             refine qv (fun W hC => (v_idx hF rfl hA493 rfl psl43 hx490)) hF rfl fun a hF => qv (fun W hC => (v_fieldAddr hF rfl pf55_0)) hF rfl fun a hF => qv (fun W hC => (v_load1 hF rfl pa3 (cells_sub (vs := [.int .i64 (x489.txn)]) (hc495.grow hC.1) rfl rfl))) hF rfl fun a hF => qv (fun W hC => (v_fieldAddr hF rfl pf53_1)) hF rfl fun a hF => qv (fun W hC => (v_load1 hF rfl pa3 (cells_sub (vs := [.int .i64 (x74.Txn)]) (hC.2.bc (i := 0) rfl) rfl rfl))) hF rfl fun a hF => qv (fun W hC => (v_eql hF rfl rfl)) hF rfl fun a hF => qn ?_
             intro W hC
             have hS := hC.2
             refine tn ?_
             obtain ⟨o501, h, hk502⟩ := bindS h
             refine wp_join (fun a W => ∃ (x500 : Int), x500 = o501 ∧ FH 277 [(1, .slice A1_0 ((u1).length) c1_0), (5, .int .i64 ((IntKind.i64.wrap (Int.tmod u0 4)))), (6, .pointer (some (⟨b7, 0, none⟩))), (7, .slice A13 ((x31).length) c14), (8, .slice A38 ((x37).length) c39), (9, .int .i64 (x40)), (10, .pointer (some (⟨b86, 0, none⟩))), (11, .int .i64 (x500)), (12, .int .i64 (x92))] a ∧ St M w0 [⟨b86, Tpodestalaw22_Act.enc x74 A80 c81 A83 c84, 53⟩, ⟨b7, Tshadow_Shadow.enc x32 A33 c34 A35 c36, 134⟩] [⟨(kSl k_TRule), 26, A33, c34, x32.base⟩, ⟨k_Tshadow_open, 140, A35, c36, x32.open_⟩, ⟨k_Tpodestalaw22_open, 55, A38, c39, x37⟩, ⟨(kSl k_TRule), 26, A13, c14, x31⟩] [fSl k_TAct A83 c84 x74.Rule.Acts, fSl k_TChange A80 c81 x74.L, fSl k_Tpodestalaw22_Act A1_0 c1_0 u1] W) (fun a W hJ => ?_) ?_
             ·
              obtain ⟨x500, rfl, hF, hS⟩ := hJ
              have h := hk502
              refine bn ?_
              obtain rfl := si h
              exact then_j ⟨x500, rfl, (hF.keep ⟨rfl, rfl, rfl, rfl, rfl, rfl, rfl, rfl, rfl, trivial⟩), hS⟩
             ·
              refine wi hF rfl h (fun h => ?_) fun h => ?_
              ·
               refine wg <| mv hF rfl rfl fun a hF => av hF rfl rfl fun a hF => nl ?_
               obtain rfl := si h
               exact then_j ⟨x92, rfl, (hF.keep ⟨rfl, rfl, rfl, rfl, rfl, rfl, rfl, rfl, rfl, trivial⟩), hS⟩
              ·
               refine sk ?_
               obtain rfl := si h
               exact then_j ⟨x91, rfl, (hF.keep ⟨rfl, rfl, rfl, rfl, rfl, rfl, rfl, rfl, rfl, trivial⟩), hS⟩
           ·
            refine wp_exit <| tx <| tx <| bh ?_
            obtain rfl := si h
            exact then_j ⟨x91, rfl, (hF.keep ⟨rfl, rfl, rfl, rfl, rfl, rfl, rfl, rfl, trivial⟩), hS⟩
     ·
      refine wp_exit <| tx <| tx <| bh ?_
      obtain rfl := si h
      exact then_j ⟨x32, x37, A33, c34, A35, c36, A38, c39, rfl, (hF.keep ⟨rfl, rfl, trivial⟩), (hS.keep sl (.cons_cons _ (.cons_cons _ (.cons_cons _ sn))) trivial)⟩
end Go.Proofs.YtgfnkigoaajllaaGreat
