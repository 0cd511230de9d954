/- What calls of the Go functions come to. -/
import Derived.Test.YtgfnkigoaajllaaGreatW1
set_option linter.unusedVariables false
set_option linter.unusedSimpArgs false
set_option maxRecDepth 100000
set_option maxHeartbeats 4000000
namespace Go.Proofs.YtgfnkigoaajllaaGreat
open Go.RowKit Go.Pod
theorem ok_ref04_Overlap (k : Nat) {M : Nat → Prop} {w0 : World} {u0 : TRule} {A0_0 : Option Addr} {c0_0 : Nat} {u1 : TRule} {A1_0 : Option Addr} {c1_0 : Nat} {o : Bool} (hS : St M w0 [] [] [fSl k_TAct A0_0 c0_0 u0.Acts, fSl k_TAct A1_0 c1_0 u1.Acts] w0) (h : ref04_Overlap k u0 u1 = some o) :
    Calls Tryz.prog 72 #[.agg (TRule.enc u0 A0_0 c0_0).toArray, .agg (TRule.enc u1 A1_0 c1_0).toArray] w0 fun e W' => ∃ v, e = .returned v ∧ (v = .bool (o) ∧ St M w0 [] [] [] W') := by
  unfold ref04_Overlap at h
  refine cst Tryz.func72 rfl rfl rfl fun a hF => wq <| wg <| bv hF hS rfl rfl rfl fun b1 a W hF hS => bv hF hS rfl rfl rfl fun b2 a W hF hS => av hF rfl rfl fun a hF => nl <| tn <| wq <| wg <| fv hF rfl pf51_0 rfl fun a hF => sv (v_load (cs := TCube.enc u0.Match) hF rfl pa48 ps48 (cells_sub (vs := TCube.enc u0.Match) (hS.bc (i := 1) rfl) rfl rfl)) hF rfl fun a hF => fv hF rfl pf51_0 rfl fun a hF => sv (v_load (cs := TCube.enc u1.Match) hF rfl pa48 ps48 (cells_sub (vs := TCube.enc u1.Match) (hS.bc (i := 0) rfl) rfl rfl)) hF rfl fun a hF => ?_
  obtain ⟨x3, hx4, h⟩ := bindS h
  refine cl hF pc113 rfl rfl (ok_ref01_Meet k (hS.enter trivial) hx4) hS fun W a hF hS => mv hF rfl rfl fun a hF => sv (v_extract hF rfl rfl) hF rfl fun a hF => sv (v_extract hF rfl rfl) hF rfl fun a hF => al hF hS pz48 rfl rfl fun b6 a W hF hS => sq_store (o := 0) (vs := TCube.enc x3.1) (cs' := TCube.enc x3.1) hF hS rfl rfl (i := 0) rfl rfl rfl ps48 (TCube.enc_one _) (bl rfl) rfl fun W hS => av hF rfl rfl fun a hF => nl <| tn <| wq <| wg <| fv hF rfl pf51_1 rfl fun a hF => lv hF rfl pa3 (hS.bc (i := 2) rfl) rfl rfl rfl fun a hF => fv hF rfl pf51_1 rfl fun a hF => lv hF rfl pa3 (hS.bc (i := 1) rfl) rfl rfl rfl fun a hF => sv (v_eql hF rfl rfl) hF rfl fun a hF => mv hF rfl rfl fun a hF => gand 1 5 20 (x3.2) hF rfl rfl rfl rfl rfl (fun _ => ?_) (fun a hF => ?_)
  ·
   exact mv hF rfl rfl fun a hF => gq 1 hF rfl rfl rfl
  ·
   refine av hF rfl rfl fun a hF => nl <| tn <| rt ?_
   obtain rfl := si h
   exact ret1 hF rfl (rv_tmp hF rfl) ⟨_, rfl, rfl, (hS.keep sn sl trivial)⟩

theorem ok_ref04_Sort (k : Nat) {M : Nat → Prop} {w0 : World} {u0 : List TRule} {A0_0 : Option Addr} {c0_0 : Nat} {o : (List TRule)} (hS : St M w0 [] [] [fSl k_TRule A0_0 c0_0 u0] w0) (h : ref04_Sort k u0 = some o) :
    Calls Tryz.prog 73 #[.slice A0_0 ((u0).length) c0_0] w0 fun e W' => ∃ v, e = .returned v ∧ (∃ (A159 : Option Addr) (c160 : Nat), v = .slice A159 ((o).length) c160 ∧ St M w0 [] [⟨k_TRule, 51, A159, c160, o⟩] [] W') := by
  unfold ref04_Sort at h
  refine cst Tryz.func73 rfl rfl rfl fun a hF => wq <| wg <| av hF rfl rfl fun a hF => nl <| tn <| wq <| wg <| av hF rfl rfl fun a hF => nl <| tn <| wq <| wq <| wg <| av hF rfl rfl fun a hF => nl <| tn ?_
  obtain ⟨o12, h, hk13⟩ := bindS h
  refine wp_join (fun a W => ∃ (x9 : List TRule) (A10 : Option Addr) (c11 : Nat), x9 = o12 ∧ FH 70 [(3, .slice A10 ((x9).length) c11)] a ∧ St M w0 [] [⟨k_TRule, 51, A10, c11, x9⟩] [] W) (fun a W hJ => ?_) ?_
  ·
   obtain ⟨x9, A10, c11, rfl, hF, hS⟩ := hJ
   have h := hk13
   refine tn <| wq <| wg <| mv hF rfl rfl fun a hF => av hF rfl rfl fun a hF => nl <| tn <| rt ?_
   obtain rfl := si h
   exact ret1 hF rfl (rv_tmp hF rfl) ⟨_, rfl, A10, c11, rfl, hS⟩
  ·
   have hS := hS.addNil k_TRule 51
   refine wb <| wp_loop_fuel (I := fun m a W => ∃ (x5 : List TRule) (x8 : Int) (A6 : Option Addr) (c7 : Nat), FH 70 [(0, .slice A0_0 ((u0).length) c0_0), (3, .slice A6 ((x5).length) c7), (4, .int .i64 (x8))] a ∧ St M w0 [] [⟨k_TRule, 51, A6, c7, x5⟩] [fSl k_TRule A0_0 c0_0 u0] W ∧ (ref04_Sort.l0 k u0 m x5 x8) = some o12) ?_ (k := k) ⟨([]), 0, none, 0, (hF.keep ⟨rfl, rfl, rfl, trivial⟩), hS, h⟩
   rintro m14 a W ⟨x5, x8, A6, c7, hF, hS, h⟩
   cases m14 with
   | zero => cases h
   | succ m14 =>
    rw [ref04_Sort.l0] at h
    refine wq <| wq <| wg <| mv hF rfl rfl fun a hF => mv hF rfl rfl fun a hF => sv (v_len hF rfl pu26) hF rfl fun a hF => sv (v_lss hF rfl rfl) hF rfl fun a hF => nl <| tn <| wi hF rfl h (fun h => ?_) fun h => ?_
    ·
     refine sk <| tn <| wq ?_
     obtain ⟨o19, h, hk20⟩ := bindS h
     refine wp_join (fun a W => ∃ (x16 : List TRule) (A17 : Option Addr) (c18 : Nat), x16 = o19 ∧ FH 70 [(0, .slice A0_0 ((u0).length) c0_0), (3, .slice A17 ((x16).length) c18), (4, .int .i64 (x8))] a ∧ St M w0 [] [⟨k_TRule, 51, A17, c18, x16⟩] [fSl k_TRule A0_0 c0_0 u0] W) (fun a W hJ => ?_) ?_
     ·
      obtain ⟨x16, A17, c18, rfl, hF, hS⟩ := hJ
      have h := hk20
      exact tn <| wg <| mv hF rfl rfl fun a hF => sv (v_add hF rfl rfl) hF rfl fun a hF => av hF rfl rfl fun a hF => nl <| then_j ⟨m14, Nat.lt_succ_self _, x16, (IntKind.i64.wrap (x8 + 1)), A17, c18, (hF.keep ⟨rfl, rfl, rfl, trivial⟩), hS, h⟩
     ·
      refine wb <| wq <| wq <| wg <| mv hF rfl rfl fun a hF => mv hF rfl rfl fun a hF => ?_
      obtain ⟨x21, hx22, h⟩ := bindS h
      obtain ⟨p23, cs24, hA25, hat26⟩ := SlR.at (hS.fc (i := 0) rfl) hx22
      obtain ⟨A27, c28, rfl, hs29⟩ := hat26.2.2.2
      have hS := hS.addFact (f := fAt k_TRule (p23.add (x8.toNat * 32)) (TRule.enc x21 A27 c28) x21) hat26
      have hS := hS.addFact (f := fSl k_TAct A27 c28 x21.Acts) hs29
      refine sv (v_idx hF rfl hA25 rfl psl26 hx22) hF rfl fun a hF => sv (v_load (cs := TRule.enc x21 A27 c28) hF rfl pa51 ps51 (hS.pc (i := 1) rfl)) hF rfl fun a hF => ?_
      obtain ⟨x30, hx31, h⟩ := bindS h
      refine cl hF pc83 rfl rfl (ok_ref04_Rule k (hS.enter ⟨⟨0, rfl⟩, trivial⟩) hx31) hS fun W a hF hS => sv (v_not hF rfl) hF rfl fun a hF => nl <| tn <| wi hF rfl h (fun h => ?_) fun h => ?_
      ·
       refine wp_exit <| tx <| bh ?_
       obtain rfl := si h
       exact then_j ⟨x5, A6, c7, rfl, (hF.keep ⟨rfl, rfl, rfl, trivial⟩), (hS.keep sl sl ⟨⟨2, rfl⟩, trivial⟩)⟩
      ·
       refine sk <| tn <| wq <| wg <| av hF rfl rfl fun a hF => nl <| tn <| wq ?_
       obtain ⟨o37, h, hk38⟩ := bindS h
       refine wp_join (fun a W => ∃ (x36 : Int), x36 = o37 ∧ FH 70 [(0, .slice A0_0 ((u0).length) c0_0), (3, .slice A6 ((x5).length) c7), (4, .int .i64 (x8)), (5, .int .i64 (x36))] a ∧ St M w0 [] [⟨k_TRule, 51, A6, c7, x5⟩] [fSl k_TRule A0_0 c0_0 u0] W) (fun a W hJ => ?_) ?_
       ·
        obtain ⟨x36, rfl, hF, hS⟩ := hJ
        have h := hk38
        refine tn <| wq <| wg <| sq_buildSlice (κ := k_TRule) (xs := []) (ys := ([] : List TRule)) hF hS rfl rfl rfl (Els.nil _ _ _) rfl psl26 pz51 rfl (by decide) (by decide) (by decide) (fun A39 c40 a W hF hS => ?_)
        refine mv hF rfl rfl fun a hF => mv hF rfl rfl fun a hF => ?_
        have hS := hS.freeze (i := 1) rfl (posB rfl)
        obtain ⟨hb41, h⟩ := ifS h
        refine sv (v_slice (κ := k_TRule) (lo := x36.toNat) (hi := x5.length) hF rfl rfl rfl psl26 (.inr ⟨_, _, rfl, by omega, rfl⟩) (.inl ⟨rfl, rfl⟩) (by omega) (by omega) (hS.fc (i := 0) rfl).1) hF rfl fun a hF => ?_
        have hcut44 := SlR.cut (xs := x5) (hS.fc (i := 0) rfl) (lo := x36.toNat) (hi := x5.length) (by omega) (by omega)
        generalize (if c7 = x36.toNat then A6 else Option.map (fun (q : Addr) => q.add (x36.toNat * (k_TRule).sz)) A6) = A42 at hF hcut44
        generalize c7 - x36.toNat = c43 at hF hcut44
        have hS := hS.addFact (f := fSl k_TRule A42 c43 ((x5.take x5.length).drop x36.toNat)) hcut44
        obtain ⟨x47, hx48, h⟩ := bindS h
        refine sq_append (ys := ((x5.take x5.length).drop x36.toNat)) hF hS (i := 0) rfl rfl rfl (SlR.src (hS.fc (i := 0) rfl)) psl26 pb51 pz51 rfl (by decide) (by decide) hx48 (by decide) (fun A45 c46 a W hF hS => ?_)
        refine av hF rfl rfl fun a hF => nl <| tn <| wq <| wq <| wp_quiet rfl (by kernel_rfl) hS <| qv (fun W hC => (v_move hF rfl)) hF rfl fun a hF => qv (fun W hC => (v_len hF rfl pu26)) hF rfl fun a hF => qv (fun W hC => (v_gtr hF rfl rfl)) hF rfl fun a hF => qv (fun W hC => (v_move hF rfl)) hF rfl fun a hF => ?_
        obtain ⟨x50, h, hk52⟩ := bindS h
        refine qt_cut 9 (fun a => FH 70 [(0, .slice A0_0 ((u0).length) c0_0), (3, .slice A6 ((x5).length) c7), (4, .int .i64 (x8)), (5, .int .i64 (x36)), (6, .slice A45 ((x47).length) c46), (53, .bool x50)] a) (fun a hF => ?_) ?_
        ·
         have h := hk52
         refine qn ?_
         intro W hC
         have hS := hC.2
         refine tn ?_
         obtain ⟨o76, h, hk77⟩ := bindS h
         refine wp_join (fun a W => ∃ (x73 : List TRule) (A74 : Option Addr) (c75 : Nat), x73 = o76 ∧ FH 70 [(0, .slice A0_0 ((u0).length) c0_0), (3, .slice A6 ((x5).length) c7), (4, .int .i64 (x8)), (5, .int .i64 (x36)), (6, .slice A74 ((x73).length) c75)] a ∧ St M w0 [] [] [fSl k_TRule A74 c75 x73, fSl k_TRule A6 c7 x5, fSl k_TRule A0_0 c0_0 u0] W) (fun a W hJ => ?_) ?_
         ·
          obtain ⟨x73, A74, c75, rfl, hF, hS⟩ := hJ
          have h := hk77
          refine tn ?_
          obtain ⟨o81, h, hk82⟩ := bindS h
          refine wp_join (fun a W => ∃ (x78 : List TRule) (A79 : Option Addr) (c80 : Nat), x78 = o81 ∧ FH 70 [(0, .slice A0_0 ((u0).length) c0_0), (3, .slice A79 ((x78).length) c80), (4, .int .i64 (x8))] a ∧ St M w0 [] [⟨k_TRule, 51, A79, c80, x78⟩] [fSl k_TRule A0_0 c0_0 u0] W) (fun a W hJ => ?_) ?_
          ·
           obtain ⟨x78, A79, c80, rfl, hF, hS⟩ := hJ
           have h := hk82
           refine bn ?_
           obtain rfl := si h
           exact then_j ⟨x78, A79, c80, rfl, (hF.keep ⟨rfl, rfl, rfl, trivial⟩), hS⟩
          ·
           obtain ⟨p83, cs84, hA85, hat86⟩ := SlR.at (hS.fc (i := 2) rfl) hx22
           obtain ⟨A87, c88, rfl, hs89⟩ := hat86.2.2.2
           have hS := hS.addFact (f := fAt k_TRule (p83.add (x8.toNat * 32)) (TRule.enc x21 A87 c88) x21) hat86
           have hS := hS.addFact (f := fSl k_TAct A87 c88 x21.Acts) hs89
           refine wp_drawn (fun _ => St M w0 [] [] [fSl k_TAct A87 c88 x21.Acts, fAt k_TRule (p83.add (x8.toNat * 32)) (TRule.enc x21 A87 c88) x21, fSl k_TRule A74 c75 x73, fSl k_TRule A6 c7 x5, fSl k_TRule A0_0 c0_0 u0]) (fun _ => false) rfl hS (fun W hB0 hR0 => ?_)
           have hS := hR0
           refine eqc hS fun hQC => ?_
           obtain ⟨hb90, h⟩ := ifS h
           obtain ⟨x91, hx92, h⟩ := bindS h
           obtain ⟨x93, hx94, h⟩ := bindS h
           obtain ⟨x95, hx96, h⟩ := bindS h
           refine e_val' 1 rfl (by kernel_rfl) (fun W => (v_move hF rfl)) hF rfl fun a hF => e_val' 2 rfl (by kernel_rfl) (fun W => (v_move hF rfl)) hF rfl fun a hF => e_val' 3 rfl (by kernel_rfl) (fun W => (v_slice (κ := k_TRule) (lo := 0) (hi := x36.toNat) hF rfl rfl rfl psl26 (.inl ⟨rfl, rfl⟩) (.inr ⟨_, _, rfl, by omega, rfl⟩) (by omega) (by omega) (hS.fc (i := 3) rfl).1)) hF rfl fun a hF => ?_
           have hcut99 := SlR.cut (xs := x5) (hS.fc (i := 3) rfl) (lo := 0) (hi := x36.toNat) (by omega) (by omega)
           generalize (if c7 = 0 then A6 else Option.map (fun (q : Addr) => q.add (0 * (k_TRule).sz)) A6) = A97 at hF hcut99
           generalize c7 - 0 = c98 at hF hcut99
           have hS := hS.addFact (f := fSl k_TRule A97 c98 ((x5.take x36.toNat).drop 0)) hcut99
           refine e_val' 5 rfl (by kernel_rfl) (fun W => (v_move hF rfl)) hF rfl fun a hF => e_val' 6 rfl (by kernel_rfl) (fun W => (v_move hF rfl)) hF rfl fun a hF => e_val' 7 rfl (by kernel_rfl) (fun W => (v_idx hF rfl hA85 rfl psl26 hx22)) hF rfl fun a hF => e_valS' 8 rfl (by kernel_rfl) (fun W hC => (v_load (cs := TRule.enc x21 A87 c88) hF rfl pa51 ps51 (hC.pc (i := 1) rfl))) hQC (by kernel_rfl) hF rfl fun a hF => e_val' 11 rfl (by kernel_rfl) (fun W => (v_move hF rfl)) hF rfl fun a hF => e_many [0, 9] (by kernel_rfl) (by decide) ⟨⟨_, rfl, ?_⟩, ⟨_, rfl, ?_⟩, trivial⟩
           ·
            refine sq_buildSlice (κ := k_TRule) (xs := []) (ys := ([] : List TRule)) hF hS rfl rfl rfl (Els.nil _ _ _) rfl psl26 pz51 rfl (by decide) (by decide) (by decide) (fun A100 c101 a W hF hS => ?_)
            refine sq_nil (then_j ⟨?_, ?_⟩)
            · exact fun _ _ => (hS.keep sl sn ⟨⟨1, rfl⟩, ⟨2, rfl⟩, ⟨3, rfl⟩, ⟨4, rfl⟩, ⟨5, rfl⟩, trivial⟩)
            ·
             refine e_many [4, 9] (by kernel_rfl) (by decide) ⟨⟨_, rfl, ?_⟩, ⟨_, rfl, ?_⟩, trivial⟩
             ·
              refine sq_append (ys := ((x5.take x36.toNat).drop 0)) hF hS (i := 0) rfl rfl rfl (SlR.src (hS.fc (i := 0) rfl)) psl26 pb51 pz51 rfl (by decide) (by decide) hx92 (by decide) (fun A102 c103 a W hF hS => ?_)
              refine sq_nil (then_j ⟨?_, ?_⟩)
              · exact fun _ _ => (hS.keep sl sn ⟨⟨1, rfl⟩, ⟨2, rfl⟩, ⟨3, rfl⟩, ⟨4, rfl⟩, ⟨5, rfl⟩, trivial⟩)
              ·
               refine e_one' 9 rfl (by kernel_rfl) <| sq_buildSlice (κ := k_TRule) (xs := [.tmp 64]) (ys := [x21]) hF hS rfl rfl rfl (Els.cons ⟨A87, c88, rfl, (hS.fc (i := 1) rfl)⟩ (Els.nil _ _ _)) rfl psl26 pz51 rfl (by decide) (by decide) (by decide) (fun A104 c105 a W hF hS => ?_)
               refine sq_nil (then_j ⟨?_, ?_⟩)
               · exact fun _ _ => (hS.keep sl sn ⟨⟨1, rfl⟩, ⟨2, rfl⟩, ⟨3, rfl⟩, ⟨4, rfl⟩, ⟨5, rfl⟩, trivial⟩)
               ·
                refine e_one' 10 rfl (by kernel_rfl) <| sq_append (ys := ([x21])) hF hS (i := 1) rfl rfl rfl (hS.rw_ (i := 0) rfl).src psl26 pb51 pz51 rfl (by decide) (by decide) hx94 (by decide) (fun A106 c107 a W hF hS => ?_)
                refine sq_nil (then_j ⟨?_, ?_⟩)
                · exact fun _ _ => (hS.keep sl sn ⟨⟨1, rfl⟩, ⟨2, rfl⟩, ⟨3, rfl⟩, ⟨4, rfl⟩, ⟨5, rfl⟩, trivial⟩)
                ·
                 refine e_one' 12 rfl (by kernel_rfl) <| sq_append (ys := x73) hF hS (i := 1) rfl rfl rfl (SlR.src (hS.fc (i := 3) rfl)) psl26 pb51 pz51 rfl (by decide) (by decide) hx96 (by decide) (fun A108 c109 a W hF hS => ?_)
                 refine sq_nil (then_j ⟨?_, ?_⟩)
                 · exact fun _ _ => (hS.keep sl sn ⟨⟨1, rfl⟩, ⟨2, rfl⟩, ⟨3, rfl⟩, ⟨4, rfl⟩, ⟨5, rfl⟩, trivial⟩)
                 ·
                  refine e_val' 13 rfl (by kernel_rfl) (fun W => (v_assign hF rfl)) hF rfl fun a hF => e_done (by kernel_rfl) ?_ _
                  obtain rfl := si h
                  exact then_j ⟨x95, A108, c109, rfl, (hF.keep ⟨rfl, rfl, rfl, trivial⟩), (hS.keep sl (.cons _ sl) ⟨⟨5, rfl⟩, trivial⟩)⟩
             ·
              refine sq_buildSlice (κ := k_TRule) (xs := [.tmp 64]) (ys := [x21]) hF hS rfl rfl rfl (Els.cons ⟨A87, c88, rfl, (hS.fc (i := 1) rfl)⟩ (Els.nil _ _ _)) rfl psl26 pz51 rfl (by decide) (by decide) (by decide) (fun A110 c111 a W hF hS => ?_)
              refine sq_nil (then_j ⟨?_, ?_⟩)
              · exact fun _ _ => (hS.keep sl sn ⟨⟨1, rfl⟩, ⟨2, rfl⟩, ⟨3, rfl⟩, ⟨4, rfl⟩, ⟨5, rfl⟩, trivial⟩)
              ·
               refine e_one' 4 rfl (by kernel_rfl) <| sq_append (ys := ((x5.take x36.toNat).drop 0)) hF hS (i := 1) rfl rfl rfl (SlR.src (hS.fc (i := 0) rfl)) psl26 pb51 pz51 rfl (by decide) (by decide) hx92 (by decide) (fun A112 c113 a W hF hS => ?_)
               refine sq_nil (then_j ⟨?_, ?_⟩)
               · exact fun _ _ => (hS.keep sl sn ⟨⟨1, rfl⟩, ⟨2, rfl⟩, ⟨3, rfl⟩, ⟨4, rfl⟩, ⟨5, rfl⟩, trivial⟩)
               ·
                refine e_one' 10 rfl (by kernel_rfl) <| sq_append (ys := ([x21])) hF hS (i := 1) rfl rfl rfl (hS.rw_ (i := 0) rfl).src psl26 pb51 pz51 rfl (by decide) (by decide) hx94 (by decide) (fun A114 c115 a W hF hS => ?_)
                refine sq_nil (then_j ⟨?_, ?_⟩)
                · exact fun _ _ => (hS.keep sl sn ⟨⟨1, rfl⟩, ⟨2, rfl⟩, ⟨3, rfl⟩, ⟨4, rfl⟩, ⟨5, rfl⟩, trivial⟩)
                ·
                 refine e_one' 12 rfl (by kernel_rfl) <| sq_append (ys := x73) hF hS (i := 1) rfl rfl rfl (SlR.src (hS.fc (i := 3) rfl)) psl26 pb51 pz51 rfl (by decide) (by decide) hx96 (by decide) (fun A116 c117 a W hF hS => ?_)
                 refine sq_nil (then_j ⟨?_, ?_⟩)
                 · exact fun _ _ => (hS.keep sl sn ⟨⟨1, rfl⟩, ⟨2, rfl⟩, ⟨3, rfl⟩, ⟨4, rfl⟩, ⟨5, rfl⟩, trivial⟩)
                 ·
                  refine e_val' 13 rfl (by kernel_rfl) (fun W => (v_assign hF rfl)) hF rfl fun a hF => e_done (by kernel_rfl) ?_ _
                  obtain rfl := si h
                  exact then_j ⟨x95, A116, c117, rfl, (hF.keep ⟨rfl, rfl, rfl, trivial⟩), (hS.keep sl (.cons _ sl) ⟨⟨5, rfl⟩, trivial⟩)⟩
           ·
            refine sq_buildSlice (κ := k_TRule) (xs := [.tmp 64]) (ys := [x21]) hF hS rfl rfl rfl (Els.cons ⟨A87, c88, rfl, (hS.fc (i := 1) rfl)⟩ (Els.nil _ _ _)) rfl psl26 pz51 rfl (by decide) (by decide) (by decide) (fun A118 c119 a W hF hS => ?_)
            refine sq_nil (then_j ⟨?_, ?_⟩)
            · exact fun _ _ => (hS.keep sl sn ⟨⟨1, rfl⟩, ⟨2, rfl⟩, ⟨3, rfl⟩, ⟨4, rfl⟩, ⟨5, rfl⟩, trivial⟩)
            ·
             refine e_one' 0 rfl (by kernel_rfl) <| sq_buildSlice (κ := k_TRule) (xs := []) (ys := ([] : List TRule)) hF hS rfl rfl rfl (Els.nil _ _ _) rfl psl26 pz51 rfl (by decide) (by decide) (by decide) (fun A120 c121 a W hF hS => ?_)
             refine sq_nil (then_j ⟨?_, ?_⟩)
             · exact fun _ _ => (hS.keep sl sn ⟨⟨1, rfl⟩, ⟨2, rfl⟩, ⟨3, rfl⟩, ⟨4, rfl⟩, ⟨5, rfl⟩, trivial⟩)
             ·
              refine e_one' 4 rfl (by kernel_rfl) <| sq_append (ys := ((x5.take x36.toNat).drop 0)) hF hS (i := 0) rfl rfl rfl (SlR.src (hS.fc (i := 0) rfl)) psl26 pb51 pz51 rfl (by decide) (by decide) hx92 (by decide) (fun A122 c123 a W hF hS => ?_)
              refine sq_nil (then_j ⟨?_, ?_⟩)
              · exact fun _ _ => (hS.keep sl sn ⟨⟨1, rfl⟩, ⟨2, rfl⟩, ⟨3, rfl⟩, ⟨4, rfl⟩, ⟨5, rfl⟩, trivial⟩)
              ·
               refine e_one' 10 rfl (by kernel_rfl) <| sq_append (ys := ([x21])) hF hS (i := 0) rfl rfl rfl (hS.rw_ (i := 1) rfl).src psl26 pb51 pz51 rfl (by decide) (by decide) hx94 (by decide) (fun A124 c125 a W hF hS => ?_)
               refine sq_nil (then_j ⟨?_, ?_⟩)
               · exact fun _ _ => (hS.keep sl sn ⟨⟨1, rfl⟩, ⟨2, rfl⟩, ⟨3, rfl⟩, ⟨4, rfl⟩, ⟨5, rfl⟩, trivial⟩)
               ·
                refine e_one' 12 rfl (by kernel_rfl) <| sq_append (ys := x73) hF hS (i := 0) rfl rfl rfl (SlR.src (hS.fc (i := 3) rfl)) psl26 pb51 pz51 rfl (by decide) (by decide) hx96 (by decide) (fun A126 c127 a W hF hS => ?_)
                refine sq_nil (then_j ⟨?_, ?_⟩)
                · exact fun _ _ => (hS.keep sl sn ⟨⟨1, rfl⟩, ⟨2, rfl⟩, ⟨3, rfl⟩, ⟨4, rfl⟩, ⟨5, rfl⟩, trivial⟩)
                ·
                 refine e_val' 13 rfl (by kernel_rfl) (fun W => (v_assign hF rfl)) hF rfl fun a hF => e_done (by kernel_rfl) ?_ _
                 obtain rfl := si h
                 exact then_j ⟨x95, A126, c127, rfl, (hF.keep ⟨rfl, rfl, rfl, trivial⟩), (hS.keep sl (.cons_cons _ sn) ⟨⟨5, rfl⟩, trivial⟩)⟩
         ·
          refine wi hF rfl h (fun h => ?_) fun h => ?_
          ·
           refine wg <| mv hF rfl rfl fun a hF => ?_
           have hS := hS.freeze (i := 0) rfl (posB rfl)
           obtain ⟨hb129, h⟩ := ifS h
           refine sv (v_slice (κ := k_TRule) (lo := (1 : Int).toNat) (hi := x47.length) hF rfl rfl rfl psl26 (.inr ⟨_, _, rfl, by omega, rfl⟩) (.inl ⟨rfl, rfl⟩) (by omega) (by omega) (hS.fc (i := 0) rfl).1) hF rfl fun a hF => ?_
           have hcut132 := SlR.cut (xs := x47) (hS.fc (i := 0) rfl) (lo := (1 : Int).toNat) (hi := x47.length) (by omega) (by omega)
           generalize (if c46 = (1 : Int).toNat then A45 else Option.map (fun (q : Addr) => q.add ((1 : Int).toNat * (k_TRule).sz)) A45) = A130 at hF hcut132
           generalize c46 - (1 : Int).toNat = c131 at hF hcut132
           have hS := hS.addFact (f := fSl k_TRule A130 c131 ((x47.take x47.length).drop (1 : Int).toNat)) hcut132
           refine av hF rfl rfl fun a hF => nl ?_
           obtain rfl := si h
           exact then_j ⟨((x47.take x47.length).drop (1 : Int).toNat), A130, c131, rfl, (hF.keep ⟨rfl, rfl, rfl, rfl, rfl, trivial⟩), (hS.keep sl sl ⟨⟨0, rfl⟩, ⟨3, rfl⟩, ⟨4, rfl⟩, trivial⟩)⟩
          ·
           refine sk ?_
           have hS := hS.freeze (i := 0) rfl (posB rfl)
           obtain rfl := si h
           exact then_j ⟨x47, A45, c46, rfl, (hF.keep ⟨rfl, rfl, rfl, rfl, rfl, trivial⟩), (hS.keep sl sl ⟨⟨0, rfl⟩, ⟨2, rfl⟩, ⟨3, rfl⟩, trivial⟩)⟩
        ·
         by_cases he49 : (decide (0 < (x47.length : Int))) = true
         ·
          replace h := ifT he49 h
          refine qt_yes hF rfl rfl he49 <| qv (fun W hC => (v_move hF rfl)) hF rfl fun a hF => qt_yes hF rfl rfl he49 ?_
          obtain ⟨x53, hx54, h⟩ := bindS h
          obtain ⟨p55, cs56, hA57, hc59, hr60⟩ := Row.ok.at (hS.rw_ (i := 0) rfl) hx54
          obtain ⟨A61, c62, rfl, hs63⟩ := hr60
          refine qv (fun W hC => (v_idx hF rfl hA57 rfl psl26 hx54)) hF rfl fun a hF => qt_yes hF rfl rfl he49 <| qv (fun W hC => (v_load (cs := TRule.enc x53 A61 c62) hF rfl pa51 ps51 (hc59.grow hC.1))) hF rfl fun a hF => qt_yes hF rfl rfl he49 <| qv (fun W hC => (v_move hF rfl)) hF rfl fun a hF => qt_yes hF rfl rfl he49 <| qv (fun W hC => (v_move hF rfl)) hF rfl fun a hF => qt_yes hF rfl rfl he49 ?_
          obtain ⟨p64, cs65, hA66, hat67⟩ := SlR.at (hS.fc (i := 2) rfl) hx22
          obtain ⟨A68, c69, rfl, hs70⟩ := hat67.2.2.2
          refine qv (fun W hC => (v_idx hF rfl hA66 rfl psl26 hx22)) hF rfl fun a hF => qt_yes hF rfl rfl he49 <| qv (fun W hC => (v_load (cs := TRule.enc x21 A68 c69) hF rfl pa51 ps51 (hat67.2.2.1.grow hC.1))) hF rfl fun a hF => qt_yes hF rfl rfl he49 ?_
          obtain ⟨x71, hx72, h⟩ := bindS h
          refine qt_call hF pc22 rfl (by decide) (fun W hC => q_of hC (ok_ref04_Key (((hC.2.addFact (f := fSl k_TAct A61 c62 x53.Acts) ((fSl k_TAct A61 c62 x53.Acts).st hs63 (Stp.below hC.1))).addFact (f := fSl k_TAct A68 c69 x21.Acts) ((fSl k_TAct A68 c69 x21.Acts).st hs70 (Stp.below hC.1))).enter ⟨⟨1, rfl⟩, ⟨0, rfl⟩, trivial⟩) hx72)) (fun a hF => ?_)
          refine qv (fun W hC => (v_pick_t hF rfl he49 rfl)) hF rfl fun a hF => ?_
          obtain rfl := si h
          exact qt_nil (hF.keep ⟨rfl, rfl, rfl, rfl, rfl, rfl, trivial⟩)
         ·
          have he49 : (decide (0 < (x47.length : Int))) = false := nB he49
          replace h := ifF he49 h
          refine qt_no hF rfl rfl he49 (by decide) (fun a hF => ?_)
          refine qt_no hF rfl rfl he49 (by decide) (fun a hF => ?_)
          refine qt_no hF rfl rfl he49 (by decide) (fun a hF => ?_)
          refine qt_no hF rfl rfl he49 (by decide) (fun a hF => ?_)
          refine qt_no hF rfl rfl he49 (by decide) (fun a hF => ?_)
          refine qt_no hF rfl rfl he49 (by decide) (fun a hF => ?_)
          refine qt_no hF rfl rfl he49 (by decide) (fun a hF => ?_)
          refine qt_no hF rfl rfl he49 (by decide) (fun a hF => ?_)
          refine qv (fun W hC => (v_pick_f hF rfl he49 rfl)) hF rfl fun a hF => ?_
          obtain rfl := si h
          exact qt_nil (hF.keep ⟨rfl, rfl, rfl, rfl, rfl, rfl, trivial⟩)
       ·
        refine wb <| wp_loop_fuel (I := fun m a W => ∃ (x35 : Int), FH 70 [(0, .slice A0_0 ((u0).length) c0_0), (3, .slice A6 ((x5).length) c7), (4, .int .i64 (x8)), (5, .int .i64 (x35))] a ∧ St M w0 [] [⟨k_TRule, 51, A6, c7, x5⟩] [fSl k_TRule A0_0 c0_0 u0] W ∧ (ref04_Sort.l1 k x5 x21 m x35) = some o37) ?_ (k := k) ⟨0, (hF.keep ⟨rfl, rfl, rfl, rfl, trivial⟩), (hS.keep sl sl ⟨⟨2, rfl⟩, trivial⟩), h⟩
        rintro m133 a W ⟨x35, hF, hS, h⟩
        cases m133 with
        | zero => cases h
        | succ m133 =>
         rw [ref04_Sort.l1] at h
         refine wq <| wq <| wp_quiet rfl (by kernel_rfl) hS <| qv (fun W hC => (v_move hF rfl)) hF rfl fun a hF => qv (fun W hC => (v_move hF rfl)) hF rfl fun a hF => qv (fun W hC => (v_len hF rfl pu26)) hF rfl fun a hF => qv (fun W hC => (v_lss hF rfl rfl)) hF rfl fun a hF => qv (fun W hC => (v_move hF rfl)) hF rfl fun a hF => ?_
         obtain ⟨x135, h, hk137⟩ := bindS h
         refine qt_cut 10 (fun a => FH 70 [(0, .slice A0_0 ((u0).length) c0_0), (3, .slice A6 ((x5).length) c7), (4, .int .i64 (x8)), (5, .int .i64 (x35)), (33, .bool x135)] a) (fun a hF => ?_) ?_
         ·
          have h := hk137
          refine qn ?_
          intro W hC
          have hS := hC.2
          refine tn <| wi hF rfl h (fun h => ?_) fun h => ?_
          ·
           exact sk <| tn <| wb <| wg <| mv hF rfl rfl fun a hF => sv (v_add hF rfl rfl) hF rfl fun a hF => av hF rfl rfl fun a hF => nl <| bn <| then_j ⟨m133, Nat.lt_succ_self _, (IntKind.i64.wrap (x35 + 1)), (hF.keep ⟨rfl, rfl, rfl, rfl, trivial⟩), hS, h⟩
          ·
           refine wp_exit <| tx <| tx <| bh ?_
           obtain rfl := si h
           exact then_j ⟨x35, rfl, (hF.keep ⟨rfl, rfl, rfl, rfl, trivial⟩), hS⟩
         ·
          by_cases he134 : (decide (x35 < (x5.length : Int))) = true
          ·
           replace h := ifT he134 h
           refine qt_yes hF rfl rfl he134 <| qv (fun W hC => (v_move hF rfl)) hF rfl fun a hF => qt_yes hF rfl rfl he134 <| qv (fun W hC => (v_move hF rfl)) hF rfl fun a hF => qt_yes hF rfl rfl he134 ?_
           obtain ⟨x138, hx139, h⟩ := bindS h
           obtain ⟨p140, cs141, hA142, hc144, hr145⟩ := Row.ok.at (hS.rw_ (i := 0) rfl) hx139
           obtain ⟨A146, c147, rfl, hs148⟩ := hr145
           refine qv (fun W hC => (v_idx hF rfl hA142 rfl psl26 hx139)) hF rfl fun a hF => qt_yes hF rfl rfl he134 <| qv (fun W hC => (v_load (cs := TRule.enc x138 A146 c147) hF rfl pa51 ps51 (hc144.grow hC.1))) hF rfl fun a hF => qt_yes hF rfl rfl he134 <| qv (fun W hC => (v_move hF rfl)) hF rfl fun a hF => qt_yes hF rfl rfl he134 <| qv (fun W hC => (v_move hF rfl)) hF rfl fun a hF => qt_yes hF rfl rfl he134 ?_
           obtain ⟨p149, cs150, hA151, hat152⟩ := SlR.at (hS.fc (i := 0) rfl) hx22
           obtain ⟨A153, c154, rfl, hs155⟩ := hat152.2.2.2
           refine qv (fun W hC => (v_idx hF rfl hA151 rfl psl26 hx22)) hF rfl fun a hF => qt_yes hF rfl rfl he134 <| qv (fun W hC => (v_load (cs := TRule.enc x21 A153 c154) hF rfl pa51 ps51 (hat152.2.2.1.grow hC.1))) hF rfl fun a hF => qt_yes hF rfl rfl he134 ?_
           obtain ⟨x156, hx157, h⟩ := bindS h
           refine qt_call hF pc84 rfl (by decide) (fun W hC => q_of hC (ok_ref04_Before k (((hC.2.addFact (f := fSl k_TAct A146 c147 x138.Acts) ((fSl k_TAct A146 c147 x138.Acts).st hs148 (Stp.below hC.1))).addFact (f := fSl k_TAct A153 c154 x21.Acts) ((fSl k_TAct A153 c154 x21.Acts).st hs155 (Stp.below hC.1))).enter ⟨⟨1, rfl⟩, ⟨0, rfl⟩, trivial⟩) hx157)) (fun a hF => ?_)
           refine qv (fun W hC => (v_pick_t hF rfl he134 rfl)) hF rfl fun a hF => ?_
           obtain rfl := si h
           exact qt_nil (hF.keep ⟨rfl, rfl, rfl, rfl, rfl, trivial⟩)
          ·
           have he134 : (decide (x35 < (x5.length : Int))) = false := nB he134
           replace h := ifF he134 h
           refine qt_no hF rfl rfl he134 (by decide) (fun a hF => ?_)
           refine qt_no hF rfl rfl he134 (by decide) (fun a hF => ?_)
           refine qt_no hF rfl rfl he134 (by decide) (fun a hF => ?_)
           refine qt_no hF rfl rfl he134 (by decide) (fun a hF => ?_)
           refine qt_no hF rfl rfl he134 (by decide) (fun a hF => ?_)
           refine qt_no hF rfl rfl he134 (by decide) (fun a hF => ?_)
           refine qt_no hF rfl rfl he134 (by decide) (fun a hF => ?_)
           refine qt_no hF rfl rfl he134 (by decide) (fun a hF => ?_)
           refine qt_no hF rfl rfl he134 (by decide) (fun a hF => ?_)
           refine qv (fun W hC => (v_pick_f hF rfl he134 rfl)) hF rfl fun a hF => ?_
           obtain rfl := si h
           exact qt_nil (hF.keep ⟨rfl, rfl, rfl, rfl, rfl, trivial⟩)
    ·
     refine wp_exit <| tx <| tx <| bh ?_
     obtain rfl := si h
     exact then_j ⟨x5, A6, c7, rfl, (hF.keep ⟨rfl, trivial⟩), (hS.keep sl sl trivial)⟩

theorem ok_ref01_Plain (k : Nat) {M : Nat → Prop} {w0 : World} {u0 : TCube} {o : Bool} (hS : St M w0 [] [] [] w0) (h : ref01_Plain k u0 = some o) :
    Calls Tryz.prog 182 #[.agg (TCube.enc u0).toArray] w0 fun e W' => ∃ v, e = .returned v ∧ (v = .bool (o) ∧ St M w0 [] [] [] W') := by
  unfold ref01_Plain at h
  refine cst Tryz.func182 rfl rfl rfl fun a hF => wq <| wg <| bv hF hS rfl rfl rfl fun b1 a W hF hS => av hF rfl rfl fun a hF => nl <| tn <| wq <| wq <| wg <| av hF rfl rfl fun a hF => nl <| tn ?_
  obtain ⟨o4, h, hk5⟩ := bindS h
  refine wp_join (fun a W => Lo.brk () = o4 ∧ FH 21 [(1, .pointer (some (⟨b1, 0, none⟩)))] a ∧ St M w0 [⟨b1, TCube.enc u0, 48⟩] [] [] W) (fun a W hJ => ?_) ?_
  ·
   obtain ⟨rfl, hF, hS⟩ := hJ
   have h := hk5
   dsimp only at h
   refine tn <| wq <| wg <| fv hF rfl pf48_1 rfl fun a hF => sv (v_load (cs := A12u64.enc u0.Care) hF rfl pa46 ps46 (cells_sub (vs := A12u64.enc u0.Care) (hS.bc (i := 0) rfl) rfl rfl)) hF rfl fun a hF => ?_
   obtain ⟨x6, hx7, h⟩ := bindS h
   refine cl hF pc161 rfl rfl (ok_ref01_Head k (hS.enter trivial) hx7) hS fun W a hF hS => av hF rfl rfl fun a hF => nl <| tn <| rt ?_
   obtain rfl := si h
   exact ret1 hF rfl (rv_tmp hF rfl) ⟨_, rfl, rfl, (hS.keep sn sl trivial)⟩
  ·
   refine wb <| wp_loop_fuel (I := fun m a W => ∃ (x3 : Int), FH 21 [(1, .pointer (some (⟨b1, 0, none⟩))), (3, .int .i64 (x3))] a ∧ St M w0 [⟨b1, TCube.enc u0, 48⟩] [] [] W ∧ (ref01_Plain.l0 k u0 m x3) = some o4) ?_ (k := k) ⟨0, (hF.keep ⟨rfl, rfl, trivial⟩), hS, h⟩
   rintro m9 a W ⟨x3, hF, hS, h⟩
   cases m9 with
   | zero => cases h
   | succ m9 =>
    rw [ref01_Plain.l0] at h
    refine wq <| wq <| wg <| mv hF rfl rfl fun a hF => sv (v_lss hF rfl rfl) hF rfl fun a hF => nl <| tn <| wi hF rfl h (fun h => ?_) fun h => ?_
    ·
     refine sk <| tn <| wq <| wb <| wq <| wp_quiet rfl (by kernel_rfl) hS <| qv (fun W hC => (v_move hF rfl)) hF rfl fun a hF => qv (fun W hC => (v_fieldAddr hF rfl pf48_0)) hF rfl fun a hF => ?_
     obtain ⟨hb11, h⟩ := ifS h
     refine qv (fun W hC => (v_indexAddr hF rfl rfl par46 hb11.1 hb11.2)) hF rfl fun a hF => qv (fun W hC => (v_load1 hF rfl pa44 (cells_sub (vs := [.int .u64 ((u0.Value.at x3))]) (hC.2.bc (i := 0) rfl) (add_add _ _ _) (TCube.get_Value u0 x3 hb11.1 hb11.2)))) hF rfl fun a hF => qv (fun W hC => (v_move hF rfl)) hF rfl fun a hF => qv (fun W hC => (v_fieldAddr hF rfl pf48_1)) hF rfl fun a hF => qv (fun W hC => (v_indexAddr hF rfl rfl par46 hb11.1 hb11.2)) hF rfl fun a hF => qv (fun W hC => (v_load1 hF rfl pa44 (cells_sub (vs := [.int .u64 ((u0.Care.at x3))]) (hC.2.bc (i := 0) rfl) (add_add _ _ _) (TCube.get_Care u0 x3 hb11.1 hb11.2)))) hF rfl fun a hF => qv (fun W hC => (v_andNot hF rfl rfl)) hF rfl fun a hF => qv (fun W hC => (v_neq hF rfl rfl)) hF rfl fun a hF => qn ?_
     intro W hC
     have hS := hC.2
     refine tn <| wi hF rfl h (fun h => ?_) fun h => ?_
     ·
      refine wq <| wg <| av hF rfl rfl fun a hF => nl <| tn <| rt <| br <| tr <| tr <| br <| tr <| tr ?_
      obtain rfl := si h
      have h := hk5
      dsimp only at h
      obtain rfl := si h
      exact ret1 hF rfl (rv_tmp hF rfl) ⟨_, rfl, rfl, (hS.keep sn sl trivial)⟩
     ·
      exact sk <| bn <| tn <| wg <| mv hF rfl rfl fun a hF => sv (v_add hF rfl rfl) hF rfl fun a hF => av hF rfl rfl fun a hF => nl <| then_j ⟨m9, Nat.lt_succ_self _, (IntKind.i64.wrap (x3 + 1)), (hF.keep ⟨rfl, rfl, trivial⟩), hS, h⟩
    ·
     refine wp_exit <| tx <| tx <| bh ?_
     obtain rfl := si h
     exact then_j ⟨rfl, (hF.keep ⟨rfl, trivial⟩), hS⟩

theorem ok_ref01_Within (k : Nat) {M : Nat → Prop} {w0 : World} {u0 : TCube} {u1 : TCube} {o : Bool} (hS : St M w0 [] [] [] w0) (h : ref01_Within k u0 u1 = some o) :
    Calls Tryz.prog 114 #[.agg (TCube.enc u0).toArray, .agg (TCube.enc u1).toArray] w0 fun e W' => ∃ v, e = .returned v ∧ (v = .bool (o) ∧ St M w0 [] [] [] W') := by
  unfold ref01_Within at h
  refine cst Tryz.func114 rfl rfl rfl fun a hF => wq <| wg <| bv hF hS rfl rfl rfl fun b1 a W hF hS => bv hF hS rfl rfl rfl fun b2 a W hF hS => av hF rfl rfl fun a hF => nl <| tn <| wq <| wq <| wg <| av hF rfl rfl fun a hF => nl <| tn ?_
  obtain ⟨o5, h, hk6⟩ := bindS h
  refine wp_join (fun a W => Lo.brk () = o5 ∧ FH 43 [(2, .pointer (some (⟨b1, 0, none⟩))), (3, .pointer (some (⟨b2, 0, none⟩)))] a ∧ St M w0 [⟨b2, TCube.enc u1, 48⟩, ⟨b1, TCube.enc u0, 48⟩] [] [] W) (fun a W hJ => ?_) ?_
  ·
   obtain ⟨rfl, hF, hS⟩ := hJ
   have h := hk6
   dsimp only at h
   refine tn <| wq <| wg <| sv (v_load (cs := TCube.enc u0) hF rfl pa48 ps48 (hS.bc (i := 1) rfl)) hF rfl fun a hF => ?_
   obtain ⟨x7, hx8, h⟩ := bindS h
   refine cl hF pc182 rfl rfl (ok_ref01_Plain k (hS.enter trivial) hx8) hS fun W a hF hS => mv hF rfl rfl fun a hF => gandB 2 2 39 hF hS h rfl rfl rfl rfl rfl (fun r12 h => ?_) (fun x11 a W h hF hS => ?_)
   ·
    refine sv (v_load (cs := TCube.enc u1) hF rfl pa48 ps48 (hS.bc (i := 0) rfl)) hF rfl fun a hF => ?_
    obtain ⟨x13, hx14, h⟩ := bindS h
    refine cl hF pc182 rfl rfl (ok_ref01_Plain k (hS.enter trivial) hx14) hS fun W a hF hS => ?_
    obtain rfl := si h
    exact gs 2 hF hS rfl rfl rfl
   ·
    refine av hF rfl rfl fun a hF => nl <| tn <| rt ?_
    obtain rfl := si h
    exact ret1 hF rfl (rv_tmp hF rfl) ⟨_, rfl, rfl, (hS.keep sn sl trivial)⟩
  ·
   refine wb <| wp_loop_fuel (I := fun m a W => ∃ (x4 : Int), FH 43 [(2, .pointer (some (⟨b1, 0, none⟩))), (3, .pointer (some (⟨b2, 0, none⟩))), (5, .int .i64 (x4))] a ∧ St M w0 [⟨b2, TCube.enc u1, 48⟩, ⟨b1, TCube.enc u0, 48⟩] [] [] W ∧ (ref01_Within.l0 k u0 u1 m x4) = some o5) ?_ (k := k) ⟨0, (hF.keep ⟨rfl, rfl, rfl, trivial⟩), hS, h⟩
   rintro m16 a W ⟨x4, hF, hS, h⟩
   cases m16 with
   | zero => cases h
   | succ m16 =>
    rw [ref01_Within.l0] at h
    refine wq <| wq <| wg <| mv hF rfl rfl fun a hF => sv (v_lss hF rfl rfl) hF rfl fun a hF => nl <| tn <| wi hF rfl h (fun h => ?_) fun h => ?_
    ·
     refine sk <| tn <| wq <| wb <| wq <| wp_quiet rfl (by kernel_rfl) hS <| qv (fun W hC => (v_move hF rfl)) hF rfl fun a hF => qv (fun W hC => (v_fieldAddr hF rfl pf48_1)) hF rfl fun a hF => ?_
     obtain ⟨hb18, h⟩ := ifS h
     refine qv (fun W hC => (v_indexAddr hF rfl rfl par46 hb18.1 hb18.2)) hF rfl fun a hF => qv (fun W hC => (v_load1 hF rfl pa44 (cells_sub (vs := [.int .u64 ((u1.Care.at x4))]) (hC.2.bc (i := 0) rfl) (add_add _ _ _) (TCube.get_Care u1 x4 hb18.1 hb18.2)))) hF rfl fun a hF => qv (fun W hC => (v_move hF rfl)) hF rfl fun a hF => qv (fun W hC => (v_fieldAddr hF rfl pf48_1)) hF rfl fun a hF => qv (fun W hC => (v_indexAddr hF rfl rfl par46 hb18.1 hb18.2)) hF rfl fun a hF => qv (fun W hC => (v_load1 hF rfl pa44 (cells_sub (vs := [.int .u64 ((u0.Care.at x4))]) (hC.2.bc (i := 1) rfl) (add_add _ _ _) (TCube.get_Care u0 x4 hb18.1 hb18.2)))) hF rfl fun a hF => qv (fun W hC => (v_andNot hF rfl rfl)) hF rfl fun a hF => qv (fun W hC => (v_neq hF rfl rfl)) hF rfl fun a hF => qv (fun W hC => (v_move hF rfl)) hF rfl fun a hF => qt_cut 16 (fun a => FH 43 [(2, .pointer (some (⟨b1, 0, none⟩))), (3, .pointer (some (⟨b2, 0, none⟩))), (5, .int .i64 (x4)), (36, .bool (((bAndNot .u64 (u1.Care.at x4) (u0.Care.at x4)) != 0) || ((bAnd .u64 (bXor .u64 (u0.Value.at x4) (u1.Value.at x4)) (u1.Care.at x4)) != 0)))] a) (fun a hF => ?_) ?_
     ·
      refine qn ?_
      intro W hC
      have hS := hC.2
      refine tn <| wi hF rfl h (fun h => ?_) fun h => ?_
      ·
       refine wq <| wg <| av hF rfl rfl fun a hF => nl <| tn <| rt <| br <| tr <| tr <| br <| tr <| tr ?_
       obtain rfl := si h
       have h := hk6
       dsimp only at h
       obtain rfl := si h
       exact ret1 hF rfl (rv_tmp hF rfl) ⟨_, rfl, rfl, (hS.keep sn sl trivial)⟩
      ·
       exact sk <| bn <| tn <| wg <| mv hF rfl rfl fun a hF => sv (v_add hF rfl rfl) hF rfl fun a hF => av hF rfl rfl fun a hF => nl <| then_j ⟨m16, Nat.lt_succ_self _, (IntKind.i64.wrap (x4 + 1)), (hF.keep ⟨rfl, rfl, rfl, trivial⟩), hS, h⟩
     ·
      by_cases he19 : ((bAndNot .u64 (u1.Care.at x4) (u0.Care.at x4)) != 0) = true
      ·
       refine qt_no hF rfl rfl he19 (by decide) (fun a hF => ?_)
       refine qt_no hF rfl rfl he19 (by decide) (fun a hF => ?_)
       refine qt_no hF rfl rfl he19 (by decide) (fun a hF => ?_)
       refine qt_no hF rfl rfl he19 (by decide) (fun a hF => ?_)
       refine qt_no hF rfl rfl he19 (by decide) (fun a hF => ?_)
       refine qt_no hF rfl rfl he19 (by decide) (fun a hF => ?_)
       refine qt_no hF rfl rfl he19 (by decide) (fun a hF => ?_)
       refine qt_no hF rfl rfl he19 (by decide) (fun a hF => ?_)
       refine qt_no hF rfl rfl he19 (by decide) (fun a hF => ?_)
       refine qt_no hF rfl rfl he19 (by decide) (fun a hF => ?_)
       refine qt_no hF rfl rfl he19 (by decide) (fun a hF => ?_)
       refine qt_no hF rfl rfl he19 (by decide) (fun a hF => ?_)
       refine qt_no hF rfl rfl he19 (by decide) (fun a hF => ?_)
       refine qt_no hF rfl rfl he19 (by decide) (fun a hF => ?_)
       refine qt_no hF rfl rfl he19 (by decide) (fun a hF => ?_)
       exact qv (fun W hC => (v_pick_t hF rfl he19 rfl)) hF rfl fun a hF => qt_nil (hF.keep ⟨rfl, rfl, rfl, (boolV (or_t he19)), trivial⟩)
      ·
       have he19 : ((bAndNot .u64 (u1.Care.at x4) (u0.Care.at x4)) != 0) = false := nB he19
       refine qt_yes hF rfl rfl he19 <| qv (fun W hC => (v_move hF rfl)) hF rfl fun a hF => qt_yes hF rfl rfl he19 <| qv (fun W hC => (v_fieldAddr hF rfl pf48_0)) hF rfl fun a hF => qt_yes hF rfl rfl he19 <| qv (fun W hC => (v_indexAddr hF rfl rfl par46 hb18.1 hb18.2)) hF rfl fun a hF => qt_yes hF rfl rfl he19 <| qv (fun W hC => (v_load1 hF rfl pa44 (cells_sub (vs := [.int .u64 ((u0.Value.at x4))]) (hC.2.bc (i := 1) rfl) (add_add _ _ _) (TCube.get_Value u0 x4 hb18.1 hb18.2)))) hF rfl fun a hF => qt_yes hF rfl rfl he19 <| qv (fun W hC => (v_move hF rfl)) hF rfl fun a hF => qt_yes hF rfl rfl he19 <| qv (fun W hC => (v_fieldAddr hF rfl pf48_0)) hF rfl fun a hF => qt_yes hF rfl rfl he19 <| qv (fun W hC => (v_indexAddr hF rfl rfl par46 hb18.1 hb18.2)) hF rfl fun a hF => qt_yes hF rfl rfl he19 <| qv (fun W hC => (v_load1 hF rfl pa44 (cells_sub (vs := [.int .u64 ((u1.Value.at x4))]) (hC.2.bc (i := 0) rfl) (add_add _ _ _) (TCube.get_Value u1 x4 hb18.1 hb18.2)))) hF rfl fun a hF => qt_yes hF rfl rfl he19 <| qv (fun W hC => (v_xor hF rfl rfl)) hF rfl fun a hF => qt_yes hF rfl rfl he19 <| qv (fun W hC => (v_move hF rfl)) hF rfl fun a hF => qt_yes hF rfl rfl he19 <| qv (fun W hC => (v_fieldAddr hF rfl pf48_1)) hF rfl fun a hF => qt_yes hF rfl rfl he19 <| qv (fun W hC => (v_indexAddr hF rfl rfl par46 hb18.1 hb18.2)) hF rfl fun a hF => qt_yes hF rfl rfl he19 <| qv (fun W hC => (v_load1 hF rfl pa44 (cells_sub (vs := [.int .u64 ((u1.Care.at x4))]) (hC.2.bc (i := 0) rfl) (add_add _ _ _) (TCube.get_Care u1 x4 hb18.1 hb18.2)))) hF rfl fun a hF => ?_
       exact qt_yes hF rfl rfl he19 <| qv (fun W hC => (v_and hF rfl rfl)) hF rfl fun a hF => qt_yes hF rfl rfl he19 <| qv (fun W hC => (v_neq hF rfl rfl)) hF rfl fun a hF => qv (fun W hC => (v_pick_f hF rfl he19 rfl)) hF rfl fun a hF => qt_nil (hF.keep ⟨rfl, rfl, rfl, (boolV (or_f he19)), trivial⟩)
    ·
     refine wp_exit <| tx <| tx <| bh ?_
     obtain rfl := si h
     exact then_j ⟨rfl, (hF.keep ⟨rfl, rfl, trivial⟩), hS⟩

theorem ok_ref04_Touched (k : Nat) {M : Nat → Prop} {w0 : World} {u0 : List TRule} {A0_0 : Option Addr} {c0_0 : Nat} {u1 : TMod} {A1_0 : Option Addr} {c1_0 : Nat} {o : (List Int)} (hS : St M w0 [] [] [fSl k_TRule A0_0 c0_0 u0, fSl k_TAct A1_0 c1_0 u1.Acts] w0) (h : ref04_Touched k u0 u1 = some o) :
    Calls Tryz.prog 74 #[.slice A0_0 ((u0).length) c0_0, .agg (TMod.enc u1 A1_0 c1_0).toArray] w0 fun e W' => ∃ v, e = .returned v ∧ (∃ (A77 : Option Addr) (c78 : Nat), v = .slice A77 ((o).length) c78 ∧ St M w0 [] [⟨(kInt .i64), 3, A77, c78, o⟩] [] W') := by
  unfold ref04_Touched at h
  refine cst Tryz.func74 rfl rfl rfl fun a hF => wq <| wg <| bv hF hS rfl rfl rfl fun b1 a W hF hS => av hF rfl rfl fun a hF => nl <| tn <| wq <| wg <| av hF rfl rfl fun a hF => nl <| tn <| wq <| wq <| wg <| av hF rfl rfl fun a hF => nl <| tn ?_
  obtain ⟨o13, h, hk14⟩ := bindS h
  refine wp_join (fun a W => ∃ (x10 : List Int) (A11 : Option Addr) (c12 : Nat), x10 = o13 ∧ FH 65 [(5, .slice A11 ((x10).length) c12)] a ∧ St M w0 [] [⟨(kInt .i64), 3, A11, c12, x10⟩] [] W) (fun a W hJ => ?_) ?_
  ·
   obtain ⟨x10, A11, c12, rfl, hF, hS⟩ := hJ
   have h := hk14
   refine tn <| wq <| wg <| mv hF rfl rfl fun a hF => av hF rfl rfl fun a hF => nl <| tn <| rt ?_
   obtain rfl := si h
   exact ret1 hF rfl (rv_tmp hF rfl) ⟨_, rfl, A11, c12, rfl, hS⟩
  ·
   have hS := hS.addNil (kInt .i64) 3
   refine wb <| wp_loop_fuel (I := fun m a W => ∃ (x6 : List Int) (x9 : Int) (A7 : Option Addr) (c8 : Nat), FH 65 [(0, .slice A0_0 ((u0).length) c0_0), (3, .pointer (some (⟨b1, 0, none⟩))), (5, .slice A7 ((x6).length) c8), (6, .int .i64 (x9))] a ∧ St M w0 [⟨b1, TMod.enc u1 A1_0 c1_0, 57⟩] [⟨(kInt .i64), 3, A7, c8, x6⟩] [fSl k_TRule A0_0 c0_0 u0, fSl k_TAct A1_0 c1_0 u1.Acts] W ∧ (ref04_Touched.l0 k u0 u1 m x6 x9) = some o13) ?_ (k := k) ⟨([]), 0, none, 0, (hF.keep ⟨rfl, rfl, rfl, rfl, trivial⟩), hS, h⟩
   rintro m15 a W ⟨x6, x9, A7, c8, hF, hS, h⟩
   cases m15 with
   | zero => cases h
   | succ m15 =>
    rw [ref04_Touched.l0] at h
    refine wq <| wq <| wg <| mv hF rfl rfl fun a hF => mv hF rfl rfl fun a hF => sv (v_len hF rfl pu26) hF rfl fun a hF => sv (v_lss hF rfl rfl) hF rfl fun a hF => nl <| tn <| wi hF rfl h (fun h => ?_) fun h => ?_
    ·
     refine sk <| tn <| wq ?_
     obtain ⟨o20, h, hk21⟩ := bindS h
     refine wp_join (fun a W => ∃ (x17 : List Int) (A18 : Option Addr) (c19 : Nat), x17 = o20 ∧ FH 65 [(0, .slice A0_0 ((u0).length) c0_0), (3, .pointer (some (⟨b1, 0, none⟩))), (5, .slice A18 ((x17).length) c19), (6, .int .i64 (x9))] a ∧ St M w0 [⟨b1, TMod.enc u1 A1_0 c1_0, 57⟩] [⟨(kInt .i64), 3, A18, c19, x17⟩] [fSl k_TRule A0_0 c0_0 u0, fSl k_TAct A1_0 c1_0 u1.Acts] W) (fun a W hJ => ?_) ?_
     ·
      obtain ⟨x17, A18, c19, rfl, hF, hS⟩ := hJ
      have h := hk21
      exact tn <| wg <| mv hF rfl rfl fun a hF => sv (v_add hF rfl rfl) hF rfl fun a hF => av hF rfl rfl fun a hF => nl <| then_j ⟨m15, Nat.lt_succ_self _, x17, (IntKind.i64.wrap (x9 + 1)), A18, c19, (hF.keep ⟨rfl, rfl, rfl, rfl, trivial⟩), hS, h⟩
     ·
      refine wb <| wq <| wg <| mv hF rfl rfl fun a hF => mv hF rfl rfl fun a hF => ?_
      obtain ⟨x22, hx23, h⟩ := bindS h
      obtain ⟨p24, cs25, hA26, hat27⟩ := SlR.at (hS.fc (i := 0) rfl) hx23
      obtain ⟨A28, c29, rfl, hs30⟩ := hat27.2.2.2
      have hS := hS.addFact (f := fAt k_TRule (p24.add (x9.toNat * 32)) (TRule.enc x22 A28 c29) x22) hat27
      have hS := hS.addFact (f := fSl k_TAct A28 c29 x22.Acts) hs30
      refine sv (v_idx hF rfl hA26 rfl psl26 hx23) hF rfl fun a hF => sv (v_load (cs := TRule.enc x22 A28 c29) hF rfl pa51 ps51 (hS.pc (i := 1) rfl)) hF rfl fun a hF => al hF hS pz51 rfl rfl fun b31 a W hF hS => sq_store (o := 0) (vs := TRule.enc x22 A28 c29) (cs' := TRule.enc x22 A28 c29) hF hS rfl rfl (i := 0) rfl rfl rfl ps51 (TRule.enc_one _ _ _) (bl rfl) rfl fun W hS => nl <| tn <| wq <| wg <| fv hF rfl pf51_5 rfl fun a hF => lv hF rfl pa3 (hS.bc (i := 0) rfl) rfl rfl rfl fun a hF => fv hF rfl pf57_6 rfl fun a hF => lv hF rfl pa3 (hS.bc (i := 1) rfl) rfl rfl rfl fun a hF => sv (v_eql hF rfl rfl) hF rfl fun a hF => av hF rfl rfl fun a hF => nl <| tn <| wq <| wq <| wg <| fv hF rfl pf57_0 rfl fun a hF => lv hF rfl pa3 (hS.bc (i := 1) rfl) rfl rfl rfl fun a hF => nl <| tn ?_
      obtain ⟨o33, h, hk34⟩ := bindS h
      refine wp_join (fun a W => ∃ (x32 : Bool), x32 = o33 ∧ FH 65 [(0, .slice A0_0 ((u0).length) c0_0), (3, .pointer (some (⟨b1, 0, none⟩))), (5, .slice A7 ((x6).length) c8), (6, .int .i64 (x9)), (8, .bool (x32))] a ∧ St M w0 [⟨b1, TMod.enc u1 A1_0 c1_0, 57⟩] [⟨(kInt .i64), 3, A7, c8, x6⟩] [fSl k_TRule A0_0 c0_0 u0, fSl k_TAct A1_0 c1_0 u1.Acts] W) (fun a W hJ => ?_) ?_
      ·
       obtain ⟨x32, rfl, hF, hS⟩ := hJ
       have h := hk34
       refine tn <| wq <| wg <| mv hF rfl rfl fun a hF => mv hF rfl rfl fun a hF => gandB 2 1 56 hF hS h rfl rfl rfl rfl rfl (fun r37 h => ?_) (fun x36 a W h hF hS => ?_)
       ·
        refine sv (v_load (cs := TMod.enc u1 A1_0 c1_0) hF rfl pa57 ps57 (hS.bc (i := 0) rfl)) hF rfl fun a hF => ?_
        obtain ⟨x38, hx39, h⟩ := bindS h
        refine cl hF pc26 rfl rfl (ok_ref04_Mod k (hS.enter ⟨⟨1, rfl⟩, trivial⟩) hx39) hS fun W a hF hS => ?_
        obtain rfl := si h
        exact gs 2 hF hS rfl rfl rfl
       ·
        refine nl <| tn ?_
        obtain ⟨o44, h, hk45⟩ := bindS h
        refine wp_join (fun a W => ∃ (x41 : List Int) (A42 : Option Addr) (c43 : Nat), x41 = o44 ∧ FH 65 [(0, .slice A0_0 ((u0).length) c0_0), (3, .pointer (some (⟨b1, 0, none⟩))), (5, .slice A42 ((x41).length) c43), (6, .int .i64 (x9))] a ∧ St M w0 [⟨b1, TMod.enc u1 A1_0 c1_0, 57⟩] [⟨(kInt .i64), 3, A42, c43, x41⟩] [fSl k_TRule A0_0 c0_0 u0, fSl k_TAct A1_0 c1_0 u1.Acts] W) (fun a W hJ => ?_) ?_
        ·
         obtain ⟨x41, A42, c43, rfl, hF, hS⟩ := hJ
         have h := hk45
         refine bn ?_
         obtain rfl := si h
         exact then_j ⟨x41, A42, c43, rfl, (hF.keep ⟨rfl, rfl, rfl, rfl, trivial⟩), hS⟩
        ·
         refine wi hF rfl h (fun h => ?_) fun h => ?_
         ·
          refine wg <| mv hF rfl rfl fun a hF => mv hF rfl rfl fun a hF => sq_buildSlice (κ := (kInt .i64)) (xs := [.tmp 61]) (ys := [x9]) hF hS rfl rfl rfl (Els.cons rfl (Els.nil _ _ _)) rfl psl38 pz3 rfl (by decide) (by decide) (by decide) (fun A47 c48 a W hF hS => ?_)
          obtain ⟨x51, hx52, h⟩ := bindS h
          refine sq_append (ys := ([x9])) hF hS (i := 1) rfl rfl rfl (hS.rw_ (i := 0) rfl).src psl38 pb3 pz3 rfl (by decide) (by decide) hx52 (by decide) (fun A49 c50 a W hF hS => ?_)
          refine av hF rfl rfl fun a hF => nl ?_
          obtain rfl := si h
          exact then_j ⟨x51, A49, c50, rfl, (hF.keep ⟨rfl, rfl, rfl, rfl, trivial⟩), (hS.keep sl (.cons _ sl) ⟨⟨0, rfl⟩, ⟨1, rfl⟩, trivial⟩)⟩
         ·
          refine sk ?_
          obtain rfl := si h
          exact then_j ⟨x6, A7, c8, rfl, (hF.keep ⟨rfl, rfl, rfl, rfl, trivial⟩), hS⟩
      ·
       refine wb <| wq <| wq <| wg <| sv (v_eql hF rfl rfl) hF rfl fun a hF => av hF rfl rfl fun a hF => nl <| tn ?_
       obtain ⟨o54, h, hk55⟩ := bindS h
       refine wp_join (fun a W => ∃ (x53 : Bool), x53 = o54 ∧ FH 65 [(0, .slice A0_0 ((u0).length) c0_0), (3, .pointer (some (⟨b1, 0, none⟩))), (5, .slice A7 ((x6).length) c8), (6, .int .i64 (x9)), (7, .pointer (some (⟨b31, 0, none⟩))), (8, .bool ((x22.Owner == u1.Owner))), (25, .int .i64 (u1.Kind)), (26, .bool (x53))] a ∧ St M w0 [⟨b31, TRule.enc x22 A28 c29, 51⟩, ⟨b1, TMod.enc u1 A1_0 c1_0, 57⟩] [⟨(kInt .i64), 3, A7, c8, x6⟩] [fSl k_TAct A28 c29 x22.Acts, fSl k_TRule A0_0 c0_0 u0, fSl k_TAct A1_0 c1_0 u1.Acts] W) (fun a W hJ => ?_) ?_
       ·
        obtain ⟨x53, rfl, hF, hS⟩ := hJ
        have h := hk55
        refine tn ?_
        obtain ⟨o57, h, hk58⟩ := bindS h
        refine wp_join (fun a W => ∃ (x56 : Bool), x56 = o57 ∧ FH 65 [(0, .slice A0_0 ((u0).length) c0_0), (3, .pointer (some (⟨b1, 0, none⟩))), (5, .slice A7 ((x6).length) c8), (6, .int .i64 (x9)), (8, .bool (x56))] a ∧ St M w0 [⟨b1, TMod.enc u1 A1_0 c1_0, 57⟩] [⟨(kInt .i64), 3, A7, c8, x6⟩] [fSl k_TRule A0_0 c0_0 u0, fSl k_TAct A1_0 c1_0 u1.Acts] W) (fun a W hJ => ?_) ?_
        ·
         obtain ⟨x56, rfl, hF, hS⟩ := hJ
         have h := hk58
         refine bn ?_
         obtain rfl := si h
         exact then_j ⟨x56, rfl, (hF.keep ⟨rfl, rfl, rfl, rfl, rfl, trivial⟩), hS⟩
        ·
         refine wi hF rfl h (fun h => ?_) fun h => ?_
         ·
          refine wg <| mv hF rfl rfl fun a hF => mv hF rfl rfl fun a hF => gandB 5 1 30 hF hS h rfl rfl rfl rfl rfl (fun r62 h => ?_) (fun x61 a W h hF hS => ?_)
          ·
           refine fv hF rfl pf51_0 rfl fun a hF => sv (v_load (cs := TCube.enc x22.Match) hF rfl pa48 ps48 (cells_sub (vs := TCube.enc x22.Match) (hS.bc (i := 0) rfl) rfl rfl)) hF rfl fun a hF => fv hF rfl pf57_1 rfl fun a hF => sv (v_load (cs := TCube.enc u1.Match) hF rfl pa48 ps48 (cells_sub (vs := TCube.enc u1.Match) (hS.bc (i := 1) rfl) rfl rfl)) hF rfl fun a hF => ?_
           obtain ⟨x63, hx64, h⟩ := bindS h
           refine cl hF pc114 rfl rfl (ok_ref01_Within k (hS.enter trivial) hx64) hS fun W a hF hS => ?_
           obtain rfl := si h
           exact gs 5 hF hS rfl rfl rfl
          ·
           refine av hF rfl rfl fun a hF => nl ?_
           obtain rfl := si h
           exact then_j ⟨x61, rfl, (hF.keep ⟨rfl, rfl, rfl, rfl, rfl, trivial⟩), (hS.keep (.cons _ sl) sl ⟨⟨1, rfl⟩, ⟨2, rfl⟩, trivial⟩)⟩
         ·
          refine wq <| wq <| wg <| sv (v_eql hF rfl rfl) hF rfl fun a hF => av hF rfl rfl fun a hF => nl <| tn ?_
          obtain ⟨o67, h, hk68⟩ := bindS h
          refine wp_join (fun a W => ∃ (x66 : Bool), x66 = o67 ∧ FH 65 [(0, .slice A0_0 ((u0).length) c0_0), (3, .pointer (some (⟨b1, 0, none⟩))), (5, .slice A7 ((x6).length) c8), (6, .int .i64 (x9)), (7, .pointer (some (⟨b31, 0, none⟩))), (8, .bool ((x22.Owner == u1.Owner))), (37, .bool (x66))] a ∧ St M w0 [⟨b31, TRule.enc x22 A28 c29, 51⟩, ⟨b1, TMod.enc u1 A1_0 c1_0, 57⟩] [⟨(kInt .i64), 3, A7, c8, x6⟩] [fSl k_TAct A28 c29 x22.Acts, fSl k_TRule A0_0 c0_0 u0, fSl k_TAct A1_0 c1_0 u1.Acts] W) (fun a W hJ => ?_) ?_
          ·
           obtain ⟨x66, rfl, hF, hS⟩ := hJ
           have h := hk68
           refine tn ?_
           obtain ⟨o70, h, hk71⟩ := bindS h
           refine wp_join (fun a W => ∃ (x69 : Bool), x69 = o70 ∧ FH 65 [(0, .slice A0_0 ((u0).length) c0_0), (3, .pointer (some (⟨b1, 0, none⟩))), (5, .slice A7 ((x6).length) c8), (6, .int .i64 (x9)), (8, .bool (x69))] a ∧ St M w0 [⟨b1, TMod.enc u1 A1_0 c1_0, 57⟩] [⟨(kInt .i64), 3, A7, c8, x6⟩] [fSl k_TRule A0_0 c0_0 u0, fSl k_TAct A1_0 c1_0 u1.Acts] W) (fun a W hJ => ?_) ?_
           ·
            obtain ⟨x69, rfl, hF, hS⟩ := hJ
            have h := hk71
            obtain rfl := si h
            exact then_j ⟨x69, rfl, (hF.keep ⟨rfl, rfl, rfl, rfl, rfl, trivial⟩), hS⟩
           ·
            refine wi hF rfl h (fun h => ?_) fun h => ?_
            ·
             refine wg <| mv hF rfl rfl fun a hF => mv hF rfl rfl fun a hF => gand 5 1 41 ((cellsEq (TCube.enc x22.Match) (TCube.enc u1.Match))) hF rfl rfl rfl rfl rfl (fun _ => ?_) (fun a hF => ?_)
             ·
              refine fv hF rfl pf51_0 rfl fun a hF => sv (v_load (cs := TCube.enc x22.Match) hF rfl pa48 ps48 (cells_sub (vs := TCube.enc x22.Match) (hS.bc (i := 0) rfl) rfl rfl)) hF rfl fun a hF => fv hF rfl pf57_1 rfl fun a hF => sv (v_load (cs := TCube.enc u1.Match) hF rfl pa48 ps48 (cells_sub (vs := TCube.enc u1.Match) (hS.bc (i := 1) rfl) rfl rfl)) hF rfl fun a hF => sq_val (eq48 hF rfl rfl).1 hF (by decide) (fun a hF => ?_)
              exact gq 5 hF rfl rfl rfl
             ·
              refine mv hF rfl rfl fun a hF => gand 5 8 48 ((x22.Prio == u1.Prio)) hF rfl rfl rfl rfl rfl (fun _ => ?_) (fun a hF => ?_)
              ·
               exact fv hF rfl pf51_1 rfl fun a hF => lv hF rfl pa3 (hS.bc (i := 0) rfl) rfl rfl rfl fun a hF => fv hF rfl pf57_2 rfl fun a hF => lv hF rfl pa3 (hS.bc (i := 1) rfl) rfl rfl rfl fun a hF => sv (v_eql hF rfl rfl) hF rfl fun a hF => gq 5 hF rfl rfl rfl
              ·
               refine av hF rfl rfl fun a hF => nl ?_
               obtain rfl := si h
               exact then_j ⟨(((x22.Owner == u1.Owner) && (cellsEq (TCube.enc x22.Match) (TCube.enc u1.Match))) && (x22.Prio == u1.Prio)), rfl, (hF.keep ⟨rfl, rfl, rfl, rfl, rfl, trivial⟩), (hS.keep (.cons _ sl) sl ⟨⟨1, rfl⟩, ⟨2, rfl⟩, trivial⟩)⟩
            ·
             refine wg <| av hF rfl rfl fun a hF => nl ?_
             obtain rfl := si h
             exact then_j ⟨false, rfl, (hF.keep ⟨rfl, rfl, rfl, rfl, rfl, trivial⟩), (hS.keep (.cons _ sl) sl ⟨⟨1, rfl⟩, ⟨2, rfl⟩, trivial⟩)⟩
          ·
           refine wi hF rfl h (fun h => ?_) fun h => ?_
           ·
            refine sk ?_
            obtain rfl := si h
            exact then_j ⟨(u1.Kind == 4), rfl, (hF.keep ⟨rfl, rfl, rfl, rfl, rfl, rfl, rfl, trivial⟩), hS⟩
           ·
            refine wg <| sv (v_eql hF rfl rfl) hF rfl fun a hF => av hF rfl rfl fun a hF => nl ?_
            obtain rfl := si h
            exact then_j ⟨(u1.Kind == 5), rfl, (hF.keep ⟨rfl, rfl, rfl, rfl, rfl, rfl, rfl, trivial⟩), hS⟩
       ·
        refine wi hF rfl h (fun h => ?_) fun h => ?_
        ·
         refine sk ?_
         obtain rfl := si h
         exact then_j ⟨(u1.Kind == 2), rfl, (hF.keep ⟨rfl, rfl, rfl, rfl, rfl, rfl, rfl, rfl, trivial⟩), (hS.keep sl sl ⟨⟨0, rfl⟩, ⟨2, rfl⟩, ⟨3, rfl⟩, trivial⟩)⟩
        ·
         refine wg <| sv (v_eql hF rfl rfl) hF rfl fun a hF => av hF rfl rfl fun a hF => nl ?_
         obtain rfl := si h
         exact then_j ⟨(u1.Kind == 3), rfl, (hF.keep ⟨rfl, rfl, rfl, rfl, rfl, rfl, rfl, rfl, trivial⟩), (hS.keep sl sl ⟨⟨0, rfl⟩, ⟨2, rfl⟩, ⟨3, rfl⟩, trivial⟩)⟩
    ·
     refine wp_exit <| tx <| tx <| bh ?_
     obtain rfl := si h
     exact then_j ⟨x6, A7, c8, rfl, (hF.keep ⟨rfl, trivial⟩), (hS.keep sn sl trivial)⟩

theorem ok_ref04_Apply (k : Nat) {M : Nat → Prop} {w0 : World} {u0 : List TRule} {A0_0 : Option Addr} {c0_0 : Nat} {u1 : TMod} {A1_0 : Option Addr} {c1_0 : Nat} {u2 : Int} {o : (List TRule) × Int} (hS : St M w0 [] [] [fSl k_TRule A0_0 c0_0 u0, fSl k_TAct A1_0 c1_0 u1.Acts] w0) (h : ref04_Apply k u0 u1 u2 = some o) :
    Calls Tryz.prog 28 #[.slice A0_0 ((u0).length) c0_0, .agg (TMod.enc u1 A1_0 c1_0).toArray, .int .i64 (u2)] w0 fun e W' => ∃ v, e = .returned v ∧ (∃ (A193 : Option Addr) (c194 : Nat), v = .tuple #[.slice A193 ((o.1).length) c194, .int .i64 (o.2)] ∧ St M w0 [] [⟨k_TRule, 51, A193, c194, o.1⟩] [] W') := by
  unfold ref04_Apply at h
  refine cst Tryz.func28 rfl rfl rfl fun a hF => wq <| wg <| bv hF hS rfl rfl rfl fun b1 a W hF hS => av hF rfl rfl fun a hF => av hF rfl rfl fun a hF => nl <| tn <| wq <| wq <| wg <| mv hF rfl rfl fun a hF => ?_
  obtain ⟨x2, hx3, h⟩ := bindS h
  refine cl hF pc35 rfl rfl (ok_ref04_Table k (hS.enter ⟨⟨0, rfl⟩, trivial⟩) hx3) hS fun W a hF hS => sv (v_not hF rfl) hF rfl fun a hF => mv hF rfl rfl fun a hF => gorB 3 3 19 hF hS h rfl rfl rfl rfl rfl (fun r7 h => ?_) (fun x6 a W h hF hS => ?_)
  ·
   refine sv (v_load (cs := TMod.enc u1 A1_0 c1_0) hF rfl pa57 ps57 (hS.bc (i := 0) rfl)) hF rfl fun a hF => ?_
   obtain ⟨x8, hx9, h⟩ := bindS h
   refine cl hF pc26 rfl rfl (ok_ref04_Mod k (hS.enter ⟨⟨1, rfl⟩, trivial⟩) hx9) hS fun W a hF hS => sv (v_not hF rfl) hF rfl fun a hF => ?_
   obtain rfl := si h
   exact gs 3 hF hS rfl rfl rfl
  ·
   refine nl <| tn <| wi hF rfl h (fun h => ?_) fun h => ?_
   ·
    refine wq <| wg <| av hF rfl rfl fun a hF => av hF rfl rfl fun a hF => nl <| tn <| rt <| tr ?_
    have hS := hS.addNil k_TRule 51
    obtain rfl := si h
    exact ret2 hF rfl (rv_tmp hF rfl) (rv_tmp hF rfl) ⟨_, rfl, none, 0, rfl, (hS.keep sn sl trivial)⟩
   ·
    refine sk <| tn <| wq <| wq <| wg <| fv hF rfl pf57_0 rfl fun a hF => lv hF rfl pa3 (hS.bc (i := 0) rfl) rfl rfl rfl fun a hF => sv (v_eql hF rfl rfl) hF rfl fun a hF => nl <| tn <| wi hF rfl h (fun h => ?_) fun h => ?_
    ·
     refine wq <| wg <| fv hF rfl pf57_1 rfl fun a hF => sv (v_load (cs := TCube.enc u1.Match) hF rfl pa48 ps48 (cells_sub (vs := TCube.enc u1.Match) (hS.bc (i := 0) rfl) rfl rfl)) hF rfl fun a hF => fv hF rfl pf57_2 rfl fun a hF => lv hF rfl pa3 (hS.bc (i := 0) rfl) rfl rfl rfl fun a hF => fv hF rfl pf57_3 rfl fun a hF => lv hF rfl pa49 (hS.bc (i := 0) rfl) rfl rfl rfl fun a hF => fv hF rfl pf57_4 rfl fun a hF => lv hF rfl pa3 (hS.bc (i := 0) rfl) rfl rfl rfl fun a hF => fv hF rfl pf57_5 rfl fun a hF => lv hF rfl pa3 (hS.bc (i := 0) rfl) rfl rfl rfl fun a hF => fv hF rfl pf57_6 rfl fun a hF => lv hF rfl pa3 (hS.bc (i := 0) rfl) rfl rfl rfl fun a hF => sv (v_build (parts := [(0, .tmp 28), (1, .tmp 30), (2, .tmp 32), (3, .tmp 34), (4, .tmp 36), (5, .tmp 38)]) (out := TRule.enc ({ Match := u1.Match, Prio := u1.Prio, Acts := u1.Acts, Idle := u1.Idle, Hard := u1.Hard, Owner := u1.Owner, Hits := 0, Quiet := 0, Age := 0 } : TRule) A1_0 c1_0) hF rfl rfl pz51 rfl pp51 rfl) hF rfl fun a hF => al hF hS pz51 rfl rfl fun b13 a W hF hS => sq_store (o := 0) (vs := TRule.enc ({ Match := u1.Match, Prio := u1.Prio, Acts := u1.Acts, Idle := u1.Idle, Hard := u1.Hard, Owner := u1.Owner, Hits := 0, Quiet := 0, Age := 0 } : TRule) A1_0 c1_0) (cs' := TRule.enc ({ Match := u1.Match, Prio := u1.Prio, Acts := u1.Acts, Idle := u1.Idle, Hard := u1.Hard, Owner := u1.Owner, Hits := 0, Quiet := 0, Age := 0 } : TRule) A1_0 c1_0) hF hS rfl rfl (i := 0) rfl rfl rfl ps51 (TRule.enc_one _ _ _) (bl rfl) rfl fun W hS => ?_
     refine nl <| tn <| wq <| wg <| av hF rfl rfl fun a hF => av hF rfl rfl fun a hF => nl <| tn <| wq <| wq <| wg <| av hF rfl rfl fun a hF => nl <| tn ?_
     obtain ⟨o22, h, hk23⟩ := bindS h
     refine wp_join (fun a W => ∃ (x20 : Bool) (x21 : Bool), Lo.brk (x20, x21) = o22 ∧ FH 130 [(0, .slice A0_0 ((u0).length) c0_0), (2, .int .i64 (u2)), (4, .pointer (some (⟨b1, 0, none⟩))), (8, .pointer (some (⟨b13, 0, none⟩))), (9, .bool (x20)), (10, .bool (x21))] a ∧ St M w0 [⟨b13, TRule.enc ({ Match := u1.Match, Prio := u1.Prio, Acts := u1.Acts, Idle := u1.Idle, Hard := u1.Hard, Owner := u1.Owner, Hits := 0, Quiet := 0, Age := 0 } : TRule) A1_0 c1_0, 51⟩, ⟨b1, TMod.enc u1 A1_0 c1_0, 57⟩] [] [fSl k_TRule A0_0 c0_0 u0, fSl k_TAct A1_0 c1_0 u1.Acts] W) (fun a W hJ => ?_) ?_
     ·
      obtain ⟨x20, x21, rfl, hF, hS⟩ := hJ
      have h := hk23
      dsimp only at h
      refine tn <| wq <| wq <| wg <| fv hF rfl pf57_7 rfl fun a hF => lv hF rfl pa4 (hS.bc (i := 1) rfl) rfl rfl rfl fun a hF => mv hF rfl rfl fun a hF => gand 1 2 71 (x21) hF rfl rfl rfl rfl rfl (fun _ => ?_) (fun a hF => ?_)
      ·
       exact mv hF rfl rfl fun a hF => gq 1 hF rfl rfl rfl
      ·
       refine nl <| tn <| wi hF rfl h (fun h => ?_) fun h => ?_
       ·
        refine wq <| wg <| av hF rfl rfl fun a hF => av hF rfl rfl fun a hF => nl <| tn <| rt <| tr <| tr ?_
        have hS := hS.addNil k_TRule 51
        obtain rfl := si h
        exact ret2 hF rfl (rv_tmp hF rfl) (rv_tmp hF rfl) ⟨_, rfl, none, 0, rfl, (hS.keep sn sl trivial)⟩
       ·
        refine sk <| tn <| wq <| wq <| wg <| mv hF rfl rfl fun a hF => sv (v_not hF rfl) hF rfl fun a hF => mv hF rfl rfl fun a hF => gand 4 2 76 ((decide (u2 ≤ (u0.length : Int)))) hF rfl rfl rfl rfl rfl (fun _ => ?_) (fun a hF => ?_)
        ·
         exact mv hF rfl rfl fun a hF => sv (v_len hF rfl pu26) hF rfl fun a hF => mv hF rfl rfl fun a hF => sv (v_geq hF rfl rfl) hF rfl fun a hF => gq 4 hF rfl rfl rfl
        ·
         refine nl <| tn <| wi hF rfl h (fun h => ?_) fun h => ?_
         ·
          refine wq <| wg <| av hF rfl rfl fun a hF => av hF rfl rfl fun a hF => nl <| tn <| rt <| tr <| tr ?_
          have hS := hS.addNil k_TRule 51
          obtain rfl := si h
          exact ret2 hF rfl (rv_tmp hF rfl) (rv_tmp hF rfl) ⟨_, rfl, none, 0, rfl, (hS.keep sn sl trivial)⟩
         ·
          refine sk <| tn <| wq ?_
          obtain ⟨o32, h, hk33⟩ := bindS h
          refine wp_join (fun a W => ∃ (x28 : List TRule) (x31 : Int) (A29 : Option Addr) (c30 : Nat), (x28, x31) = o32 ∧ FH 130 [(6, .slice A29 ((x28).length) c30), (7, .int .i64 (x31))] a ∧ St M w0 [] [⟨k_TRule, 51, A29, c30, x28⟩] [] W) (fun a W hJ => ?_) ?_
          ·
           obtain ⟨x28, x31, A29, c30, rfl, hF, hS⟩ := hJ
           have h := hk33
           dsimp only at h
           refine tn <| rt <| tr ?_
           obtain rfl := si h
           exact ret2 hF rfl (rv_tmp hF rfl) (rv_tmp hF rfl) ⟨_, rfl, A29, c30, rfl, hS⟩
          ·
           refine wp_drawn (fun _ => St M w0 [⟨b13, TRule.enc ({ Match := u1.Match, Prio := u1.Prio, Acts := u1.Acts, Idle := u1.Idle, Hard := u1.Hard, Owner := u1.Owner, Hits := 0, Quiet := 0, Age := 0 } : TRule) A1_0 c1_0, 51⟩, ⟨b1, TMod.enc u1 A1_0 c1_0, 57⟩] [] [fSl k_TRule A0_0 c0_0 u0, fSl k_TAct A1_0 c1_0 u1.Acts]) (fun _ => false) rfl hS (fun W hB0 hR0 => ?_)
           have hS := hR0
           refine eqc hS fun hQC => ?_
           obtain ⟨x34, hx35, h⟩ := bindS h
           obtain ⟨x36, hx37, h⟩ := bindS h
           obtain ⟨x38, hx39, h⟩ := bindS h
           refine e_val' 1 rfl (by kernel_rfl) (fun W => (v_move hF rfl)) hF rfl fun a hF => e_valS' 3 rfl (by kernel_rfl) (fun W hC => (v_load (cs := TRule.enc ({ Match := u1.Match, Prio := u1.Prio, Acts := u1.Acts, Idle := u1.Idle, Hard := u1.Hard, Owner := u1.Owner, Hits := 0, Quiet := 0, Age := 0 } : TRule) A1_0 c1_0) hF rfl pa51 ps51 (hC.bc (i := 0) rfl))) hQC (by kernel_rfl) hF rfl fun a hF => e_many [0, 4] (by kernel_rfl) (by decide) ⟨⟨_, rfl, ?_⟩, ⟨_, rfl, ?_⟩, trivial⟩
           ·
            refine sq_buildSlice (κ := k_TRule) (xs := []) (ys := ([] : List TRule)) hF hS rfl rfl rfl (Els.nil _ _ _) rfl psl26 pz51 rfl (by decide) (by decide) (by decide) (fun A40 c41 a W hF hS => ?_)
            refine sq_nil (then_j ⟨?_, ?_⟩)
            · exact fun _ _ => (hS.keep sl sn ⟨⟨0, rfl⟩, ⟨1, rfl⟩, trivial⟩)
            ·
             refine e_many [2, 4] (by kernel_rfl) (by decide) ⟨⟨_, rfl, ?_⟩, ⟨_, rfl, ?_⟩, trivial⟩
             ·
              refine sq_append (ys := u0) hF hS (i := 0) rfl rfl rfl (SlR.src (hS.fc (i := 0) rfl)) psl26 pb51 pz51 rfl (by decide) (by decide) hx35 (by decide) (fun A42 c43 a W hF hS => ?_)
              refine sq_nil (then_j ⟨?_, ?_⟩)
              · exact fun _ _ => (hS.keep sl sn ⟨⟨0, rfl⟩, ⟨1, rfl⟩, trivial⟩)
              ·
               refine e_one' 4 rfl (by kernel_rfl) <| sq_buildSlice (κ := k_TRule) (xs := [.tmp 85]) (ys := [({ Match := u1.Match, Prio := u1.Prio, Acts := u1.Acts, Idle := u1.Idle, Hard := u1.Hard, Owner := u1.Owner, Hits := 0, Quiet := 0, Age := 0 } : TRule)]) hF hS rfl rfl rfl (Els.cons ⟨A1_0, c1_0, rfl, (hS.fc (i := 1) rfl)⟩ (Els.nil _ _ _)) rfl psl26 pz51 rfl (by decide) (by decide) (by decide) (fun A44 c45 a W hF hS => ?_)
               refine sq_nil (then_j ⟨?_, ?_⟩)
               · exact fun _ _ => (hS.keep sl sn ⟨⟨0, rfl⟩, ⟨1, rfl⟩, trivial⟩)
               ·
                refine e_one' 5 rfl (by kernel_rfl) <| sq_append (ys := ([({ Match := u1.Match, Prio := u1.Prio, Acts := u1.Acts, Idle := u1.Idle, Hard := u1.Hard, Owner := u1.Owner, Hits := 0, Quiet := 0, Age := 0 } : TRule)])) hF hS (i := 1) rfl rfl rfl (hS.rw_ (i := 0) rfl).src psl26 pb51 pz51 rfl (by decide) (by decide) hx37 (by decide) (fun A46 c47 a W hF hS => ?_)
                refine sq_nil (then_j ⟨?_, ?_⟩)
                · exact fun _ _ => (hS.keep sl sn ⟨⟨0, rfl⟩, ⟨1, rfl⟩, trivial⟩)
                ·
                 refine e_one' 6 rfl (by kernel_rfl) ?_
                 have hS := hS.freeze (i := 1) rfl (posB rfl)
                 refine sq_call hF pc73 rfl (by decide) (ok_ref04_Sort k (hS.enter ⟨⟨0, rfl⟩, trivial⟩) hx39) (fun v W hR a hF => ?_)
                 obtain ⟨A48, c49, rfl, hT50⟩ := hR
                 have hS := hS.join hT50
                 refine sq_nil (then_j ⟨?_, ?_⟩)
                 · exact fun _ _ => (hS.keep sl sn ⟨⟨1, rfl⟩, ⟨2, rfl⟩, trivial⟩)
                 ·
                  refine e_val' 7 rfl (by kernel_rfl) (fun W => (v_assign hF rfl)) hF rfl fun a hF => e_val' 8 rfl (by kernel_rfl) (fun W => (v_assign hF rfl)) hF rfl fun a hF => e_done (by kernel_rfl) ?_ _
                  obtain rfl := si h
                  exact then_j ⟨x38, 0, A48, c49, rfl, (hF.keep ⟨rfl, rfl, trivial⟩), (hS.keep sn (.cons_cons _ sn) trivial)⟩
             ·
              refine sq_buildSlice (κ := k_TRule) (xs := [.tmp 85]) (ys := [({ Match := u1.Match, Prio := u1.Prio, Acts := u1.Acts, Idle := u1.Idle, Hard := u1.Hard, Owner := u1.Owner, Hits := 0, Quiet := 0, Age := 0 } : TRule)]) hF hS rfl rfl rfl (Els.cons ⟨A1_0, c1_0, rfl, (hS.fc (i := 1) rfl)⟩ (Els.nil _ _ _)) rfl psl26 pz51 rfl (by decide) (by decide) (by decide) (fun A51 c52 a W hF hS => ?_)
              refine sq_nil (then_j ⟨?_, ?_⟩)
              · exact fun _ _ => (hS.keep sl sn ⟨⟨0, rfl⟩, ⟨1, rfl⟩, trivial⟩)
              ·
               refine e_one' 2 rfl (by kernel_rfl) <| sq_append (ys := u0) hF hS (i := 1) rfl rfl rfl (SlR.src (hS.fc (i := 0) rfl)) psl26 pb51 pz51 rfl (by decide) (by decide) hx35 (by decide) (fun A53 c54 a W hF hS => ?_)
               refine sq_nil (then_j ⟨?_, ?_⟩)
               · exact fun _ _ => (hS.keep sl sn ⟨⟨0, rfl⟩, ⟨1, rfl⟩, trivial⟩)
               ·
                refine e_one' 5 rfl (by kernel_rfl) <| sq_append (ys := ([({ Match := u1.Match, Prio := u1.Prio, Acts := u1.Acts, Idle := u1.Idle, Hard := u1.Hard, Owner := u1.Owner, Hits := 0, Quiet := 0, Age := 0 } : TRule)])) hF hS (i := 1) rfl rfl rfl (hS.rw_ (i := 0) rfl).src psl26 pb51 pz51 rfl (by decide) (by decide) hx37 (by decide) (fun A55 c56 a W hF hS => ?_)
                refine sq_nil (then_j ⟨?_, ?_⟩)
                · exact fun _ _ => (hS.keep sl sn ⟨⟨0, rfl⟩, ⟨1, rfl⟩, trivial⟩)
                ·
                 refine e_one' 6 rfl (by kernel_rfl) ?_
                 have hS := hS.freeze (i := 1) rfl (posB rfl)
                 refine sq_call hF pc73 rfl (by decide) (ok_ref04_Sort k (hS.enter ⟨⟨0, rfl⟩, trivial⟩) hx39) (fun v W hR a hF => ?_)
                 obtain ⟨A57, c58, rfl, hT59⟩ := hR
                 have hS := hS.join hT59
                 refine sq_nil (then_j ⟨?_, ?_⟩)
                 · exact fun _ _ => (hS.keep sl sn ⟨⟨1, rfl⟩, ⟨2, rfl⟩, trivial⟩)
                 ·
                  refine e_val' 7 rfl (by kernel_rfl) (fun W => (v_assign hF rfl)) hF rfl fun a hF => e_val' 8 rfl (by kernel_rfl) (fun W => (v_assign hF rfl)) hF rfl fun a hF => e_done (by kernel_rfl) ?_ _
                  obtain rfl := si h
                  exact then_j ⟨x38, 0, A57, c58, rfl, (hF.keep ⟨rfl, rfl, trivial⟩), (hS.keep sn (.cons_cons _ sn) trivial)⟩
           ·
            refine sq_buildSlice (κ := k_TRule) (xs := [.tmp 85]) (ys := [({ Match := u1.Match, Prio := u1.Prio, Acts := u1.Acts, Idle := u1.Idle, Hard := u1.Hard, Owner := u1.Owner, Hits := 0, Quiet := 0, Age := 0 } : TRule)]) hF hS rfl rfl rfl (Els.cons ⟨A1_0, c1_0, rfl, (hS.fc (i := 1) rfl)⟩ (Els.nil _ _ _)) rfl psl26 pz51 rfl (by decide) (by decide) (by decide) (fun A60 c61 a W hF hS => ?_)
            refine sq_nil (then_j ⟨?_, ?_⟩)
            · exact fun _ _ => (hS.keep sl sn ⟨⟨0, rfl⟩, ⟨1, rfl⟩, trivial⟩)
            ·
             refine e_one' 0 rfl (by kernel_rfl) <| sq_buildSlice (κ := k_TRule) (xs := []) (ys := ([] : List TRule)) hF hS rfl rfl rfl (Els.nil _ _ _) rfl psl26 pz51 rfl (by decide) (by decide) (by decide) (fun A62 c63 a W hF hS => ?_)
             refine sq_nil (then_j ⟨?_, ?_⟩)
             · exact fun _ _ => (hS.keep sl sn ⟨⟨0, rfl⟩, ⟨1, rfl⟩, trivial⟩)
             ·
              refine e_one' 2 rfl (by kernel_rfl) <| sq_append (ys := u0) hF hS (i := 0) rfl rfl rfl (SlR.src (hS.fc (i := 0) rfl)) psl26 pb51 pz51 rfl (by decide) (by decide) hx35 (by decide) (fun A64 c65 a W hF hS => ?_)
              refine sq_nil (then_j ⟨?_, ?_⟩)
              · exact fun _ _ => (hS.keep sl sn ⟨⟨0, rfl⟩, ⟨1, rfl⟩, trivial⟩)
              ·
               refine e_one' 5 rfl (by kernel_rfl) <| sq_append (ys := ([({ Match := u1.Match, Prio := u1.Prio, Acts := u1.Acts, Idle := u1.Idle, Hard := u1.Hard, Owner := u1.Owner, Hits := 0, Quiet := 0, Age := 0 } : TRule)])) hF hS (i := 0) rfl rfl rfl (hS.rw_ (i := 1) rfl).src psl26 pb51 pz51 rfl (by decide) (by decide) hx37 (by decide) (fun A66 c67 a W hF hS => ?_)
               refine sq_nil (then_j ⟨?_, ?_⟩)
               · exact fun _ _ => (hS.keep sl sn ⟨⟨0, rfl⟩, ⟨1, rfl⟩, trivial⟩)
               ·
                refine e_one' 6 rfl (by kernel_rfl) ?_
                have hS := hS.freeze (i := 0) rfl (posB rfl)
                refine sq_call hF pc73 rfl (by decide) (ok_ref04_Sort k (hS.enter ⟨⟨0, rfl⟩, trivial⟩) hx39) (fun v W hR a hF => ?_)
                obtain ⟨A68, c69, rfl, hT70⟩ := hR
                have hS := hS.join hT70
                refine sq_nil (then_j ⟨?_, ?_⟩)
                · exact fun _ _ => (hS.keep sl sn ⟨⟨1, rfl⟩, ⟨2, rfl⟩, trivial⟩)
                ·
                 refine e_val' 7 rfl (by kernel_rfl) (fun W => (v_assign hF rfl)) hF rfl fun a hF => e_val' 8 rfl (by kernel_rfl) (fun W => (v_assign hF rfl)) hF rfl fun a hF => e_done (by kernel_rfl) ?_ _
                 obtain rfl := si h
                 exact then_j ⟨x38, 0, A68, c69, rfl, (hF.keep ⟨rfl, rfl, trivial⟩), (hS.keep sn (.cons_cons _ sn) trivial)⟩
     ·
      refine wb <| wp_loop_fuel (I := fun m a W => ∃ (x17 : Bool) (x18 : Bool) (x19 : Int), FH 130 [(0, .slice A0_0 ((u0).length) c0_0), (2, .int .i64 (u2)), (4, .pointer (some (⟨b1, 0, none⟩))), (8, .pointer (some (⟨b13, 0, none⟩))), (9, .bool (x17)), (10, .bool (x18)), (11, .int .i64 (x19))] a ∧ St M w0 [⟨b13, TRule.enc ({ Match := u1.Match, Prio := u1.Prio, Acts := u1.Acts, Idle := u1.Idle, Hard := u1.Hard, Owner := u1.Owner, Hits := 0, Quiet := 0, Age := 0 } : TRule) A1_0 c1_0, 51⟩, ⟨b1, TMod.enc u1 A1_0 c1_0, 57⟩] [] [fSl k_TRule A0_0 c0_0 u0, fSl k_TAct A1_0 c1_0 u1.Acts] W ∧ (ref04_Apply.l0 k u0 u1 m x17 x18 x19) = some o22) ?_ (k := k) ⟨false, false, 0, (hF.keep ⟨rfl, rfl, rfl, rfl, rfl, rfl, rfl, trivial⟩), hS, h⟩
      rintro m71 a W ⟨x17, x18, x19, hF, hS, h⟩
      cases m71 with
      | zero => cases h
      | succ m71 =>
       rw [ref04_Apply.l0] at h
       refine wq <| wq <| wg <| mv hF rfl rfl fun a hF => mv hF rfl rfl fun a hF => sv (v_len hF rfl pu26) hF rfl fun a hF => sv (v_lss hF rfl rfl) hF rfl fun a hF => nl <| tn <| wi hF rfl h (fun h => ?_) fun h => ?_
       ·
        refine sk <| tn <| wq ?_
        obtain ⟨o75, h, hk76⟩ := bindS h
        refine wp_join (fun a W => ∃ (x73 : Bool) (x74 : Bool), Lo.brk (x73, x74) = o75 ∧ FH 130 [(0, .slice A0_0 ((u0).length) c0_0), (2, .int .i64 (u2)), (4, .pointer (some (⟨b1, 0, none⟩))), (8, .pointer (some (⟨b13, 0, none⟩))), (9, .bool (x73)), (10, .bool (x74)), (11, .int .i64 (x19))] a ∧ St M w0 [⟨b13, TRule.enc ({ Match := u1.Match, Prio := u1.Prio, Acts := u1.Acts, Idle := u1.Idle, Hard := u1.Hard, Owner := u1.Owner, Hits := 0, Quiet := 0, Age := 0 } : TRule) A1_0 c1_0, 51⟩, ⟨b1, TMod.enc u1 A1_0 c1_0, 57⟩] [] [fSl k_TRule A0_0 c0_0 u0, fSl k_TAct A1_0 c1_0 u1.Acts] W) (fun a W hJ => ?_) ?_
        ·
         obtain ⟨x73, x74, rfl, hF, hS⟩ := hJ
         have h := hk76
         dsimp only at h
         exact tn <| wg <| mv hF rfl rfl fun a hF => sv (v_add hF rfl rfl) hF rfl fun a hF => av hF rfl rfl fun a hF => nl <| then_j ⟨m71, Nat.lt_succ_self _, x73, x74, (IntKind.i64.wrap (x19 + 1)), (hF.keep ⟨rfl, rfl, rfl, rfl, rfl, rfl, rfl, trivial⟩), hS, h⟩
        ·
         refine wb <| wq <| wp_quiet rfl (by kernel_rfl) hS <| qv (fun W hC => (v_move hF rfl)) hF rfl fun a hF => qv (fun W hC => (v_move hF rfl)) hF rfl fun a hF => ?_
         obtain ⟨x77, hx78, h⟩ := bindS h
         obtain ⟨p79, cs80, hA81, hat82⟩ := SlR.at (hS.fc (i := 0) rfl) hx78
         obtain ⟨A83, c84, rfl, hs85⟩ := hat82.2.2.2
         refine qv (fun W hC => (v_idx hF rfl hA81 rfl psl26 hx78)) hF rfl fun a hF => qv (fun W hC => (v_load (cs := TRule.enc x77 A83 c84) hF rfl pa51 ps51 (hat82.2.2.1.grow hC.1))) hF rfl fun a hF => qv (fun W hC => (v_load (cs := TRule.enc ({ Match := u1.Match, Prio := u1.Prio, Acts := u1.Acts, Idle := u1.Idle, Hard := u1.Hard, Owner := u1.Owner, Hits := 0, Quiet := 0, Age := 0 } : TRule) A1_0 c1_0) hF rfl pa51 ps51 (hC.2.bc (i := 0) rfl))) hF rfl fun a hF => ?_
         obtain ⟨x86, hx87, h⟩ := bindS h
         refine qt_call hF pc22 rfl (by decide) (fun W hC => q_of hC (ok_ref04_Key (u1 := ({ Match := u1.Match, Prio := u1.Prio, Acts := u1.Acts, Idle := u1.Idle, Hard := u1.Hard, Owner := u1.Owner, Hits := 0, Quiet := 0, Age := 0 } : TRule)) ((hC.2.addFact (f := fSl k_TAct A83 c84 x77.Acts) ((fSl k_TAct A83 c84 x77.Acts).st hs85 (Stp.below hC.1))).enter ⟨⟨0, rfl⟩, ⟨2, rfl⟩, trivial⟩) hx87)) (fun a hF => ?_)
         refine qn ?_
         intro W hC
         have hS := hC.2
         refine tn ?_
         obtain ⟨o90, h, hk91⟩ := bindS h
         refine wp_join (fun a W => ∃ (x88 : Bool) (x89 : Bool), Lo.brk (x88, x89) = o90 ∧ FH 130 [(0, .slice A0_0 ((u0).length) c0_0), (2, .int .i64 (u2)), (4, .pointer (some (⟨b1, 0, none⟩))), (8, .pointer (some (⟨b13, 0, none⟩))), (9, .bool (x88)), (10, .bool (x89)), (11, .int .i64 (x19))] a ∧ St M w0 [⟨b13, TRule.enc ({ Match := u1.Match, Prio := u1.Prio, Acts := u1.Acts, Idle := u1.Idle, Hard := u1.Hard, Owner := u1.Owner, Hits := 0, Quiet := 0, Age := 0 } : TRule) A1_0 c1_0, 51⟩, ⟨b1, TMod.enc u1 A1_0 c1_0, 57⟩] [] [fSl k_TRule A0_0 c0_0 u0, fSl k_TAct A1_0 c1_0 u1.Acts] W) (fun a W hJ => ?_) ?_
         ·
          obtain ⟨x88, x89, rfl, hF, hS⟩ := hJ
          have h := hk91
          dsimp only at h
          refine bn ?_
          obtain rfl := si h
          exact then_j ⟨x88, x89, rfl, (hF.keep ⟨rfl, rfl, rfl, rfl, rfl, rfl, rfl, trivial⟩), hS⟩
         ·
          refine wi hF rfl h (fun h => ?_) fun h => ?_
          ·
           refine wq <| wg <| av hF rfl rfl fun a hF => nl <| tn <| wq <| wp_quiet rfl (by kernel_rfl) hS <| qv (fun W hC => (v_move hF rfl)) hF rfl fun a hF => qv (fun W hC => (v_move hF rfl)) hF rfl fun a hF => ?_
           obtain ⟨p93, cs94, hA95, hat96⟩ := SlR.at (hS.fc (i := 0) rfl) hx78
           obtain ⟨A97, c98, rfl, hs99⟩ := hat96.2.2.2
           refine qv (fun W hC => (v_idx hF rfl hA95 rfl psl26 hx78)) hF rfl fun a hF => qv (fun W hC => (v_fieldAddr hF rfl pf51_5)) hF rfl fun a hF => qv (fun W hC => (v_load1 hF rfl pa3 (cells_sub (vs := [.int .i64 (x77.Owner)]) (hat96.2.2.1.grow hC.1) rfl rfl))) hF rfl fun a hF => qv (fun W hC => (v_fieldAddr hF rfl pf57_6)) hF rfl fun a hF => qv (fun W hC => (v_load1 hF rfl pa3 (cells_sub (vs := [.int .i64 (u1.Owner)]) (hC.2.bc (i := 1) rfl) rfl rfl))) hF rfl fun a hF => qv (fun W hC => (v_neq hF rfl rfl)) hF rfl fun a hF => qn ?_
           intro W hC
           have hS := hC.2
           refine tn <| wi hF rfl h (fun h => ?_) fun h => ?_
           ·
            refine wq <| wg <| av hF rfl rfl fun a hF => av hF rfl rfl fun a hF => nl <| tn <| rt <| tr <| br <| tr <| tr <| tr <| br <| tr <| tr <| tr ?_
            have hS := hS.addNil k_TRule 51
            obtain rfl := si h
            have h := hk91
            dsimp only at h
            obtain rfl := si h
            have h := hk76
            dsimp only at h
            obtain rfl := si h
            have h := hk23
            dsimp only at h
            obtain rfl := si h
            exact ret2 hF rfl (rv_tmp hF rfl) (rv_tmp hF rfl) ⟨_, rfl, none, 0, rfl, (hS.keep sn sl trivial)⟩
           ·
            refine sk ?_
            obtain rfl := si h
            exact then_j ⟨true, x18, rfl, (hF.keep ⟨rfl, rfl, rfl, rfl, rfl, rfl, rfl, trivial⟩), hS⟩
          ·
           refine wp_quiet rfl (by kernel_rfl) hS <| qv (fun W hC => (v_move hF rfl)) hF rfl fun a hF => qv (fun W hC => (v_move hF rfl)) hF rfl fun a hF => ?_
           obtain ⟨x102, h, hk104⟩ := bindS h
           refine qt_cut 7 (fun a => FH 130 [(0, .slice A0_0 ((u0).length) c0_0), (2, .int .i64 (u2)), (4, .pointer (some (⟨b1, 0, none⟩))), (8, .pointer (some (⟨b13, 0, none⟩))), (9, .bool (x17)), (11, .int .i64 (x19)), (68, .bool x102)] a) (fun a hF => ?_) ?_
           ·
            have h := hk104
            refine qv (fun W hC => (v_assign hF rfl)) hF rfl fun a hF => qn ?_
            intro W hC
            have hS := hC.2
            obtain rfl := si h
            exact then_j ⟨x17, x102, rfl, (hF.keep ⟨rfl, rfl, rfl, rfl, rfl, rfl, rfl, trivial⟩), hS⟩
           ·
            by_cases he101 : x18 = true
            ·
             replace h := ifT he101 h
             refine qt_no hF rfl rfl he101 (by decide) (fun a hF => ?_)
             refine qt_no hF rfl rfl he101 (by decide) (fun a hF => ?_)
             refine qt_no hF rfl rfl he101 (by decide) (fun a hF => ?_)
             refine qt_no hF rfl rfl he101 (by decide) (fun a hF => ?_)
             refine qt_no hF rfl rfl he101 (by decide) (fun a hF => ?_)
             refine qt_no hF rfl rfl he101 (by decide) (fun a hF => ?_)
             refine qv (fun W hC => (v_pick_t hF rfl he101 rfl)) hF rfl fun a hF => ?_
             obtain rfl := si h
             exact qt_nil (hF.keep ⟨rfl, rfl, rfl, rfl, rfl, rfl, rfl, trivial⟩)
            ·
             have he101 : x18 = false := nB he101
             replace h := ifF he101 h
             refine qt_yes hF rfl rfl he101 <| qv (fun W hC => (v_move hF rfl)) hF rfl fun a hF => qt_yes hF rfl rfl he101 <| qv (fun W hC => (v_move hF rfl)) hF rfl fun a hF => qt_yes hF rfl rfl he101 ?_
             obtain ⟨p105, cs106, hA107, hat108⟩ := SlR.at (hS.fc (i := 0) rfl) hx78
             obtain ⟨A109, c110, rfl, hs111⟩ := hat108.2.2.2
             refine qv (fun W hC => (v_idx hF rfl hA107 rfl psl26 hx78)) hF rfl fun a hF => qt_yes hF rfl rfl he101 <| qv (fun W hC => (v_load (cs := TRule.enc x77 A109 c110) hF rfl pa51 ps51 (hat108.2.2.1.grow hC.1))) hF rfl fun a hF => qt_yes hF rfl rfl he101 <| qv (fun W hC => (v_load (cs := TRule.enc ({ Match := u1.Match, Prio := u1.Prio, Acts := u1.Acts, Idle := u1.Idle, Hard := u1.Hard, Owner := u1.Owner, Hits := 0, Quiet := 0, Age := 0 } : TRule) A1_0 c1_0) hF rfl pa51 ps51 (hC.2.bc (i := 0) rfl))) hF rfl fun a hF => qt_yes hF rfl rfl he101 ?_
             obtain ⟨x112, hx113, h⟩ := bindS h
             refine qt_call hF pc72 rfl (by decide) (fun W hC => q_of hC (ok_ref04_Overlap k (u1 := ({ Match := u1.Match, Prio := u1.Prio, Acts := u1.Acts, Idle := u1.Idle, Hard := u1.Hard, Owner := u1.Owner, Hits := 0, Quiet := 0, Age := 0 } : TRule)) ((hC.2.addFact (f := fSl k_TAct A109 c110 x77.Acts) ((fSl k_TAct A109 c110 x77.Acts).st hs111 (Stp.below hC.1))).enter ⟨⟨0, rfl⟩, ⟨2, rfl⟩, trivial⟩) hx113)) (fun a hF => ?_)
             refine qv (fun W hC => (v_pick_f hF rfl he101 rfl)) hF rfl fun a hF => ?_
             obtain rfl := si h
             exact qt_nil (hF.keep ⟨rfl, rfl, rfl, rfl, rfl, rfl, rfl, trivial⟩)
       ·
        refine wp_exit <| tx <| tx <| bh ?_
        obtain rfl := si h
        exact then_j ⟨x17, x18, rfl, (hF.keep ⟨rfl, rfl, rfl, rfl, rfl, rfl, trivial⟩), hS⟩
    ·
     refine sk <| tn <| wq <| wg <| av hF rfl rfl fun a hF => nl <| tn <| wq <| wg <| mv hF rfl rfl fun a hF => sv (v_load (cs := TMod.enc u1 A1_0 c1_0) hF rfl pa57 ps57 (hS.bc (i := 0) rfl)) hF rfl fun a hF => ?_
     obtain ⟨x114, hx115, h⟩ := bindS h
     refine sq_call hF pc74 rfl (by decide) (ok_ref04_Touched k (hS.enter ⟨⟨0, rfl⟩, ⟨1, rfl⟩, trivial⟩) hx115) (fun v W hR a hF => ?_)
     obtain ⟨A116, c117, rfl, hT118⟩ := hR
     have hS := hS.join hT118
     refine av hF rfl rfl fun a hF => nl <| tn <| wq <| wq <| wg <| av hF rfl rfl fun a hF => nl <| tn ?_
     obtain ⟨o143, h, hk144⟩ := bindS h
     refine wp_join (fun a W => ∃ (x140 : List TRule) (A141 : Option Addr) (c142 : Nat), x140 = o143 ∧ FH 130 [(12, .slice A141 ((x140).length) c142)] a ∧ St M w0 [] [⟨k_TRule, 51, A141, c142, x140⟩] [] W) (fun a W hJ => ?_) ?_
     ·
      obtain ⟨x140, A141, c142, rfl, hF, hS⟩ := hJ
      have h := hk144
      refine tn <| wq <| wg <| mv hF rfl rfl fun a hF => av hF rfl rfl fun a hF => av hF rfl rfl fun a hF => nl <| tn <| rt ?_
      obtain rfl := si h
      exact ret2 hF rfl (rv_tmp hF rfl) (rv_tmp hF rfl) ⟨_, rfl, A141, c142, rfl, hS⟩
     ·
      have hS := hS.addNil k_TRule 51
      have hS := hS.freeze (i := 1) rfl (posB rfl)
      refine wb <| wp_loop_fuel (I := fun m a W => ∃ (x133 : List TRule) (x136 : List Int) (x139 : Int) (A134 : Option Addr) (c135 : Nat) (A137 : Option Addr) (c138 : Nat), FH 130 [(0, .slice A0_0 ((u0).length) c0_0), (4, .pointer (some (⟨b1, 0, none⟩))), (12, .slice A134 ((x133).length) c135), (13, .slice A137 ((x136).length) c138), (14, .int .i64 (x139))] a ∧ St M w0 [⟨b1, TMod.enc u1 A1_0 c1_0, 57⟩] [⟨k_TRule, 51, A134, c135, x133⟩] [fSl (kInt .i64) A137 c138 x136, fSl k_TRule A0_0 c0_0 u0, fSl k_TAct A1_0 c1_0 u1.Acts] W ∧ (ref04_Apply.l1 k u0 u1 m x133 x136 x139) = some o143) ?_ (k := k) ⟨([]), x114, 0, none, 0, A116, c117, (hF.keep ⟨rfl, rfl, rfl, rfl, rfl, trivial⟩), hS, h⟩
      rintro m145 a W ⟨x133, x136, x139, A134, c135, A137, c138, hF, hS, h⟩
      cases m145 with
      | zero => cases h
      | succ m145 =>
       rw [ref04_Apply.l1] at h
       refine wq <| wq <| wg <| mv hF rfl rfl fun a hF => mv hF rfl rfl fun a hF => sv (v_len hF rfl pu26) hF rfl fun a hF => sv (v_lss hF rfl rfl) hF rfl fun a hF => nl <| tn <| wi hF rfl h (fun h => ?_) fun h => ?_
       ·
        refine sk <| tn <| wq ?_
        obtain ⟨o153, h, hk154⟩ := bindS h
        refine wp_join (fun a W => ∃ (x147 : List TRule) (x150 : List Int) (A148 : Option Addr) (c149 : Nat) (A151 : Option Addr) (c152 : Nat), (x147, x150) = o153 ∧ FH 130 [(0, .slice A0_0 ((u0).length) c0_0), (4, .pointer (some (⟨b1, 0, none⟩))), (12, .slice A148 ((x147).length) c149), (13, .slice A151 ((x150).length) c152), (14, .int .i64 (x139))] a ∧ St M w0 [⟨b1, TMod.enc u1 A1_0 c1_0, 57⟩] [⟨k_TRule, 51, A148, c149, x147⟩] [fSl (kInt .i64) A151 c152 x150, fSl k_TRule A0_0 c0_0 u0, fSl k_TAct A1_0 c1_0 u1.Acts] W) (fun a W hJ => ?_) ?_
        ·
         obtain ⟨x147, x150, A148, c149, A151, c152, rfl, hF, hS⟩ := hJ
         have h := hk154
         dsimp only at h
         exact tn <| wg <| mv hF rfl rfl fun a hF => sv (v_add hF rfl rfl) hF rfl fun a hF => av hF rfl rfl fun a hF => nl <| then_j ⟨m145, Nat.lt_succ_self _, x147, x150, (IntKind.i64.wrap (x139 + 1)), A148, c149, A151, c152, (hF.keep ⟨rfl, rfl, rfl, rfl, rfl, trivial⟩), hS, h⟩
        ·
         refine wb <| wq <| wg <| mv hF rfl rfl fun a hF => mv hF rfl rfl fun a hF => ?_
         obtain ⟨x155, hx156, h⟩ := bindS h
         obtain ⟨p157, cs158, hA159, hat160⟩ := SlR.at (hS.fc (i := 1) rfl) hx156
         obtain ⟨A161, c162, rfl, hs163⟩ := hat160.2.2.2
         have hS := hS.addFact (f := fAt k_TRule (p157.add (x139.toNat * 32)) (TRule.enc x155 A161 c162) x155) hat160
         have hS := hS.addFact (f := fSl k_TAct A161 c162 x155.Acts) hs163
         refine sv (v_idx hF rfl hA159 rfl psl26 hx156) hF rfl fun a hF => sv (v_load (cs := TRule.enc x155 A161 c162) hF rfl pa51 ps51 (hS.pc (i := 1) rfl)) hF rfl fun a hF => al hF hS pz51 rfl rfl fun b164 a W hF hS => sq_store (o := 0) (vs := TRule.enc x155 A161 c162) (cs' := TRule.enc x155 A161 c162) hF hS rfl rfl (i := 0) rfl rfl rfl ps51 (TRule.enc_one _ _ _) (bl rfl) rfl fun W hS => nl <| tn <| wq <| wq <| wg <| mv hF rfl rfl fun a hF => sv (v_len hF rfl pu38) hF rfl fun a hF => sv (v_gtr hF rfl rfl) hF rfl fun a hF => mv hF rfl rfl fun a hF => gandB 5 3 105 hF hS h rfl rfl rfl rfl rfl (fun r167 h => ?_) (fun x166 a W h hF hS => ?_)
         ·
          refine mv hF rfl rfl fun a hF => ?_
          obtain ⟨x168, hx169, h⟩ := bindS h
          obtain ⟨p170, cs171, hA172, hat173⟩ := SlR.at (hS.fc (i := 2) rfl) hx169
          obtain rfl : cs171 = [.int .i64 (x168)] := hat173.2.2.2
          have hS := hS.addFact (f := fAt (kInt .i64) (p170.add ((0 : Int).toNat * 1)) ([.int .i64 (x168)]) x168) hat173
          refine sv (v_idx hF rfl hA172 rfl psl38 hx169) hF rfl fun a hF => sv (v_load1 hF rfl pa3 (hS.pc (i := 0) rfl)) hF rfl fun a hF => mv hF rfl rfl fun a hF => sv (v_eql hF rfl rfl) hF rfl fun a hF => ?_
          obtain rfl := si h
          exact gs 5 hF (hS.keep sl sl ⟨⟨1, rfl⟩, ⟨2, rfl⟩, ⟨3, rfl⟩, ⟨4, rfl⟩, ⟨5, rfl⟩, trivial⟩) rfl rfl rfl
         ·
          refine nl <| tn <| wi hF rfl h (fun h => ?_) fun h => ?_
          ·
           refine wq <| wg <| mv hF rfl rfl fun a hF => ?_
           obtain ⟨hb175, h⟩ := ifS h
           refine sv (v_slice (κ := (kInt .i64)) (lo := (1 : Int).toNat) (hi := x136.length) hF rfl rfl rfl psl38 (.inr ⟨_, _, rfl, by omega, rfl⟩) (.inl ⟨rfl, rfl⟩) (by omega) (by omega) (hS.fc (i := 2) rfl).1) hF rfl fun a hF => ?_
           have hcut178 := SlR.cut (xs := x136) (hS.fc (i := 2) rfl) (lo := (1 : Int).toNat) (hi := x136.length) (by omega) (by omega)
           generalize (if c138 = (1 : Int).toNat then A137 else Option.map (fun (q : Addr) => q.add ((1 : Int).toNat * ((kInt .i64)).sz)) A137) = A176 at hF hcut178
           generalize c138 - (1 : Int).toNat = c177 at hF hcut178
           have hS := hS.addFact (f := fSl (kInt .i64) A176 c177 ((x136.take x136.length).drop (1 : Int).toNat)) hcut178
           refine av hF rfl rfl fun a hF => nl <| tn <| wq <| wq <| wg <| fv hF rfl pf57_0 rfl fun a hF => lv hF rfl pa3 (hS.bc (i := 1) rfl) rfl rfl rfl fun a hF => sv (v_eql hF rfl rfl) hF rfl fun a hF => mv hF rfl rfl fun a hF => gor 3 3 117 ((u1.Kind == 5)) hF rfl rfl rfl rfl rfl (fun _ => ?_) (fun a hF => ?_)
           ·
            exact fv hF rfl pf57_0 rfl fun a hF => lv hF rfl pa3 (hS.bc (i := 1) rfl) rfl rfl rfl fun a hF => sv (v_eql hF rfl rfl) hF rfl fun a hF => gq 3 hF rfl rfl rfl
           ·
            refine nl <| tn <| wi hF rfl h (fun h => ?_) fun h => ?_
            ·
             refine wp_exit <| tx <| tx <| bh ?_
             obtain rfl := si h
             exact then_j ⟨x133, ((x136.take x136.length).drop (1 : Int).toNat), A134, c135, A176, c177, rfl, (hF.keep ⟨rfl, rfl, rfl, rfl, rfl, trivial⟩), (hS.keep (.cons _ sl) sl ⟨⟨0, rfl⟩, ⟨4, rfl⟩, ⟨5, rfl⟩, trivial⟩)⟩
            ·
             refine sk <| tn <| wg <| fv hF rfl pf57_3 rfl fun a hF => lv hF rfl pa49 (hS.bc (i := 1) rfl) rfl rfl rfl fun a hF => fv hF rfl pf51_2 rfl fun a hF => sq_store (o := 25) (vs := [.slice A1_0 ((u1.Acts).length) c1_0]) (cs' := TRule.enc (TRule.setActs x155 u1.Acts) A1_0 c1_0) hF hS rfl rfl (i := 0) rfl rfl rfl ps49 (one1 rfl) (bl rfl) rfl fun W hS => nl <| tn <| wg <| mv hF rfl rfl fun a hF => sv (v_load (cs := TRule.enc (TRule.setActs x155 u1.Acts) A1_0 c1_0) hF rfl pa51 ps51 (hS.bc (i := 0) rfl)) hF rfl fun a hF => sq_buildSlice (κ := k_TRule) (xs := [.tmp 126]) (ys := [(TRule.setActs x155 u1.Acts)]) hF hS rfl rfl rfl (Els.cons ⟨A1_0, c1_0, rfl, (hS.fc (i := 5) rfl)⟩ (Els.nil _ _ _)) rfl psl26 pz51 rfl (by decide) (by decide) (by decide) (fun A181 c182 a W hF hS => ?_)
             obtain ⟨x185, hx186, h⟩ := bindS h
             refine sq_append (ys := ([(TRule.setActs x155 u1.Acts)])) hF hS (i := 1) rfl rfl rfl (hS.rw_ (i := 0) rfl).src psl26 pb51 pz51 rfl (by decide) (by decide) hx186 (by decide) (fun A183 c184 a W hF hS => ?_)
             refine av hF rfl rfl fun a hF => nl <| bn ?_
             obtain rfl := si h
             exact then_j ⟨x185, ((x136.take x136.length).drop (1 : Int).toNat), A183, c184, A176, c177, rfl, (hF.keep ⟨rfl, rfl, rfl, rfl, rfl, trivial⟩), (hS.keep (.cons _ sl) (.cons _ sl) ⟨⟨0, rfl⟩, ⟨4, rfl⟩, ⟨5, rfl⟩, trivial⟩)⟩
          ·
           refine sk <| tn <| wg <| mv hF rfl rfl fun a hF => sv (v_load (cs := TRule.enc x155 A161 c162) hF rfl pa51 ps51 (hS.bc (i := 0) rfl)) hF rfl fun a hF => sq_buildSlice (κ := k_TRule) (xs := [.tmp 126]) (ys := [x155]) hF hS rfl rfl rfl (Els.cons ⟨A161, c162, rfl, (hS.fc (i := 0) rfl)⟩ (Els.nil _ _ _)) rfl psl26 pz51 rfl (by decide) (by decide) (by decide) (fun A187 c188 a W hF hS => ?_)
           obtain ⟨x191, hx192, h⟩ := bindS h
           refine sq_append (ys := ([x155])) hF hS (i := 1) rfl rfl rfl (hS.rw_ (i := 0) rfl).src psl26 pb51 pz51 rfl (by decide) (by decide) hx192 (by decide) (fun A189 c190 a W hF hS => ?_)
           refine av hF rfl rfl fun a hF => nl <| bn ?_
           obtain rfl := si h
           exact then_j ⟨x191, x136, A189, c190, A137, c138, rfl, (hF.keep ⟨rfl, rfl, rfl, rfl, rfl, trivial⟩), (hS.keep (.cons _ sl) (.cons _ sl) ⟨⟨2, rfl⟩, ⟨3, rfl⟩, ⟨4, rfl⟩, trivial⟩)⟩
       ·
        refine wp_exit <| tx <| tx <| bh ?_
        obtain rfl := si h
        exact then_j ⟨x133, A134, c135, rfl, (hF.keep ⟨rfl, trivial⟩), (hS.keep sn sl trivial)⟩

theorem ok_ref04_Laid (k : Nat) {M : Nat → Prop} {w0 : World} {u0 : List TRule} {A0_0 : Option Addr} {c0_0 : Nat} {u1 : List TMod} {A1_0 : Option Addr} {c1_0 : Nat} {o : (List TRule)} (hS : St M w0 [] [] [fSl k_TRule A0_0 c0_0 u0, fSl k_TMod A1_0 c1_0 u1] w0) (h : ref04_Laid k u0 u1 = some o) :
    Calls Tryz.prog 14 #[.slice A0_0 ((u0).length) c0_0, .slice A1_0 ((u1).length) c1_0] w0 fun e W' => ∃ v, e = .returned v ∧ (∃ (A41 : Option Addr) (c42 : Nat), v = .slice A41 ((o).length) c42 ∧ St M w0 [] [] [fSl k_TRule A41 c42 o] W') := by
  unfold ref04_Laid at h
  refine cst Tryz.func14 rfl rfl rfl fun a hF => wq <| wg <| av hF rfl rfl fun a hF => nl <| tn <| wq <| wq <| wg <| av hF rfl rfl fun a hF => nl <| tn ?_
  obtain ⟨o12, h, hk13⟩ := bindS h
  refine wp_join (fun a W => ∃ (x9 : List TRule) (A10 : Option Addr) (c11 : Nat), x9 = o12 ∧ FH 27 [(0, .slice A10 ((x9).length) c11)] a ∧ St M w0 [] [] [fSl k_TRule A10 c11 x9] W) (fun a W hJ => ?_) ?_
  ·
   obtain ⟨x9, A10, c11, rfl, hF, hS⟩ := hJ
   have h := hk13
   refine tn <| wq <| wg <| mv hF rfl rfl fun a hF => av hF rfl rfl fun a hF => nl <| tn <| rt ?_
   obtain rfl := si h
   exact ret1 hF rfl (rv_tmp hF rfl) ⟨_, rfl, A10, c11, rfl, hS⟩
  ·
   refine wb <| wp_loop_fuel (I := fun m a W => ∃ (x5 : List TRule) (x8 : Int) (A6 : Option Addr) (c7 : Nat), FH 27 [(0, .slice A6 ((x5).length) c7), (1, .slice A1_0 ((u1).length) c1_0), (5, .int .i64 (x8))] a ∧ St M w0 [] [] [fSl k_TRule A6 c7 x5, fSl k_TMod A1_0 c1_0 u1] W ∧ (ref04_Laid.l0 k u1 m x5 x8) = some o12) ?_ (k := k) ⟨u0, 0, A0_0, c0_0, (hF.keep ⟨rfl, rfl, rfl, trivial⟩), hS, h⟩
   rintro m14 a W ⟨x5, x8, A6, c7, hF, hS, h⟩
   cases m14 with
   | zero => cases h
   | succ m14 =>
    rw [ref04_Laid.l0] at h
    refine wq <| wq <| wg <| mv hF rfl rfl fun a hF => mv hF rfl rfl fun a hF => sv (v_len hF rfl pu32) hF rfl fun a hF => sv (v_lss hF rfl rfl) hF rfl fun a hF => nl <| tn <| wi hF rfl h (fun h => ?_) fun h => ?_
    ·
     refine sk <| tn <| wq ?_
     obtain ⟨o19, h, hk20⟩ := bindS h
     refine wp_join (fun a W => ∃ (x16 : List TRule) (A17 : Option Addr) (c18 : Nat), x16 = o19 ∧ FH 27 [(0, .slice A17 ((x16).length) c18), (1, .slice A1_0 ((u1).length) c1_0), (5, .int .i64 (x8))] a ∧ St M w0 [] [] [fSl k_TRule A17 c18 x16, fSl k_TMod A1_0 c1_0 u1] W) (fun a W hJ => ?_) ?_
     ·
      obtain ⟨x16, A17, c18, rfl, hF, hS⟩ := hJ
      have h := hk20
      exact tn <| wg <| mv hF rfl rfl fun a hF => sv (v_add hF rfl rfl) hF rfl fun a hF => av hF rfl rfl fun a hF => nl <| then_j ⟨m14, Nat.lt_succ_self _, x16, (IntKind.i64.wrap (x8 + 1)), A17, c18, (hF.keep ⟨rfl, rfl, rfl, trivial⟩), hS, h⟩
     ·
      refine wb <| wq <| wg <| mv hF rfl rfl fun a hF => mv hF rfl rfl fun a hF => mv hF rfl rfl fun a hF => ?_
      obtain ⟨x21, hx22, h⟩ := bindS h
      obtain ⟨p23, cs24, hA25, hat26⟩ := SlR.at (hS.fc (i := 1) rfl) hx22
      obtain ⟨A27, c28, rfl, hs29⟩ := hat26.2.2.2
      have hS := hS.addFact (f := fAt k_TMod (p23.add (x8.toNat * 31)) (TMod.enc x21 A27 c28) x21) hat26
      have hS := hS.addFact (f := fSl k_TAct A27 c28 x21.Acts) hs29
      refine sv (v_idx hF rfl hA25 rfl psl32 hx22) hF rfl fun a hF => sv (v_load (cs := TMod.enc x21 A27 c28) hF rfl pa57 ps57 (hS.pc (i := 1) rfl)) hF rfl fun a hF => ?_
      obtain ⟨x30, hx31, h⟩ := bindS h
      refine sq_call hF pc28 rfl (by decide) (ok_ref04_Apply k (hS.enter ⟨⟨2, rfl⟩, ⟨0, rfl⟩, trivial⟩) hx31) (fun v W hR a hF => ?_)
      obtain ⟨A32, c33, rfl, hT34⟩ := hR
      have hS := hS.join hT34
      refine mv hF rfl rfl fun a hF => sv (v_extract hF rfl rfl) hF rfl fun a hF => sv (v_extract hF rfl rfl) hF rfl fun a hF => av hF rfl rfl fun a hF => av hF rfl rfl fun a hF => nl <| tn <| wq <| wg <| mv hF rfl rfl fun a hF => sv (v_eql hF rfl rfl) hF rfl fun a hF => nl <| tn ?_
      obtain ⟨o38, h, hk39⟩ := bindS h
      refine wp_join (fun a W => ∃ (x35 : List TRule) (A36 : Option Addr) (c37 : Nat), x35 = o38 ∧ FH 27 [(0, .slice A36 ((x35).length) c37), (1, .slice A1_0 ((u1).length) c1_0), (5, .int .i64 (x8))] a ∧ St M w0 [] [] [fSl k_TRule A36 c37 x35, fSl k_TMod A1_0 c1_0 u1] W) (fun a W hJ => ?_) ?_
      ·
       obtain ⟨x35, A36, c37, rfl, hF, hS⟩ := hJ
       have h := hk39
       refine bn ?_
       obtain rfl := si h
       exact then_j ⟨x35, A36, c37, rfl, (hF.keep ⟨rfl, rfl, rfl, trivial⟩), hS⟩
      ·
       refine wi hF rfl h (fun h => ?_) fun h => ?_
       ·
        refine wg <| mv hF rfl rfl fun a hF => av hF rfl rfl fun a hF => nl ?_
        have hS := hS.freeze (i := 0) rfl (posB rfl)
        obtain rfl := si h
        exact then_j ⟨x30.1, A32, c33, rfl, (hF.keep ⟨rfl, rfl, rfl, trivial⟩), (hS.keep sl sl ⟨⟨0, rfl⟩, ⟨4, rfl⟩, trivial⟩)⟩
       ·
        refine sk ?_
        obtain rfl := si h
        exact then_j ⟨x5, A6, c7, rfl, (hF.keep ⟨rfl, rfl, rfl, trivial⟩), (hS.keep sl sn ⟨⟨2, rfl⟩, ⟨3, rfl⟩, trivial⟩)⟩
    ·
     refine wp_exit <| tx <| tx <| bh ?_
     obtain rfl := si h
     exact then_j ⟨x5, A6, c7, rfl, (hF.keep ⟨rfl, trivial⟩), (hS.keep sl sl ⟨⟨0, rfl⟩, trivial⟩)⟩

theorem ok_ref04_SameActs (k : Nat) {M : Nat → Prop} {w0 : World} {u0 : List TAct} {A0_0 : Option Addr} {c0_0 : Nat} {u1 : List TAct} {A1_0 : Option Addr} {c1_0 : Nat} {o : Bool} (hS : St M w0 [] [] [fSl k_TAct A0_0 c0_0 u0, fSl k_TAct A1_0 c1_0 u1] w0) (h : ref04_SameActs k u0 u1 = some o) :
    Calls Tryz.prog 121 #[.slice A0_0 ((u0).length) c0_0, .slice A1_0 ((u1).length) c1_0] w0 fun e W' => ∃ v, e = .returned v ∧ (v = .bool (o) ∧ St M w0 [] [] [] W') := by
  unfold ref04_SameActs at h
  refine cst Tryz.func121 rfl rfl rfl fun a hF => wq <| wg <| av hF rfl rfl fun a hF => nl <| tn <| wq <| wq <| wg <| mv hF rfl rfl fun a hF => sv (v_len hF rfl pu49) hF rfl fun a hF => mv hF rfl rfl fun a hF => sv (v_len hF rfl pu49) hF rfl fun a hF => sv (v_neq hF rfl rfl) hF rfl fun a hF => nl <| tn <| wi hF rfl h (fun h => ?_) fun h => ?_
  ·
   refine wq <| wg <| av hF rfl rfl fun a hF => nl <| tn <| rt <| tr ?_
   obtain rfl := si h
   exact ret1 hF rfl (rv_tmp hF rfl) ⟨_, rfl, rfl, (hS.keep sl sl trivial)⟩
  ·
   refine sk <| tn <| wq <| wq <| wg <| av hF rfl rfl fun a hF => nl <| tn ?_
   obtain ⟨o4, h, hk5⟩ := bindS h
   refine wp_join (fun a W => Lo.brk () = o4 ∧ FH 26 [] a ∧ St M w0 [] [] [] W) (fun a W hJ => ?_) ?_
   ·
    obtain ⟨rfl, hF, hS⟩ := hJ
    have h := hk5
    dsimp only at h
    refine tn <| wq <| wg <| av hF rfl rfl fun a hF => nl <| tn <| rt ?_
    obtain rfl := si h
    exact ret1 hF rfl (rv_tmp hF rfl) ⟨_, rfl, rfl, hS⟩
   ·
    refine wb <| wp_loop_fuel (I := fun m a W => ∃ (x3 : Int), FH 26 [(0, .slice A0_0 ((u0).length) c0_0), (1, .slice A1_0 ((u1).length) c1_0), (5, .int .i64 (x3))] a ∧ St M w0 [] [] [fSl k_TAct A0_0 c0_0 u0, fSl k_TAct A1_0 c1_0 u1] W ∧ (ref04_SameActs.l0 k u0 u1 m x3) = some o4) ?_ (k := k) ⟨0, (hF.keep ⟨rfl, rfl, rfl, trivial⟩), hS, h⟩
    rintro m6 a W ⟨x3, hF, hS, h⟩
    cases m6 with
    | zero => cases h
    | succ m6 =>
     rw [ref04_SameActs.l0] at h
     refine wq <| wq <| wg <| mv hF rfl rfl fun a hF => mv hF rfl rfl fun a hF => sv (v_len hF rfl pu49) hF rfl fun a hF => sv (v_lss hF rfl rfl) hF rfl fun a hF => nl <| tn <| wi hF rfl h (fun h => ?_) fun h => ?_
     ·
      refine sk <| tn <| wq <| wb <| wq <| wp_quiet rfl (by kernel_rfl) hS <| qv (fun W hC => (v_move hF rfl)) hF rfl fun a hF => qv (fun W hC => (v_move hF rfl)) hF rfl fun a hF => ?_
      obtain ⟨x8, hx9, h⟩ := bindS h
      obtain ⟨p10, cs11, hA12, hat13⟩ := SlR.at (hS.fc (i := 0) rfl) hx9
      obtain rfl : cs11 = TAct.enc x8 := hat13.2.2.2
      refine qv (fun W hC => (v_idx hF rfl hA12 rfl psl49 hx9)) hF rfl fun a hF => qv (fun W hC => (v_load (cs := TAct.enc x8) hF rfl pa152 ps152 (hat13.2.2.1.grow hC.1))) hF rfl fun a hF => qv (fun W hC => (v_move hF rfl)) hF rfl fun a hF => qv (fun W hC => (v_move hF rfl)) hF rfl fun a hF => ?_
      obtain ⟨x14, hx15, h⟩ := bindS h
      obtain ⟨p16, cs17, hA18, hat19⟩ := SlR.at (hS.fc (i := 1) rfl) hx15
      obtain rfl : cs17 = TAct.enc x14 := hat19.2.2.2
      refine qv (fun W hC => (v_idx hF rfl hA18 rfl psl49 hx15)) hF rfl fun a hF => qv (fun W hC => (v_load (cs := TAct.enc x14) hF rfl pa152 ps152 (hat19.2.2.1.grow hC.1))) hF rfl fun a hF => qv (fun W hC => (eq152 hF rfl rfl).2) hF rfl fun a hF => qn ?_
      intro W hC
      have hS := hC.2
      refine tn <| wi hF rfl h (fun h => ?_) fun h => ?_
      ·
       refine wq <| wg <| av hF rfl rfl fun a hF => nl <| tn <| rt <| br <| tr <| tr <| br <| tr <| tr ?_
       obtain rfl := si h
       have h := hk5
       dsimp only at h
       obtain rfl := si h
       exact ret1 hF rfl (rv_tmp hF rfl) ⟨_, rfl, rfl, (hS.keep sl sl trivial)⟩
      ·
       exact sk <| bn <| tn <| wg <| mv hF rfl rfl fun a hF => sv (v_add hF rfl rfl) hF rfl fun a hF => av hF rfl rfl fun a hF => nl <| then_j ⟨m6, Nat.lt_succ_self _, (IntKind.i64.wrap (x3 + 1)), (hF.keep ⟨rfl, rfl, rfl, trivial⟩), hS, h⟩
     ·
      refine wp_exit <| tx <| tx <| bh ?_
      obtain rfl := si h
      exact then_j ⟨rfl, (hF.keep trivial), (hS.keep sl sl trivial)⟩

theorem ok_ref04_Equal (k : Nat) {M : Nat → Prop} {w0 : World} {u0 : TRule} {A0_0 : Option Addr} {c0_0 : Nat} {u1 : TRule} {A1_0 : Option Addr} {c1_0 : Nat} {o : Bool} (hS : St M w0 [] [] [fSl k_TAct A0_0 c0_0 u0.Acts, fSl k_TAct A1_0 c1_0 u1.Acts] w0) (h : ref04_Equal k u0 u1 = some o) :
    Calls Tryz.prog 53 #[.agg (TRule.enc u0 A0_0 c0_0).toArray, .agg (TRule.enc u1 A1_0 c1_0).toArray] w0 fun e W' => ∃ v, e = .returned v ∧ (v = .bool (o) ∧ St M w0 [] [] [] W') := by
  unfold ref04_Equal at h
  refine cst Tryz.func53 rfl rfl rfl fun a hF => wq <| wg <| bv hF hS rfl rfl rfl fun b1 a W hF hS => bv hF hS rfl rfl rfl fun b2 a W hF hS => av hF rfl rfl fun a hF => nl <| tn <| wq <| wg <| sv (v_load (cs := TRule.enc u0 A0_0 c0_0) hF rfl pa51 ps51 (hS.bc (i := 1) rfl)) hF rfl fun a hF => sv (v_load (cs := TRule.enc u1 A1_0 c1_0) hF rfl pa51 ps51 (hS.bc (i := 0) rfl)) hF rfl fun a hF => ?_
  obtain ⟨x3, hx4, h⟩ := bindS h
  refine cl hF pc22 rfl rfl (ok_ref04_Key (hS.enter ⟨⟨0, rfl⟩, ⟨1, rfl⟩, trivial⟩) hx4) hS fun W a hF hS => mv hF rfl rfl fun a hF => gandB 5 3 8 hF hS h rfl rfl rfl rfl rfl (fun r8 h => ?_) (fun x7 a W h hF hS => ?_)
  ·
   refine fv hF rfl pf51_2 rfl fun a hF => lv hF rfl pa49 (hS.bc (i := 1) rfl) rfl rfl rfl fun a hF => fv hF rfl pf51_2 rfl fun a hF => lv hF rfl pa49 (hS.bc (i := 0) rfl) rfl rfl rfl fun a hF => ?_
   obtain ⟨x9, hx10, h⟩ := bindS h
   refine cl hF pc121 rfl rfl (ok_ref04_SameActs k (hS.enter ⟨⟨0, rfl⟩, ⟨1, rfl⟩, trivial⟩) hx10) hS fun W a hF hS => ?_
   obtain rfl := si h
   exact gs 5 hF hS rfl rfl rfl
  ·
   refine mv hF rfl rfl fun a hF => gand 5 10 15 ((u0.Idle == u1.Idle)) hF rfl rfl rfl rfl rfl (fun _ => ?_) (fun a hF => ?_)
   ·
    exact fv hF rfl pf51_3 rfl fun a hF => lv hF rfl pa3 (hS.bc (i := 1) rfl) rfl rfl rfl fun a hF => fv hF rfl pf51_3 rfl fun a hF => lv hF rfl pa3 (hS.bc (i := 0) rfl) rfl rfl rfl fun a hF => sv (v_eql hF rfl rfl) hF rfl fun a hF => gq 5 hF rfl rfl rfl
   ·
    refine mv hF rfl rfl fun a hF => gand 5 17 22 ((u0.Hard == u1.Hard)) hF rfl rfl rfl rfl rfl (fun _ => ?_) (fun a hF => ?_)
    ·
     exact fv hF rfl pf51_4 rfl fun a hF => lv hF rfl pa3 (hS.bc (i := 1) rfl) rfl rfl rfl fun a hF => fv hF rfl pf51_4 rfl fun a hF => lv hF rfl pa3 (hS.bc (i := 0) rfl) rfl rfl rfl fun a hF => sv (v_eql hF rfl rfl) hF rfl fun a hF => gq 5 hF rfl rfl rfl
    ·
     refine mv hF rfl rfl fun a hF => gand 5 24 29 ((u0.Owner == u1.Owner)) hF rfl rfl rfl rfl rfl (fun _ => ?_) (fun a hF => ?_)
     ·
      exact fv hF rfl pf51_5 rfl fun a hF => lv hF rfl pa3 (hS.bc (i := 1) rfl) rfl rfl rfl fun a hF => fv hF rfl pf51_5 rfl fun a hF => lv hF rfl pa3 (hS.bc (i := 0) rfl) rfl rfl rfl fun a hF => sv (v_eql hF rfl rfl) hF rfl fun a hF => gq 5 hF rfl rfl rfl
     ·
      refine mv hF rfl rfl fun a hF => gand 5 31 36 ((u0.Hits == u1.Hits)) hF rfl rfl rfl rfl rfl (fun _ => ?_) (fun a hF => ?_)
      ·
       exact fv hF rfl pf51_6 rfl fun a hF => lv hF rfl pa3 (hS.bc (i := 1) rfl) rfl rfl rfl fun a hF => fv hF rfl pf51_6 rfl fun a hF => lv hF rfl pa3 (hS.bc (i := 0) rfl) rfl rfl rfl fun a hF => sv (v_eql hF rfl rfl) hF rfl fun a hF => gq 5 hF rfl rfl rfl
      ·
       refine mv hF rfl rfl fun a hF => gand 5 38 43 ((u0.Quiet == u1.Quiet)) hF rfl rfl rfl rfl rfl (fun _ => ?_) (fun a hF => ?_)
       ·
        exact fv hF rfl pf51_7 rfl fun a hF => lv hF rfl pa3 (hS.bc (i := 1) rfl) rfl rfl rfl fun a hF => fv hF rfl pf51_7 rfl fun a hF => lv hF rfl pa3 (hS.bc (i := 0) rfl) rfl rfl rfl fun a hF => sv (v_eql hF rfl rfl) hF rfl fun a hF => gq 5 hF rfl rfl rfl
       ·
        refine mv hF rfl rfl fun a hF => gand 5 45 50 ((u0.Age == u1.Age)) hF rfl rfl rfl rfl rfl (fun _ => ?_) (fun a hF => ?_)
        ·
         exact fv hF rfl pf51_8 rfl fun a hF => lv hF rfl pa3 (hS.bc (i := 1) rfl) rfl rfl rfl fun a hF => fv hF rfl pf51_8 rfl fun a hF => lv hF rfl pa3 (hS.bc (i := 0) rfl) rfl rfl rfl fun a hF => sv (v_eql hF rfl rfl) hF rfl fun a hF => gq 5 hF rfl rfl rfl
        ·
         refine av hF rfl rfl fun a hF => nl <| tn <| rt ?_
         obtain rfl := si h
         exact ret1 hF rfl (rv_tmp hF rfl) ⟨_, rfl, rfl, (hS.keep sn sl trivial)⟩

theorem ok_ref04_Same (k : Nat) {M : Nat → Prop} {w0 : World} {u0 : List TRule} {A0_0 : Option Addr} {c0_0 : Nat} {u1 : List TRule} {A1_0 : Option Addr} {c1_0 : Nat} {o : Bool} (hS : St M w0 [] [] [fSl k_TRule A0_0 c0_0 u0, fSl k_TRule A1_0 c1_0 u1] w0) (h : ref04_Same k u0 u1 = some o) :
    Calls Tryz.prog 16 #[.slice A0_0 ((u0).length) c0_0, .slice A1_0 ((u1).length) c1_0] w0 fun e W' => ∃ v, e = .returned v ∧ (v = .bool (o) ∧ St M w0 [] [] [] W') := by
  unfold ref04_Same at h
  refine cst Tryz.func16 rfl rfl rfl fun a hF => wq <| wg <| av hF rfl rfl fun a hF => nl <| tn <| wq <| wq <| wg <| mv hF rfl rfl fun a hF => sv (v_len hF rfl pu26) hF rfl fun a hF => mv hF rfl rfl fun a hF => sv (v_len hF rfl pu26) hF rfl fun a hF => sv (v_neq hF rfl rfl) hF rfl fun a hF => nl <| tn <| wi hF rfl h (fun h => ?_) fun h => ?_
  ·
   refine wq <| wg <| av hF rfl rfl fun a hF => nl <| tn <| rt <| tr ?_
   obtain rfl := si h
   exact ret1 hF rfl (rv_tmp hF rfl) ⟨_, rfl, rfl, (hS.keep sl sl trivial)⟩
  ·
   refine sk <| tn <| wq <| wq <| wg <| av hF rfl rfl fun a hF => nl <| tn ?_
   obtain ⟨o4, h, hk5⟩ := bindS h
   refine wp_join (fun a W => Lo.brk () = o4 ∧ FH 27 [] a ∧ St M w0 [] [] [] W) (fun a W hJ => ?_) ?_
   ·
    obtain ⟨rfl, hF, hS⟩ := hJ
    have h := hk5
    dsimp only at h
    refine tn <| wq <| wg <| av hF rfl rfl fun a hF => nl <| tn <| rt ?_
    obtain rfl := si h
    exact ret1 hF rfl (rv_tmp hF rfl) ⟨_, rfl, rfl, hS⟩
   ·
    refine wb <| wp_loop_fuel (I := fun m a W => ∃ (x3 : Int), FH 27 [(0, .slice A0_0 ((u0).length) c0_0), (1, .slice A1_0 ((u1).length) c1_0), (5, .int .i64 (x3))] a ∧ St M w0 [] [] [fSl k_TRule A0_0 c0_0 u0, fSl k_TRule A1_0 c1_0 u1] W ∧ (ref04_Same.l0 k u0 u1 m x3) = some o4) ?_ (k := k) ⟨0, (hF.keep ⟨rfl, rfl, rfl, trivial⟩), hS, h⟩
    rintro m6 a W ⟨x3, hF, hS, h⟩
    cases m6 with
    | zero => cases h
    | succ m6 =>
     rw [ref04_Same.l0] at h
     refine wq <| wq <| wg <| mv hF rfl rfl fun a hF => mv hF rfl rfl fun a hF => sv (v_len hF rfl pu26) hF rfl fun a hF => sv (v_lss hF rfl rfl) hF rfl fun a hF => nl <| tn <| wi hF rfl h (fun h => ?_) fun h => ?_
     ·
      refine sk <| tn <| wq <| wb <| wq <| wp_quiet rfl (by kernel_rfl) hS <| qv (fun W hC => (v_move hF rfl)) hF rfl fun a hF => qv (fun W hC => (v_move hF rfl)) hF rfl fun a hF => ?_
      obtain ⟨x8, hx9, h⟩ := bindS h
      obtain ⟨p10, cs11, hA12, hat13⟩ := SlR.at (hS.fc (i := 0) rfl) hx9
      obtain ⟨A14, c15, rfl, hs16⟩ := hat13.2.2.2
      refine qv (fun W hC => (v_idx hF rfl hA12 rfl psl26 hx9)) hF rfl fun a hF => qv (fun W hC => (v_load (cs := TRule.enc x8 A14 c15) hF rfl pa51 ps51 (hat13.2.2.1.grow hC.1))) hF rfl fun a hF => qv (fun W hC => (v_move hF rfl)) hF rfl fun a hF => qv (fun W hC => (v_move hF rfl)) hF rfl fun a hF => ?_
      obtain ⟨x17, hx18, h⟩ := bindS h
      obtain ⟨p19, cs20, hA21, hat22⟩ := SlR.at (hS.fc (i := 1) rfl) hx18
      obtain ⟨A23, c24, rfl, hs25⟩ := hat22.2.2.2
      refine qv (fun W hC => (v_idx hF rfl hA21 rfl psl26 hx18)) hF rfl fun a hF => qv (fun W hC => (v_load (cs := TRule.enc x17 A23 c24) hF rfl pa51 ps51 (hat22.2.2.1.grow hC.1))) hF rfl fun a hF => ?_
      obtain ⟨x26, hx27, h⟩ := bindS h
      refine qt_call hF pc53 rfl (by decide) (fun W hC => q_of hC (ok_ref04_Equal k (((hC.2.addFact (f := fSl k_TAct A14 c15 x8.Acts) ((fSl k_TAct A14 c15 x8.Acts).st hs16 (Stp.below hC.1))).addFact (f := fSl k_TAct A23 c24 x17.Acts) ((fSl k_TAct A23 c24 x17.Acts).st hs25 (Stp.below hC.1))).enter ⟨⟨1, rfl⟩, ⟨0, rfl⟩, trivial⟩) hx27)) (fun a hF => ?_)
      refine qv (fun W hC => (v_not hF rfl)) hF rfl fun a hF => qn ?_
      intro W hC
      have hS := hC.2
      refine tn <| wi hF rfl h (fun h => ?_) fun h => ?_
      ·
       refine wq <| wg <| av hF rfl rfl fun a hF => nl <| tn <| rt <| br <| tr <| tr <| br <| tr <| tr ?_
       obtain rfl := si h
       have h := hk5
       dsimp only at h
       obtain rfl := si h
       exact ret1 hF rfl (rv_tmp hF rfl) ⟨_, rfl, rfl, (hS.keep sl sl trivial)⟩
      ·
       exact sk <| bn <| tn <| wg <| mv hF rfl rfl fun a hF => sv (v_add hF rfl rfl) hF rfl fun a hF => av hF rfl rfl fun a hF => nl <| then_j ⟨m6, Nat.lt_succ_self _, (IntKind.i64.wrap (x3 + 1)), (hF.keep ⟨rfl, rfl, rfl, trivial⟩), hS, h⟩
     ·
      refine wp_exit <| tx <| tx <| bh ?_
      obtain rfl := si h
      exact then_j ⟨rfl, (hF.keep trivial), (hS.keep sl sl trivial)⟩

theorem ok_shadow_Shadow_Commit (k : Nat) {M : Nat → Prop} {w0 : World} {bs : List Box} {rs : List Row} {fs : List Fact} {W0 : World} {bo : Nat} {u0 : Tshadow_Shadow} {A0_0 : Option Addr} {c0_0 : Nat} {A0_1 : Option Addr} {c0_1 : Nat} {u1 : Int} {o : Tshadow_Shadow × Int} (hS : St M w0 (⟨bo, Tshadow_Shadow.enc u0 A0_0 c0_0 A0_1 c0_1, 134⟩ :: bs) (⟨(kSl k_TRule), 26, A0_0, c0_0, u0.base⟩ :: ⟨k_Tshadow_open, 140, A0_1, c0_1, u0.open_⟩ :: rs) (fs) W0) (h : shadow_Shadow_Commit k u0 u1 = some o) :
    Calls Tryz.prog 18 #[.pointer (some (⟨bo, 0, none⟩)), .int .i64 (u1)] W0 fun e W' => ∃ v, e = .returned v ∧ (∃ (A65 : Option Addr) (c66 : Nat) (A67 : Option Addr) (c68 : Nat), v = .int .i64 (o.2) ∧ St M w0 (⟨bo, Tshadow_Shadow.enc o.1 A65 c66 A67 c68, 134⟩ :: bs) (⟨(kSl k_TRule), 26, A65, c66, o.1.base⟩ :: ⟨k_Tshadow_open, 140, A67, c68, o.1.open_⟩ :: rs) (fs) W') := by
  unfold shadow_Shadow_Commit at h
  refine cst Tryz.func18 rfl rfl rfl fun a hF => wq <| wg <| av hF rfl rfl fun a hF => nl <| tn <| wq <| wg <| mv hF rfl rfl fun a hF => mv hF rfl rfl fun a hF => ?_
  obtain ⟨x1, hx2, h⟩ := bindS h
  refine sq_call hF pc57 rfl (by decide) (ok_shadow_Shadow_end k hS hx2) (fun v W hR a hF => ?_)
  obtain ⟨A3, c4, A5, c6, A7, c8, rfl, hS⟩ := hR
  refine mv hF rfl rfl fun a hF => sv (v_extract hF rfl rfl) hF rfl fun a hF => sv (v_extract hF rfl rfl) hF rfl fun a hF => al hF hS pz140 rfl rfl fun b9 a W hF hS => sq_store (o := 0) (vs := Tshadow_open.enc x1.2.1 A3 c4) (cs' := Tshadow_open.enc x1.2.1 A3 c4) hF hS rfl rfl (i := 0) rfl rfl rfl ps140 (Tshadow_open.enc_one _ _ _) (bl rfl) rfl fun W hS => av hF rfl rfl fun a hF => nl <| tn <| wq <| wq <| wg <| mv hF rfl rfl fun a hF => sv (v_neq hF rfl rfl) hF rfl fun a hF => nl <| tn <| wi hF rfl h (fun h => ?_) fun h => ?_
  ·
   refine wq <| wg <| mv hF rfl rfl fun a hF => av hF rfl rfl fun a hF => nl <| tn <| rt <| tr ?_
   obtain rfl := si h
   exact ret1 hF rfl (rv_tmp hF rfl) ⟨_, rfl, A5, c6, A7, c8, rfl, (hS.keepT [] (tl := fs) (.cons _ sl) sl trivial (.cons _ sl))⟩
  ·
   refine sk <| tn <| wq <| wq <| wg <| mv hF rfl rfl fun a hF => sv (v_nilCheck hF rfl) hF rfl fun a hF => fv hF rfl pf134_0 rfl fun a hF => lv hF rfl pa42 (hS.bc (i := 1) rfl) rfl rfl rfl fun a hF => sv (v_len hF rfl pu42) hF rfl fun a hF => mv hF rfl rfl fun a hF => nl <| tn ?_
   obtain ⟨o29, h, hk30⟩ := bindS h
   refine wp_join (fun a W => ∃ (x24 : Tshadow_Shadow) (A25 : Option Addr) (c26 : Nat) (A27 : Option Addr) (c28 : Nat), x24 = o29 ∧ FH 47 [] a ∧ St M w0 (⟨bo, Tshadow_Shadow.enc x24 A25 c26 A27 c28, 134⟩ :: bs) (⟨(kSl k_TRule), 26, A25, c26, x24.base⟩ :: ⟨k_Tshadow_open, 140, A27, c28, x24.open_⟩ :: rs) (fs) W) (fun a W hJ => ?_) ?_
   ·
    obtain ⟨x24, A25, c26, A27, c28, rfl, hF, hS⟩ := hJ
    have h := hk30
    refine tn <| wq <| wg <| av hF rfl rfl fun a hF => nl <| tn <| rt ?_
    obtain rfl := si h
    exact ret1 hF rfl (rv_tmp hF rfl) ⟨_, rfl, A25, c26, A27, c28, rfl, hS⟩
   ·
    refine wb <| wp_loop_fuel (I := fun m a W => ∃ (x18 : Tshadow_Shadow) (x23 : Int) (A19 : Option Addr) (c20 : Nat) (A21 : Option Addr) (c22 : Nat), FH 47 [(0, .pointer (some (⟨bo, 0, none⟩))), (5, .pointer (some (⟨b9, 0, none⟩))), (21, .int .i64 ((x1.1.base.length : Int))), (22, .int .i64 (x23))] a ∧ St M w0 (⟨b9, Tshadow_open.enc x1.2.1 A3 c4, 140⟩ :: ⟨bo, Tshadow_Shadow.enc x18 A19 c20 A21 c22, 134⟩ :: bs) (⟨(kSl k_TRule), 26, A19, c20, x18.base⟩ :: ⟨k_Tshadow_open, 140, A21, c22, x18.open_⟩ :: rs) ((fSl k_TChange A3 c4 x1.2.1.list) :: fs) W ∧ (shadow_Shadow_Commit.l0 k x1 m x18 x23) = some o29) ?_ (k := k) ⟨x1.1, 0, A5, c6, A7, c8, (hF.keep ⟨rfl, rfl, rfl, rfl, trivial⟩), hS, h⟩
    rintro m31 a W ⟨x18, x23, A19, c20, A21, c22, hF, hS, h⟩
    cases m31 with
    | zero => cases h
    | succ m31 =>
     rw [shadow_Shadow_Commit.l0] at h
     refine wq <| wg <| sv (v_lss hF rfl rfl) hF rfl fun a hF => nl <| tn <| wq <| wi hF rfl h (fun h => ?_) fun h => ?_
     ·
      refine sk <| tn <| wq <| wb <| wq <| wg <| mv hF rfl rfl fun a hF => av hF rfl rfl fun a hF => nl <| tn <| wp_drawn (QC M w0 (⟨b9, Tshadow_open.enc x1.2.1 A3 c4, 140⟩ :: ⟨bo, Tshadow_Shadow.enc x18 A19 c20 A21 c22, 134⟩ :: bs) (⟨(kSl k_TRule), 26, A19, c20, x18.base⟩ :: ⟨k_Tshadow_open, 140, A21, c22, x18.open_⟩ :: rs) ((fSl k_TChange A3 c4 x1.2.1.list) :: fs)) (fun q => Nat.beq q 21) rfl hS (fun W hB0 hR0 => ?_)
      have hS := hR0
      refine eqc ⟨Bl.refl _ _, hS⟩ fun hQC => e_val' 0 rfl (by kernel_rfl) (fun W => (v_move hF rfl)) hF rfl fun a hF => e_val' 1 rfl (by kernel_rfl) (fun W => (v_nilCheck hF rfl)) hF rfl fun a hF => e_val' 2 rfl (by kernel_rfl) (fun W => (v_fieldAddr hF rfl pf134_0)) hF rfl fun a hF => e_valS' 3 rfl (by kernel_rfl) (fun W hC => (v_load1 hF rfl pa42 (cells_sub (vs := [.slice A19 ((x18.base).length) c20]) (hC.2.bc (i := 1) rfl) rfl rfl))) hQC (by kernel_rfl) hF rfl fun a hF => e_val' 4 rfl (by kernel_rfl) (fun W => (v_move hF rfl)) hF rfl fun a hF => e_val' 5 rfl (by kernel_rfl) (fun W => (v_move hF rfl)) hF rfl fun a hF => e_val' 6 rfl (by kernel_rfl) (fun W => (v_nilCheck hF rfl)) hF rfl fun a hF => e_val' 7 rfl (by kernel_rfl) (fun W => (v_fieldAddr hF rfl pf134_0)) hF rfl fun a hF => e_valS' 8 rfl (by kernel_rfl) (fun W hC => (v_load1 hF rfl pa42 (cells_sub (vs := [.slice A19 ((x18.base).length) c20]) (hC.2.bc (i := 1) rfl) rfl rfl))) hQC (by kernel_rfl) hF rfl fun a hF => e_val' 9 rfl (by kernel_rfl) (fun W => (v_move hF rfl)) hF rfl fun a hF => ?_
      obtain ⟨x33, hx34, h⟩ := bindS h
      obtain ⟨p35, cs36, hA37, hc39, hr40⟩ := Row.ok.at (hR0.rw_ (i := 0) rfl) hx34
      obtain ⟨A41, c42, rfl, hs43⟩ := hr40
      refine e_val' 10 rfl (by kernel_rfl) (fun W => (v_idx hF rfl hA37 rfl psl42 hx34)) hF rfl fun a hF => e_valS' 11 rfl (by kernel_rfl) (fun W hC => (v_load1 hF rfl pa26 (hc39.grow hC.1))) hQC (by kernel_rfl) hF rfl fun a hF => e_val' 12 rfl (by kernel_rfl) (fun W => (v_fieldAddr hF rfl pf140_1)) hF rfl fun a hF => e_valS' 13 rfl (by kernel_rfl) (fun W hC => (v_load1 hF rfl pa28 (cells_sub (vs := [.slice A3 ((x1.2.1.list).length) c4]) (hC.2.bc (i := 0) rfl) rfl rfl))) hQC (by kernel_rfl) hF rfl fun a hF => e_val' 14 rfl (by kernel_rfl) (fun W => (v_move hF rfl)) hF rfl fun a hF => e_one' 15 rfl (by kernel_rfl) ?_
      have hS := hS.addFact (f := fSl k_TRule A41 c42 x33) hs43
      obtain ⟨x44, hx45, h⟩ := bindS h
      refine sq_call hF pc55 rfl (by decide) (ok_region_For k (u0 := x1.2.1.list) (A0_0 := A3) (c0_0 := c4) (hS.enter ⟨⟨1, rfl⟩, trivial⟩) hx45) (fun v W hR a hF => ?_)
      obtain ⟨A46, c47, rfl, hT48⟩ := hR
      have hS := hS.join hT48
      refine sq_nil (then_j ⟨?_, ?_⟩)
      · exact fun hQ0 _ => hQ0.next hT48.below
      ·
       have hQC := hQC.next hT48.below
       refine e_one' 16 rfl (by kernel_rfl) ?_
       have hS := hS.freeze (i := 0) rfl (posB rfl)
       obtain ⟨x49, hx50, h⟩ := bindS h
       refine sq_call hF pc54 rfl (by decide) (ok_shadow_laid k (hS.enter ⟨⟨1, rfl⟩, ⟨0, rfl⟩, trivial⟩) hx50) (fun v W hR a hF => ?_)
       obtain ⟨A51, c52, A53, c54, rfl, hT55⟩ := hR
       have hS := hS.join hT55
       refine sq_nil (then_j ⟨?_, ?_⟩)
       · exact fun hQ0 _ => hQ0.next hT55.below
       ·
        have hQC := hQC.next hT55.below
        refine e_val' 17 rfl (by kernel_rfl) (fun W => (v_move hF rfl)) hF rfl fun a hF => e_val' 18 rfl (by kernel_rfl) (fun W => (v_extract hF rfl rfl)) hF rfl fun a hF => e_val' 19 rfl (by kernel_rfl) (fun W => (v_extract hF rfl rfl)) hF rfl fun a hF => ?_
        obtain ⟨p56, cs57, hA58, hc60, hr61⟩ := Row.ok.at (hR0.rw_ (i := 0) rfl) hx34
        obtain ⟨A62, c63, rfl, hs64⟩ := hr61
        refine e_val' 20 rfl (by kernel_rfl) (fun W => (v_idx hF rfl hA58 rfl psl42 hx34)) hF rfl fun a hF => e_one' 21 rfl (by kernel_rfl) <| sq_storeEl hF hS (i := 1) rfl hA58 rfl hx34 rfl rfl ps26 ⟨A51, c52, rfl, (hS.fc (i := 0) rfl)⟩ (fun W hS => ?_)
        have hS : St M w0 (⟨b9, Tshadow_open.enc x1.2.1 A3 c4, 140⟩ :: ⟨bo, Tshadow_Shadow.enc (Tshadow_Shadow.setbase x18 (x18.base.set x23.toNat x49.1)) A19 c20 A21 c22, 134⟩ :: bs) (⟨k_Tundo_Patch, 227, A53, c54, x49.2⟩ :: ⟨(kSl k_TRule), 26, A19, c20, (x18.base.set x23.toNat x49.1)⟩ :: ⟨k_Tshadow_open, 140, A21, c22, x18.open_⟩ :: rs) ((fSl k_TRule A51 c52 x49.1) :: (fSl k_TMod A46 c47 x44) :: (fSl k_TRule A41 c42 x33) :: (fSl k_TChange A3 c4 x1.2.1.list) :: fs) W := by simpa [List.length_set, Tshadow_Shadow.enc, Tshadow_Shadow.setbase, Tshadow_Shadow.setopen, Tshadow_open.enc] using hS
        have hF : FH 47 [(0, .pointer (some (⟨bo, 0, none⟩))), (5, .pointer (some (⟨b9, 0, none⟩))), (7, .int .i64 (x23)), (21, .int .i64 ((x1.1.base.length : Int))), (22, .int .i64 (x23)), (23, .bool ((decide (x23 < (x1.1.base.length : Int))))), (24, .int .i64 (x23)), (25, .tuple #[.slice A51 ((x49.1).length) c52, .slice A53 ((x49.2).length) c54]), (26, .pointer (some (⟨bo, 0, none⟩))), (27, .pointer (some (⟨bo, 0, none⟩))), (28, .pointer (some ((⟨bo, 0, none⟩ : Addr).add (0)))), (29, .slice A19 (((x18.base.set x23.toNat x49.1)).length) c20), (30, .int .i64 (x23)), (31, .pointer (some (⟨bo, 0, none⟩))), (32, .pointer (some (⟨bo, 0, none⟩))), (33, .pointer (some ((⟨bo, 0, none⟩ : Addr).add (0)))), (34, .slice A19 (((x18.base.set x23.toNat x49.1)).length) c20), (35, .int .i64 (x23)), (37, .slice A41 ((x33).length) c42), (38, .pointer (some ((⟨b9, 0, none⟩ : Addr).add (1)))), (39, .slice A3 ((x1.2.1.list).length) c4), (40, .int .i64 (x23)), (41, .slice A46 ((x44).length) c47), (42, .tuple #[.slice A51 ((x49.1).length) c52, .slice A53 ((x49.2).length) c54]), (43, .slice A51 ((x49.1).length) c52), (44, .slice A53 ((x49.2).length) c54)] a := (hF.keep ⟨rfl, rfl, rfl, rfl, rfl, rfl, rfl, rfl, rfl, rfl, rfl, (by simp only [List.length_set] <;> rfl), rfl, rfl, rfl, rfl, (by simp only [List.length_set] <;> rfl), rfl, rfl, rfl, rfl, rfl, rfl, rfl, rfl, rfl, trivial⟩)
        refine sq_nil (then_j ⟨?_, ?_⟩)
        · exact fun _ hE => absurd hE (by decide)
        ·
         refine e_done (by kernel_rfl) ?_ _
         exact bn <| tn <| wg <| sv (v_add hF rfl rfl) hF rfl fun a hF => mv hF rfl rfl fun a hF => nl <| then_j ⟨m31, Nat.lt_succ_self _, (Tshadow_Shadow.setbase x18 (x18.base.set x23.toNat x49.1)), (IntKind.i64.wrap (x23 + 1)), A19, c20, A21, c22, (hF.keep ⟨rfl, rfl, rfl, rfl, trivial⟩), (hS.keepT [fSl k_TChange A3 c4 x1.2.1.list] (tl := fs) sl (.cons _ sl) ⟨⟨3, rfl⟩, trivial⟩ (.cons _ (.cons _ (.cons _ (.cons _ sl))))), h⟩
     ·
      refine wp_exit <| tx <| tx <| bh ?_
      obtain rfl := si h
      exact then_j ⟨x18, A19, c20, A21, c22, rfl, (hF.keep trivial), (hS.keepT [] (tl := fs) (.cons _ sl) sl trivial (.cons _ sl))⟩

theorem len_slices_Sort_int {u0 o : List Int} (h : slices_Sort_int u0 = some o) : o.length = u0.length := sortI_len h
theorem ok_slices_Sort_int {M : Nat → Prop} {w0 : World} {bs : List Box} {rs : List Row} {fs : List Fact} {W0 : World} {u0 : List Int} {A0_0 : Option Addr} {c0_0 : Nat} {o : List Int} (hS : St M w0 bs (⟨(kInt .i64), 3, A0_0, c0_0, u0⟩ :: rs) fs W0) (h : slices_Sort_int u0 = some o) :
    Calls Tryz.prog 58 #[.slice A0_0 (u0).length c0_0] W0 fun e W' => ∃ v, e = .returned v ∧ (v = .tuple #[] ∧ St M w0 bs (⟨(kInt .i64), 3, A0_0, c0_0, o⟩ :: rs) fs W') :=
  sortI_ok (ρ := Tryz.sortInt_ren) Tryz.sortInt hS h

theorem ok_shadow_Shadow_Open (k : Nat) {M : Nat → Prop} {w0 : World} {bs : List Box} {rs : List Row} {fs : List Fact} {W0 : World} {bo : Nat} {u0 : Tshadow_Shadow} {A0_0 : Option Addr} {c0_0 : Nat} {A0_1 : Option Addr} {c0_1 : Nat} {o : (List Int)} (hS : St M w0 (⟨bo, Tshadow_Shadow.enc u0 A0_0 c0_0 A0_1 c0_1, 134⟩ :: bs) (⟨(kSl k_TRule), 26, A0_0, c0_0, u0.base⟩ :: ⟨k_Tshadow_open, 140, A0_1, c0_1, u0.open_⟩ :: rs) (fs) W0) (h : shadow_Shadow_Open k u0 = some o) :
    Calls Tryz.prog 20 #[.pointer (some (⟨bo, 0, none⟩))] W0 fun e W' => ∃ v, e = .returned v ∧ (∃ (A37 : Option Addr) (c38 : Nat), v = .slice A37 ((o).length) c38 ∧ St M w0 (⟨bo, Tshadow_Shadow.enc u0 A0_0 c0_0 A0_1 c0_1, 134⟩ :: bs) (⟨(kInt .i64), 3, A37, c38, o⟩ :: ⟨(kSl k_TRule), 26, A0_0, c0_0, u0.base⟩ :: ⟨k_Tshadow_open, 140, A0_1, c0_1, u0.open_⟩ :: rs) (fs) W') := by
  unfold shadow_Shadow_Open at h
  refine cst Tryz.func20 rfl rfl rfl fun a hF => wq <| wg <| av hF rfl rfl fun a hF => nl <| tn <| wq <| wq <| wg <| mv hF rfl rfl fun a hF => sv (v_eqP hF rfl rfl pu24) hF rfl fun a hF => nl <| tn <| wi hF rfl h (fun h => ?_) fun h => ?_
  ·
   refine wq <| wg <| av hF rfl rfl fun a hF => nl <| tn <| rt <| tr ?_
   have hS := hS.addNil (kInt .i64) 3
   obtain rfl := si h
   exact ret1 hF rfl (rv_tmp hF rfl) ⟨_, rfl, none, 0, rfl, hS⟩
  ·
   refine sk <| tn <| wq <| wg <| av hF rfl rfl fun a hF => nl <| tn <| wq <| wq <| wg <| mv hF rfl rfl fun a hF => sv (v_nilCheck hF rfl) hF rfl fun a hF => fv hF rfl pf134_1 rfl fun a hF => lv hF rfl pa132 (hS.bc (i := 0) rfl) rfl rfl rfl fun a hF => sv (v_len hF rfl pu132) hF rfl fun a hF => mv hF rfl rfl fun a hF => nl <| tn ?_
   obtain ⟨o13, h, hk14⟩ := bindS h
   refine wp_join (fun a W => ∃ (x10 : List Int) (A11 : Option Addr) (c12 : Nat), x10 = o13 ∧ FH 26 [(3, .slice A11 ((x10).length) c12)] a ∧ St M w0 (⟨bo, Tshadow_Shadow.enc u0 A0_0 c0_0 A0_1 c0_1, 134⟩ :: bs) (⟨(kInt .i64), 3, A11, c12, x10⟩ :: ⟨(kSl k_TRule), 26, A0_0, c0_0, u0.base⟩ :: ⟨k_Tshadow_open, 140, A0_1, c0_1, u0.open_⟩ :: rs) (fs) W) (fun a W hJ => ?_) ?_
   ·
    obtain ⟨x10, A11, c12, rfl, hF, hS⟩ := hJ
    have h := hk14
    refine tn <| wq <| wg <| mv hF rfl rfl fun a hF => ?_
    obtain ⟨x15, hx16, h⟩ := bindS h
    refine sq_call hF pc58 rfl (by decide) (ok_slices_Sort_int hS hx16) (fun v W hR a hF => ?_)
    obtain ⟨rfl, hS⟩ := hR
    have hF : FH 26 [(3, .slice A11 ((x15).length) c12), (23, .slice A11 ((x15).length) c12), (24, .tuple #[])] a := (hF.keep ⟨(by simp only [len_slices_Sort_int hx16] <;> rfl), (by simp only [len_slices_Sort_int hx16] <;> rfl), rfl, trivial⟩)
    refine nl <| tn <| wq <| wg <| mv hF rfl rfl fun a hF => av hF rfl rfl fun a hF => nl <| tn <| rt ?_
    obtain rfl := si h
    exact ret1 hF rfl (rv_tmp hF rfl) ⟨_, rfl, A11, c12, rfl, hS⟩
   ·
    have hS := hS.addNil (kInt .i64) 3
    refine wb <| wp_loop_fuel (I := fun m a W => ∃ (x6 : List Int) (x9 : Int) (A7 : Option Addr) (c8 : Nat), FH 26 [(3, .slice A7 ((x6).length) c8), (11, .slice A0_1 ((u0.open_).length) c0_1), (12, .int .i64 ((u0.open_.length : Int))), (13, .int .i64 (x9))] a ∧ St M w0 (⟨bo, Tshadow_Shadow.enc u0 A0_0 c0_0 A0_1 c0_1, 134⟩ :: bs) (⟨(kInt .i64), 3, A7, c8, x6⟩ :: ⟨(kSl k_TRule), 26, A0_0, c0_0, u0.base⟩ :: ⟨k_Tshadow_open, 140, A0_1, c0_1, u0.open_⟩ :: rs) (fs) W ∧ (shadow_Shadow_Open.l0 k u0 m x6 x9) = some o13) ?_ (k := k) ⟨([]), 0, none, 0, (hF.keep ⟨rfl, rfl, rfl, rfl, trivial⟩), hS, h⟩
    rintro m17 a W ⟨x6, x9, A7, c8, hF, hS, h⟩
    cases m17 with
    | zero => cases h
    | succ m17 =>
     rw [shadow_Shadow_Open.l0] at h
     refine wq <| wg <| sv (v_lss hF rfl rfl) hF rfl fun a hF => nl <| tn <| wq <| wi hF rfl h (fun h => ?_) fun h => ?_
     ·
      refine sk <| tn <| wq <| wb <| wq <| wg ?_
      obtain ⟨x19, hx20, h⟩ := bindS h
      obtain ⟨p21, cs22, hA23, hc25, hr26⟩ := Row.ok.at (hS.rw_ (i := 2) rfl) hx20
      obtain ⟨A27, c28, rfl, hs29⟩ := hr26
      have hS := hS.addFact (f := fSl k_TChange A27 c28 x19.list) hs29
      refine sv (v_idx hF rfl hA23 rfl psl132 hx20) hF rfl fun a hF => sv (v_load (cs := Tshadow_open.enc x19 A27 c28) hF rfl pa140 ps140 hc25) hF rfl fun a hF => al hF hS pz140 rfl rfl fun b30 a W hF hS => sq_store (o := 0) (vs := Tshadow_open.enc x19 A27 c28) (cs' := Tshadow_open.enc x19 A27 c28) hF hS rfl rfl (i := 0) rfl rfl rfl ps140 (Tshadow_open.enc_one _ _ _) (bl rfl) rfl fun W hS => nl <| tn <| wg <| mv hF rfl rfl fun a hF => fv hF rfl pf140_0 rfl fun a hF => lv hF rfl pa3 (hS.bc (i := 0) rfl) rfl rfl rfl fun a hF => sq_buildSlice (κ := (kInt .i64)) (xs := [.tmp 19]) (ys := [x19.id]) hF hS rfl rfl rfl (Els.cons rfl (Els.nil _ _ _)) rfl psl38 pz3 rfl (by decide) (by decide) (by decide) (fun A31 c32 a W hF hS => ?_)
      obtain ⟨x35, hx36, h⟩ := bindS h
      refine sq_append (ys := ([x19.id])) hF hS (i := 1) rfl rfl rfl (hS.rw_ (i := 0) rfl).src psl38 pb3 pz3 rfl (by decide) (by decide) hx36 (by decide) (fun A33 c34 a W hF hS => ?_)
      exact av hF rfl rfl fun a hF => nl <| bn <| tn <| wg <| sv (v_add hF rfl rfl) hF rfl fun a hF => mv hF rfl rfl fun a hF => nl <| then_j ⟨m17, Nat.lt_succ_self _, x35, (IntKind.i64.wrap (x9 + 1)), A33, c34, (hF.keep ⟨rfl, rfl, rfl, rfl, trivial⟩), (hS.keepT [] (tl := fs) (.cons _ sl) (.cons _ sl) trivial (.cons _ sl)), h⟩
     ·
      refine wp_exit <| tx <| tx <| bh ?_
      obtain rfl := si h
      exact then_j ⟨x6, A7, c8, rfl, (hF.keep ⟨rfl, trivial⟩), hS⟩

theorem ok_ref01_Ints (k : Nat) {M : Nat → Prop} {w0 : World} {u0 : List Int} {A0_0 : Option Addr} {c0_0 : Nat} {u1 : List Int} {A1_0 : Option Addr} {c1_0 : Nat} {o : Bool} (hS : St M w0 [] [] [fSl (kInt .i64) A0_0 c0_0 u0, fSl (kInt .i64) A1_0 c1_0 u1] w0) (h : ref01_Ints k u0 u1 = some o) :
    Calls Tryz.prog 19 #[.slice A0_0 ((u0).length) c0_0, .slice A1_0 ((u1).length) c1_0] w0 fun e W' => ∃ v, e = .returned v ∧ (v = .bool (o) ∧ St M w0 [] [] [] W') := by
  unfold ref01_Ints at h
  refine cst Tryz.func19 rfl rfl rfl fun a hF => wq <| wg <| av hF rfl rfl fun a hF => nl <| tn <| wq <| wq <| wg <| mv hF rfl rfl fun a hF => sv (v_len hF rfl pu38) hF rfl fun a hF => mv hF rfl rfl fun a hF => sv (v_len hF rfl pu38) hF rfl fun a hF => sv (v_neq hF rfl rfl) hF rfl fun a hF => nl <| tn <| wi hF rfl h (fun h => ?_) fun h => ?_
  ·
   refine wq <| wg <| av hF rfl rfl fun a hF => nl <| tn <| rt <| tr ?_
   obtain rfl := si h
   exact ret1 hF rfl (rv_tmp hF rfl) ⟨_, rfl, rfl, (hS.keep sl sl trivial)⟩
  ·
   refine sk <| tn <| wq <| wq <| wg <| av hF rfl rfl fun a hF => nl <| tn ?_
   obtain ⟨o4, h, hk5⟩ := bindS h
   refine wp_join (fun a W => Lo.brk () = o4 ∧ FH 26 [] a ∧ St M w0 [] [] [] W) (fun a W hJ => ?_) ?_
   ·
    obtain ⟨rfl, hF, hS⟩ := hJ
    have h := hk5
    dsimp only at h
    refine tn <| wq <| wg <| av hF rfl rfl fun a hF => nl <| tn <| rt ?_
    obtain rfl := si h
    exact ret1 hF rfl (rv_tmp hF rfl) ⟨_, rfl, rfl, hS⟩
   ·
    refine wb <| wp_loop_fuel (I := fun m a W => ∃ (x3 : Int), FH 26 [(0, .slice A0_0 ((u0).length) c0_0), (1, .slice A1_0 ((u1).length) c1_0), (5, .int .i64 (x3))] a ∧ St M w0 [] [] [fSl (kInt .i64) A0_0 c0_0 u0, fSl (kInt .i64) A1_0 c1_0 u1] W ∧ (ref01_Ints.l0 k u0 u1 m x3) = some o4) ?_ (k := k) ⟨0, (hF.keep ⟨rfl, rfl, rfl, trivial⟩), hS, h⟩
    rintro m6 a W ⟨x3, hF, hS, h⟩
    cases m6 with
    | zero => cases h
    | succ m6 =>
     rw [ref01_Ints.l0] at h
     refine wq <| wq <| wg <| mv hF rfl rfl fun a hF => mv hF rfl rfl fun a hF => sv (v_len hF rfl pu38) hF rfl fun a hF => sv (v_lss hF rfl rfl) hF rfl fun a hF => nl <| tn <| wi hF rfl h (fun h => ?_) fun h => ?_
     ·
      refine sk <| tn <| wq <| wb <| wq <| wp_quiet rfl (by kernel_rfl) hS <| qv (fun W hC => (v_move hF rfl)) hF rfl fun a hF => qv (fun W hC => (v_move hF rfl)) hF rfl fun a hF => ?_
      obtain ⟨x8, hx9, h⟩ := bindS h
      obtain ⟨p10, cs11, hA12, hat13⟩ := SlR.at (hS.fc (i := 0) rfl) hx9
      obtain rfl : cs11 = [.int .i64 (x8)] := hat13.2.2.2
      refine qv (fun W hC => (v_idx hF rfl hA12 rfl psl38 hx9)) hF rfl fun a hF => qv (fun W hC => (v_load1 hF rfl pa3 (hat13.2.2.1.grow hC.1))) hF rfl fun a hF => qv (fun W hC => (v_move hF rfl)) hF rfl fun a hF => qv (fun W hC => (v_move hF rfl)) hF rfl fun a hF => ?_
      obtain ⟨x14, hx15, h⟩ := bindS h
      obtain ⟨p16, cs17, hA18, hat19⟩ := SlR.at (hS.fc (i := 1) rfl) hx15
      obtain rfl : cs17 = [.int .i64 (x14)] := hat19.2.2.2
      refine qv (fun W hC => (v_idx hF rfl hA18 rfl psl38 hx15)) hF rfl fun a hF => qv (fun W hC => (v_load1 hF rfl pa3 (hat19.2.2.1.grow hC.1))) hF rfl fun a hF => qv (fun W hC => (v_neq hF rfl rfl)) hF rfl fun a hF => qn ?_
      intro W hC
      have hS := hC.2
      refine tn <| wi hF rfl h (fun h => ?_) fun h => ?_
      ·
       refine wq <| wg <| av hF rfl rfl fun a hF => nl <| tn <| rt <| br <| tr <| tr <| br <| tr <| tr ?_
       obtain rfl := si h
       have h := hk5
       dsimp only at h
       obtain rfl := si h
       exact ret1 hF rfl (rv_tmp hF rfl) ⟨_, rfl, rfl, (hS.keep sl sl trivial)⟩
      ·
       exact sk <| bn <| tn <| wg <| mv hF rfl rfl fun a hF => sv (v_add hF rfl rfl) hF rfl fun a hF => av hF rfl rfl fun a hF => nl <| then_j ⟨m6, Nat.lt_succ_self _, (IntKind.i64.wrap (x3 + 1)), (hF.keep ⟨rfl, rfl, rfl, trivial⟩), hS, h⟩
     ·
      refine wp_exit <| tx <| tx <| bh ?_
      obtain rfl := si h
      exact then_j ⟨rfl, (hF.keep trivial), (hS.keep sl sl trivial)⟩

theorem ok_law22_ShadowSteps (k : Nat) {M : Nat → Prop} {w0 : World} {u0 : List (List TChange)} {A0_0 : Option Addr} {c0_0 : Nat} {o : Bool} (hS : St M w0 [] [] [fSl (kSl k_TChange) A0_0 c0_0 u0] w0) (h : law22_ShadowSteps k u0 = some o) :
    Calls Tryz.prog 3 #[.slice A0_0 ((u0).length) c0_0] w0 fun e W' => ∃ v, e = .returned v ∧ (v = .bool (o) ∧ St M w0 [] [] [] W') := by
  unfold law22_ShadowSteps at h
  refine cst Tryz.func3 rfl rfl rfl fun a hF => wq <| wg <| av hF rfl rfl fun a hF => nl <| tn <| wq <| wq <| wg <| mv hF rfl rfl fun a hF => sv (v_len hF rfl pu22) hF rfl fun a hF => sv (v_gtr hF rfl rfl) hF rfl fun a hF => nl <| tn <| wi hF rfl h (fun h => ?_) fun h => ?_
  ·
   refine wq <| wg ?_
   obtain ⟨x2, hx3, h⟩ := bindS h
   refine cl hF pc11 rfl rfl (ok_law22_answers k (hS.enter trivial) hx3) hS fun W a hF hS => av hF rfl rfl fun a hF => nl <| tn <| rt <| tr ?_
   obtain rfl := si h
   exact ret1 hF rfl (rv_tmp hF rfl) ⟨_, rfl, rfl, (hS.keep sl sl trivial)⟩
  ·
   refine sk <| tn <| wq <| wg ?_
   obtain ⟨x5, hx6, h⟩ := bindS h
   refine sq_call hF pc12 rfl (by decide) (ok_shadow_New (hS.enter trivial) hx6) (fun v W hR a hF => ?_)
   obtain ⟨b7, A8, c9, A10, c11, rfl, hT12⟩ := hR
   have hS := hS.joinB hT12
   refine av hF rfl rfl fun a hF => nl <| tn <| wq <| wg <| al hF hS pz27 rfl rfl fun b13 a W hF hS => nl <| tn <| wq <| wq <| wg <| av hF rfl rfl fun a hF => nl <| tn ?_
   obtain ⟨o53, h, hk54⟩ := bindS h
   refine wp_join (fun a W => ∃ (x41 : AL3_26) (x48 : Tshadow_Shadow) (A42 : Option Addr) (c43 : Nat) (A44 : Option Addr) (c45 : Nat) (A46 : Option Addr) (c47 : Nat) (A49 : Option Addr) (c50 : Nat) (A51 : Option Addr) (c52 : Nat), Lo.brk (x41, x48) = o53 ∧ FH 81 [(3, .pointer (some (⟨b7, 0, none⟩))), (4, .pointer (some (⟨b13, 0, none⟩)))] a ∧ St M w0 [⟨b13, AL3_26.enc x41 A42 c43 A44 c45 A46 c47, 27⟩, ⟨b7, Tshadow_Shadow.enc x48 A49 c50 A51 c52, 134⟩] [⟨(kSl k_TRule), 26, A49, c50, x48.base⟩, ⟨k_Tshadow_open, 140, A51, c52, x48.open_⟩] [fSl k_TRule A42 c43 x41.e0, fSl k_TRule A44 c45 x41.e1, fSl k_TRule A46 c47 x41.e2] W) (fun a W hJ => ?_) ?_
   ·
    obtain ⟨x41, x48, A42, c43, A44, c45, A46, c47, A49, c50, A51, c52, rfl, hF, hS⟩ := hJ
    have h := hk54
    dsimp only at h
    refine tn <| wq ?_
    obtain ⟨o56, h, hk57⟩ := bindS h
    refine wp_join (fun a W => ∃ (x55 : Bool), x55 = o56 ∧ FH 81 [(2, .bool (x55))] a ∧ St M w0 [] [] [] W) (fun a W hJ => ?_) ?_
    ·
     obtain ⟨x55, rfl, hF, hS⟩ := hJ
     have h := hk57
     refine tn <| rt ?_
     obtain rfl := si h
     exact ret1 hF rfl (rv_tmp hF rfl) ⟨_, rfl, rfl, hS⟩
    ·
     refine wp_drawn (fun _ => St M w0 [⟨b13, AL3_26.enc x41 A42 c43 A44 c45 A46 c47, 27⟩, ⟨b7, Tshadow_Shadow.enc x48 A49 c50 A51 c52, 134⟩] [] [fSl k_TRule A42 c43 x41.e0, fSl k_TRule A44 c45 x41.e1, fSl k_TRule A46 c47 x41.e2]) (fun _ => false) rfl hS (fun W hB0 hR0 => ?_)
     have hS := hR0
     refine eqc (hS.keep sl sn ⟨⟨0, rfl⟩, ⟨1, rfl⟩, ⟨2, rfl⟩, trivial⟩) fun hQC => e_one' 0 rfl (by kernel_rfl) ?_
     obtain ⟨x58, hx59, h⟩ := bindS h
     refine cl hF pc11 rfl rfl (ok_law22_answers k (hS.enter trivial) hx59) hS fun W a hF hS => sq_nil (then_j ⟨?_, ?_⟩)
     · exact fun _ _ => (hS.keep sl sn ⟨⟨0, rfl⟩, ⟨1, rfl⟩, ⟨2, rfl⟩, trivial⟩)
     ·
      refine eqc (hS.keep sl sn ⟨⟨0, rfl⟩, ⟨1, rfl⟩, ⟨2, rfl⟩, trivial⟩) fun hQC => e_val' 1 rfl (by kernel_rfl) (fun W => (v_move hF rfl)) hF rfl fun a hF => ?_
      by_cases he61 : x58 = true
      ·
       replace h := ifT he61 h
       refine e_valG' 2 rfl (by kernel_rfl) rfl rfl he61 (fun W => (v_move hF rfl)) hF rfl fun a hF => e_valG' 4 rfl (by kernel_rfl) rfl rfl he61 (fun W => (v_indexAddr hF rfl rfl par27 (⟨by decide, by decide⟩ : (0 : Int) ≤ 0 ∧ (0 : Int) < 3).1 (⟨by decide, by decide⟩ : (0 : Int) ≤ 0 ∧ (0 : Int) < 3).2)) hF rfl fun a hF => e_valGS' 5 rfl (by kernel_rfl) rfl rfl he61 (fun W hC => (v_load1 hF rfl pa26 (cells_sub (vs := [.slice A42 ((x41.e0).length) c43]) (hC.bc (i := 0) rfl) rfl rfl))) hQC (by kernel_rfl) hF rfl fun a hF => e_one' 3 rfl (by kernel_rfl) <| sq_yes hF rfl rfl he61 ?_
       have hS := hS.perm (.trans (.swap _ _ _) (List.Perm.refl _)) (List.Perm.refl _)
       obtain ⟨x62, hx63, h⟩ := bindS h
       refine sq_call hF pc17 rfl (by decide) (ok_shadow_Shadow_Table k hS hx63) (fun v W hR a hF => ?_)
       obtain ⟨A64, c65, rfl, hS⟩ := hR
       refine sq_nil (then_j ⟨?_, ?_⟩)
       · exact fun _ _ => ((hS.perm (.trans (.swap _ _ _) (List.Perm.refl _)) (List.Perm.refl _)).keep sl sn ⟨⟨0, rfl⟩, ⟨1, rfl⟩, ⟨2, rfl⟩, trivial⟩)
       ·
        refine eqc ((hS.perm (.trans (.swap _ _ _) (List.Perm.refl _)) (List.Perm.refl _)).keep sl sn ⟨⟨0, rfl⟩, ⟨1, rfl⟩, ⟨2, rfl⟩, trivial⟩) fun hQC => e_one' 6 rfl (by kernel_rfl) <| sq_yes hF rfl rfl he61 ?_
        obtain ⟨x66, hx67, h⟩ := bindS h
        refine cl hF pc16 rfl rfl (ok_ref04_Same k ((hS.freeze (i := 0) rfl (posB rfl)).enter ⟨⟨0, rfl⟩, ⟨1, rfl⟩, trivial⟩) hx67) hS fun W a hF hS => sq_nil (then_j ⟨?_, ?_⟩)
        · exact fun _ _ => ((hS.perm (.trans (.swap _ _ _) (List.Perm.refl _)) (List.Perm.refl _)).keep sl sn ⟨⟨0, rfl⟩, ⟨1, rfl⟩, ⟨2, rfl⟩, trivial⟩)
        ·
         refine eqc ((hS.perm (.trans (.swap _ _ _) (List.Perm.refl _)) (List.Perm.refl _)).keep sl sn ⟨⟨0, rfl⟩, ⟨1, rfl⟩, ⟨2, rfl⟩, trivial⟩) fun hQC => e_val' 7 rfl (by kernel_rfl) (fun W => (v_pick_t hF rfl he61 rfl)) hF rfl fun a hF => e_val' 8 rfl (by kernel_rfl) (fun W => (v_move hF rfl)) hF rfl fun a hF => ?_
         by_cases he69 : x66 = true
         ·
          replace h := ifT he69 h
          refine e_valG' 9 rfl (by kernel_rfl) rfl rfl he69 (fun W => (v_move hF rfl)) hF rfl fun a hF => e_valG' 11 rfl (by kernel_rfl) rfl rfl he69 (fun W => (v_indexAddr hF rfl rfl par27 (⟨by decide, by decide⟩ : (0 : Int) ≤ 2 ∧ (2 : Int) < 3).1 (⟨by decide, by decide⟩ : (0 : Int) ≤ 2 ∧ (2 : Int) < 3).2)) hF rfl fun a hF => e_valGS' 12 rfl (by kernel_rfl) rfl rfl he69 (fun W hC => (v_load1 hF rfl pa26 (cells_sub (vs := [.slice A46 ((x41.e2).length) c47]) (hC.bc (i := 0) rfl) rfl rfl))) hQC (by kernel_rfl) hF rfl fun a hF => e_one' 10 rfl (by kernel_rfl) <| sq_yes hF rfl rfl he69 ?_
          have hS := hS.perm (List.Perm.refl _) (.trans (.swap _ _ _) (.cons _ (.trans (.swap _ _ _) (List.Perm.refl _))))
          obtain ⟨x70, hx71, h⟩ := bindS h
          refine sq_call hF pc17 rfl (by decide) (ok_shadow_Shadow_Table k hS hx71) (fun v W hR a hF => ?_)
          obtain ⟨A72, c73, rfl, hS⟩ := hR
          refine sq_nil (then_j ⟨?_, ?_⟩)
          · exact fun _ _ => ((hS.perm (.trans (.swap _ _ _) (List.Perm.refl _)) (List.Perm.refl _)).keep sl sn ⟨⟨0, rfl⟩, ⟨1, rfl⟩, ⟨2, rfl⟩, trivial⟩)
          ·
           refine eqc ((hS.perm (.trans (.swap _ _ _) (List.Perm.refl _)) (List.Perm.refl _)).keep sl sn ⟨⟨0, rfl⟩, ⟨1, rfl⟩, ⟨2, rfl⟩, trivial⟩) fun hQC => e_one' 13 rfl (by kernel_rfl) <| sq_yes hF rfl rfl he69 ?_
           obtain ⟨x74, hx75, h⟩ := bindS h
           refine cl hF pc16 rfl rfl (ok_ref04_Same k ((hS.freeze (i := 0) rfl (posB rfl)).enter ⟨⟨0, rfl⟩, ⟨3, rfl⟩, trivial⟩) hx75) hS fun W a hF hS => sq_nil (then_j ⟨?_, ?_⟩)
           · exact fun _ _ => ((hS.perm (.trans (.swap _ _ _) (List.Perm.refl _)) (List.Perm.refl _)).keep sl sn ⟨⟨0, rfl⟩, ⟨1, rfl⟩, ⟨2, rfl⟩, trivial⟩)
           ·
            refine e_val' 14 rfl (by kernel_rfl) (fun W => (v_pick_t hF rfl he69 rfl)) hF rfl fun a hF => e_val' 15 rfl (by kernel_rfl) (fun W => (v_move hF rfl)) hF rfl fun a hF => ?_
            by_cases he77 : x74 = true
            ·
             replace h := ifT he77 h
             refine e_valG' 16 rfl (by kernel_rfl) rfl rfl he77 (fun W => (v_move hF rfl)) hF rfl fun a hF => e_one' 17 rfl (by kernel_rfl) <| sq_yes hF rfl rfl he77 ?_
             have hS := hS.perm (List.Perm.refl _) (.trans (.swap _ _ _) (.cons _ (.trans (.swap _ _ _) (List.Perm.refl _))))
             obtain ⟨x78, hx79, h⟩ := bindS h
             refine sq_call hF pc20 rfl (by decide) (ok_shadow_Shadow_Open k hS hx79) (fun v W hR a hF => ?_)
             obtain ⟨A80, c81, rfl, hS⟩ := hR
             refine sq_nil (then_j ⟨?_, ?_⟩)
             · exact fun _ _ => ((hS.perm (.trans (.swap _ _ _) (List.Perm.refl _)) (List.Perm.refl _)).keep sl sn ⟨⟨0, rfl⟩, ⟨1, rfl⟩, ⟨2, rfl⟩, trivial⟩)
             ·
              refine e_one' 18 rfl (by kernel_rfl) <| sq_yes hF rfl rfl he77 ?_
              have hS := hS.addFact (f := fSl (kInt .i64) none 0 []) (SlR.nil _ _ _)
              obtain ⟨x82, hx83, h⟩ := bindS h
              refine cl hF pc19 rfl rfl (ok_ref01_Ints k (u1 := []) (A1_0 := none) (c1_0 := 0) ((hS.freeze (i := 0) rfl (posB rfl)).enter ⟨⟨0, rfl⟩, ⟨1, rfl⟩, trivial⟩) hx83) hS fun W a hF hS => sq_nil (then_j ⟨?_, ?_⟩)
              · exact fun _ _ => ((hS.perm (.trans (.swap _ _ _) (List.Perm.refl _)) (List.Perm.refl _)).keep sl sn ⟨⟨1, rfl⟩, ⟨2, rfl⟩, ⟨3, rfl⟩, trivial⟩)
              ·
               refine e_val' 19 rfl (by kernel_rfl) (fun W => (v_pick_t hF rfl he77 rfl)) hF rfl fun a hF => e_val' 20 rfl (by kernel_rfl) (fun W => (v_assign hF rfl)) hF rfl fun a hF => e_done (by kernel_rfl) ?_ _
               obtain rfl := si h
               exact then_j ⟨x82, rfl, (hF.keep ⟨rfl, trivial⟩), (hS.keep sn sn trivial)⟩
            ·
             have he77 : x74 = false := nB he77
             replace h := ifF he77 h
             refine e_no' 16 rfl (by kernel_rfl) rfl rfl he77 hF rfl fun a hF => e_no' 17 rfl (by kernel_rfl) rfl rfl he77 hF rfl fun a hF => e_no' 18 rfl (by kernel_rfl) rfl rfl he77 hF rfl fun a hF => e_val' 19 rfl (by kernel_rfl) (fun W => (v_pick_f hF rfl he77 rfl)) hF rfl fun a hF => e_val' 20 rfl (by kernel_rfl) (fun W => (v_assign hF rfl)) hF rfl fun a hF => e_done (by kernel_rfl) ?_ _
             obtain rfl := si h
             exact then_j ⟨false, rfl, (hF.keep ⟨rfl, trivial⟩), (hS.keep sn sn trivial)⟩
         ·
          have he69 : x66 = false := nB he69
          replace h := ifF he69 h
          refine e_no' 9 rfl (by kernel_rfl) rfl rfl he69 hF rfl fun a hF => e_no' 10 rfl (by kernel_rfl) rfl rfl he69 hF rfl fun a hF => e_no' 11 rfl (by kernel_rfl) rfl rfl he69 hF rfl fun a hF => e_no' 12 rfl (by kernel_rfl) rfl rfl he69 hF rfl fun a hF => e_no' 13 rfl (by kernel_rfl) rfl rfl he69 hF rfl fun a hF => e_val' 14 rfl (by kernel_rfl) (fun W => (v_pick_f hF rfl he69 rfl)) hF rfl fun a hF => e_val' 15 rfl (by kernel_rfl) (fun W => (v_move hF rfl)) hF rfl fun a hF => e_no' 16 rfl (by kernel_rfl) rfl rfl rfl hF rfl fun a hF => e_no' 17 rfl (by kernel_rfl) rfl rfl rfl hF rfl fun a hF => e_no' 18 rfl (by kernel_rfl) rfl rfl rfl hF rfl fun a hF => e_val' 19 rfl (by kernel_rfl) (fun W => (v_pick_f hF rfl rfl rfl)) hF rfl fun a hF => e_val' 20 rfl (by kernel_rfl) (fun W => (v_assign hF rfl)) hF rfl fun a hF => e_done (by kernel_rfl) ?_ _
          obtain rfl := si h
          exact then_j ⟨false, rfl, (hF.keep ⟨rfl, trivial⟩), (hS.keep sn sn trivial)⟩
      ·
       have he61 : x58 = false := nB he61
       replace h := ifF he61 h
       refine e_no' 2 rfl (by kernel_rfl) rfl rfl he61 hF rfl fun a hF => e_no' 3 rfl (by kernel_rfl) rfl rfl he61 hF rfl fun a hF => e_no' 4 rfl (by kernel_rfl) rfl rfl he61 hF rfl fun a hF => e_no' 5 rfl (by kernel_rfl) rfl rfl he61 hF rfl fun a hF => e_no' 6 rfl (by kernel_rfl) rfl rfl he61 hF rfl fun a hF => e_val' 7 rfl (by kernel_rfl) (fun W => (v_pick_f hF rfl he61 rfl)) hF rfl fun a hF => e_val' 8 rfl (by kernel_rfl) (fun W => (v_move hF rfl)) hF rfl fun a hF => e_no' 9 rfl (by kernel_rfl) rfl rfl rfl hF rfl fun a hF => e_no' 10 rfl (by kernel_rfl) rfl rfl rfl hF rfl fun a hF => e_no' 11 rfl (by kernel_rfl) rfl rfl rfl hF rfl fun a hF => e_no' 12 rfl (by kernel_rfl) rfl rfl rfl hF rfl fun a hF => e_no' 13 rfl (by kernel_rfl) rfl rfl rfl hF rfl fun a hF => e_val' 14 rfl (by kernel_rfl) (fun W => (v_pick_f hF rfl rfl rfl)) hF rfl fun a hF => e_val' 15 rfl (by kernel_rfl) (fun W => (v_move hF rfl)) hF rfl fun a hF => e_no' 16 rfl (by kernel_rfl) rfl rfl rfl hF rfl fun a hF => e_no' 17 rfl (by kernel_rfl) rfl rfl rfl hF rfl fun a hF => e_no' 18 rfl (by kernel_rfl) rfl rfl rfl hF rfl fun a hF => e_val' 19 rfl (by kernel_rfl) (fun W => (v_pick_f hF rfl rfl rfl)) hF rfl fun a hF => e_val' 20 rfl (by kernel_rfl) (fun W => (v_assign hF rfl)) hF rfl fun a hF => e_done (by kernel_rfl) ?_ _
       obtain rfl := si h
       exact then_j ⟨false, rfl, (hF.keep ⟨rfl, trivial⟩), (hS.keep sn sn trivial)⟩
   ·
    have hS := hS.addFact (f := fSl k_TRule none 0 []) (SlR.nil _ _ _)
    have hS := hS.addFact (f := fSl k_TRule none 0 []) (SlR.nil _ _ _)
    have hS := hS.addFact (f := fSl k_TRule none 0 []) (SlR.nil _ _ _)
    refine wb <| wp_loop_fuel (I := fun m a W => ∃ (x28 : AL3_26) (x35 : Tshadow_Shadow) (x40 : Int) (A29 : Option Addr) (c30 : Nat) (A31 : Option Addr) (c32 : Nat) (A33 : Option Addr) (c34 : Nat) (A36 : Option Addr) (c37 : Nat) (A38 : Option Addr) (c39 : Nat), FH 81 [(0, .slice A0_0 ((u0).length) c0_0), (3, .pointer (some (⟨b7, 0, none⟩))), (4, .pointer (some (⟨b13, 0, none⟩))), (5, .int .i64 (x40))] a ∧ St M w0 [⟨b13, AL3_26.enc x28 A29 c30 A31 c32 A33 c34, 27⟩, ⟨b7, Tshadow_Shadow.enc x35 A36 c37 A38 c39, 134⟩] [⟨(kSl k_TRule), 26, A36, c37, x35.base⟩, ⟨k_Tshadow_open, 140, A38, c39, x35.open_⟩] [fSl k_TRule A29 c30 x28.e0, fSl k_TRule A31 c32 x28.e1, fSl k_TRule A33 c34 x28.e2, fSl (kSl k_TChange) A0_0 c0_0 u0] W ∧ (law22_ShadowSteps.l0 k u0 m x28 x35 x40) = some o53) ?_ (k := k) ⟨AL3_26.zero, x5, 0, none, 0, none, 0, none, 0, A8, c9, A10, c11, (hF.keep ⟨rfl, rfl, rfl, rfl, trivial⟩), (hS.keep sl sl ⟨⟨2, rfl⟩, ⟨1, rfl⟩, ⟨0, rfl⟩, ⟨3, rfl⟩, trivial⟩), h⟩
    rintro m85 a W ⟨x28, x35, x40, A29, c30, A31, c32, A33, c34, A36, c37, A38, c39, hF, hS, h⟩
    cases m85 with
    | zero => cases h
    | succ m85 =>
     rw [law22_ShadowSteps.l0] at h
     refine wq <| wq <| wg <| mv hF rfl rfl fun a hF => mv hF rfl rfl fun a hF => sv (v_len hF rfl pu22) hF rfl fun a hF => sv (v_lss hF rfl rfl) hF rfl fun a hF => nl <| tn <| wi hF rfl h (fun h => ?_) fun h => ?_
     ·
      refine sk <| tn <| wq ?_
      obtain ⟨o99, h, hk100⟩ := bindS h
      refine wp_join (fun a W => ∃ (x87 : Tshadow_Shadow) (x92 : AL3_26) (A88 : Option Addr) (c89 : Nat) (A90 : Option Addr) (c91 : Nat) (A93 : Option Addr) (c94 : Nat) (A95 : Option Addr) (c96 : Nat) (A97 : Option Addr) (c98 : Nat), Lo.brk (x87, x92) = o99 ∧ FH 81 [(0, .slice A0_0 ((u0).length) c0_0), (3, .pointer (some (⟨b7, 0, none⟩))), (4, .pointer (some (⟨b13, 0, none⟩))), (5, .int .i64 (x40))] a ∧ St M w0 [⟨b7, Tshadow_Shadow.enc x87 A88 c89 A90 c91, 134⟩, ⟨b13, AL3_26.enc x92 A93 c94 A95 c96 A97 c98, 27⟩] [⟨(kSl k_TRule), 26, A88, c89, x87.base⟩, ⟨k_Tshadow_open, 140, A90, c91, x87.open_⟩] [fSl k_TRule A93 c94 x92.e0, fSl k_TRule A95 c96 x92.e1, fSl k_TRule A97 c98 x92.e2, fSl (kSl k_TChange) A0_0 c0_0 u0] W) (fun a W hJ => ?_) ?_
      ·
       obtain ⟨x87, x92, A88, c89, A90, c91, A93, c94, A95, c96, A97, c98, rfl, hF, hS⟩ := hJ
       have h := hk100
       dsimp only at h
       refine tn <| wg <| mv hF rfl rfl fun a hF => sv (v_add hF rfl rfl) hF rfl fun a hF => av hF rfl rfl fun a hF => nl ?_
       have hS := hS.perm (.trans (.swap _ _ _) (List.Perm.refl _)) (List.Perm.refl _)
       exact then_j ⟨m85, Nat.lt_succ_self _, x92, x87, (IntKind.i64.wrap (x40 + 1)), A93, c94, A95, c96, A97, c98, A88, c89, A90, c91, (hF.keep ⟨rfl, rfl, rfl, rfl, trivial⟩), hS, h⟩
      ·
       refine wb <| wq <| wq <| wg <| mv hF rfl rfl fun a hF => mv hF rfl rfl fun a hF => ?_
       obtain ⟨x101, hx102, h⟩ := bindS h
       obtain ⟨p103, cs104, hA105, hat106⟩ := SlR.at (hS.fc (i := 3) rfl) hx102
       obtain ⟨A107, c108, rfl, hs109⟩ := hat106.2.2.2
       have hS := hS.addFact (f := fAt (kSl k_TChange) (p103.add (x40.toNat * 1)) ([.slice A107 ((x101).length) c108]) x101) hat106
       have hS := hS.addFact (f := fSl k_TChange A107 c108 x101) hs109
       refine sv (v_idx hF rfl hA105 rfl psl22 hx102) hF rfl fun a hF => sv (v_load1 hF rfl pa28 (hS.pc (i := 1) rfl)) hF rfl fun a hF => sv (v_len hF rfl pu28) hF rfl fun a hF => sv (v_gtr hF rfl rfl) hF rfl fun a hF => nl <| tn <| wi hF rfl h (fun h => ?_) fun h => ?_
       ·
        refine wq <| wg ?_
        obtain ⟨x111, hx112, h⟩ := bindS h
        refine cl hF pc11 rfl rfl (ok_law22_answers k (hS.enter trivial) hx112) hS fun W a hF hS => av hF rfl rfl fun a hF => nl <| tn <| rt <| tr <| br <| tr <| tr <| tr <| br <| tr <| tr ?_
        obtain rfl := si h
        have h := hk100
        dsimp only at h
        obtain rfl := si h
        have h := hk54
        dsimp only at h
        obtain rfl := si h
        exact ret1 hF rfl (rv_tmp hF rfl) ⟨_, rfl, rfl, (hS.keep sn sn trivial)⟩
       ·
        refine sk <| tn <| wq <| wq <| wg <| mv hF rfl rfl fun a hF => mv hF rfl rfl fun a hF => mv hF rfl rfl fun a hF => mv hF rfl rfl fun a hF => ?_
        obtain ⟨p114, cs115, hA116, hat117⟩ := SlR.at (hS.fc (i := 5) rfl) hx102
        obtain ⟨A118, c119, rfl, hs120⟩ := hat117.2.2.2
        have hS := hS.addFact (f := fAt (kSl k_TChange) (p114.add (x40.toNat * 1)) ([.slice A118 ((x101).length) c119]) x101) hat117
        have hS := hS.addFact (f := fSl k_TChange A118 c119 x101) hs120
        refine sv (v_idx hF rfl hA116 rfl psl22 hx102) hF rfl fun a hF => sv (v_load1 hF rfl pa28 (hS.pc (i := 1) rfl)) hF rfl fun a hF => ?_
        have hS := hS.perm (.trans (.swap _ _ _) (List.Perm.refl _)) (List.Perm.refl _)
        have hS := hS.addFact (f := fSl k_TChange A118 c119 x101) (hS.fc (i := 0) rfl)
        obtain ⟨x121, hx122, h⟩ := bindS h
        refine sq_call hF pc13 rfl (by decide) (ok_shadow_Shadow_Begin k hS hx122) (fun v W hR a hF => ?_)
        obtain ⟨A123, c124, A125, c126, rfl, hS⟩ := hR
        refine sv (v_neq hF rfl rfl) hF rfl fun a hF => nl <| tn <| wi hF rfl h (fun h => ?_) fun h => ?_
        ·
         refine wp_exit <| tx <| bh ?_
         obtain rfl := si h
         exact then_j ⟨x121.1, x28, A123, c124, A125, c126, A29, c30, A31, c32, A33, c34, rfl, (hF.keep ⟨rfl, rfl, rfl, rfl, trivial⟩), (hS.keep sl sl ⟨⟨4, rfl⟩, ⟨5, rfl⟩, ⟨6, rfl⟩, ⟨7, rfl⟩, trivial⟩)⟩
        ·
         refine sk <| tn <| wq <| wq <| wg <| av hF rfl rfl fun a hF => nl <| tn ?_
         obtain ⟨o152, h, hk153⟩ := bindS h
         refine wp_join (fun a W => ∃ (x145 : AL3_26) (A146 : Option Addr) (c147 : Nat) (A148 : Option Addr) (c149 : Nat) (A150 : Option Addr) (c151 : Nat), Lo.brk x145 = o152 ∧ FH 81 [(0, .slice A0_0 ((u0).length) c0_0), (3, .pointer (some (⟨b7, 0, none⟩))), (4, .pointer (some (⟨b13, 0, none⟩))), (5, .int .i64 (x40))] a ∧ St M w0 [⟨b7, Tshadow_Shadow.enc x121.1 A123 c124 A125 c126, 134⟩, ⟨b13, AL3_26.enc x145 A146 c147 A148 c149 A150 c151, 27⟩] [⟨(kSl k_TRule), 26, A123, c124, x121.1.base⟩, ⟨k_Tshadow_open, 140, A125, c126, x121.1.open_⟩] [fSl k_TRule A146 c147 x145.e0, fSl k_TRule A148 c149 x145.e1, fSl k_TRule A150 c151 x145.e2, fSl (kSl k_TChange) A0_0 c0_0 u0] W) (fun a W hJ => ?_) ?_
         ·
          obtain ⟨x145, A146, c147, A148, c149, A150, c151, rfl, hF, hS⟩ := hJ
          have h := hk153
          dsimp only at h
          refine tn <| wq <| wg <| mv hF rfl rfl fun a hF => mv hF rfl rfl fun a hF => ?_
          obtain ⟨x154, hx155, h⟩ := bindS h
          refine sq_call hF pc18 rfl (by decide) (ok_shadow_Shadow_Commit k hS hx155) (fun v W hR a hF => ?_)
          obtain ⟨A156, c157, A158, c159, rfl, hS⟩ := hR
          refine sv (v_neq hF rfl rfl) hF rfl fun a hF => nl <| tn <| wi hF rfl h (fun h => ?_) fun h => ?_
          ·
           refine wq <| wg <| av hF rfl rfl fun a hF => nl <| tn <| rt <| br <| tr <| tr <| tr <| br <| tr <| tr ?_
           obtain rfl := si h
           have h := hk100
           dsimp only at h
           obtain rfl := si h
           have h := hk54
           dsimp only at h
           obtain rfl := si h
           exact ret1 hF rfl (rv_tmp hF rfl) ⟨_, rfl, rfl, (hS.keep sn sn trivial)⟩
          ·
           refine sk <| bn ?_
           obtain rfl := si h
           exact then_j ⟨x154.1, x145, A156, c157, A158, c159, A146, c147, A148, c149, A150, c151, rfl, (hF.keep ⟨rfl, rfl, rfl, rfl, trivial⟩), hS⟩
         ·
          refine wb <| wp_loop_fuel (I := fun m a W => ∃ (x137 : AL3_26) (x144 : Int) (A138 : Option Addr) (c139 : Nat) (A140 : Option Addr) (c141 : Nat) (A142 : Option Addr) (c143 : Nat), FH 81 [(0, .slice A0_0 ((u0).length) c0_0), (3, .pointer (some (⟨b7, 0, none⟩))), (4, .pointer (some (⟨b13, 0, none⟩))), (5, .int .i64 (x40)), (6, .int .i64 (x144))] a ∧ St M w0 [⟨b7, Tshadow_Shadow.enc x121.1 A123 c124 A125 c126, 134⟩, ⟨b13, AL3_26.enc x137 A138 c139 A140 c141 A142 c143, 27⟩] [⟨(kSl k_TRule), 26, A123, c124, x121.1.base⟩, ⟨k_Tshadow_open, 140, A125, c126, x121.1.open_⟩] [fSl k_TRule A138 c139 x137.e0, fSl k_TRule A140 c141 x137.e1, fSl k_TRule A142 c143 x137.e2, fSl (kSl k_TChange) A0_0 c0_0 u0] W ∧ (law22_ShadowSteps.l1 k x101 x121 m x137 x144) = some o152) ?_ (k := k) ⟨x28, 0, A29, c30, A31, c32, A33, c34, (hF.keep ⟨rfl, rfl, rfl, rfl, rfl, trivial⟩), (hS.keep sl sl ⟨⟨4, rfl⟩, ⟨5, rfl⟩, ⟨6, rfl⟩, ⟨7, rfl⟩, trivial⟩), h⟩
          rintro m161 a W ⟨x137, x144, A138, c139, A140, c141, A142, c143, hF, hS, h⟩
          cases m161 with
          | zero => cases h
          | succ m161 =>
           rw [law22_ShadowSteps.l1] at h
           refine wq <| wq <| wg <| mv hF rfl rfl fun a hF => sv (v_lss hF rfl rfl) hF rfl fun a hF => nl <| tn <| wi hF rfl h (fun h => ?_) fun h => ?_
           ·
            refine sk <| tn <| wq <| wb <| wq <| wp_drawn (QC M w0 [⟨b7, Tshadow_Shadow.enc x121.1 A123 c124 A125 c126, 134⟩, ⟨b13, AL3_26.enc x137 A138 c139 A140 c141 A142 c143, 27⟩] [⟨(kSl k_TRule), 26, A123, c124, x121.1.base⟩, ⟨k_Tshadow_open, 140, A125, c126, x121.1.open_⟩] [fSl k_TRule A138 c139 x137.e0, fSl k_TRule A140 c141 x137.e1, fSl k_TRule A142 c143 x137.e2, fSl (kSl k_TChange) A0_0 c0_0 u0]) (fun q => Nat.beq q 12) rfl hS (fun W hB0 hR0 => ?_)
            have hS := hR0
            refine eqc ⟨Bl.refl _ _, hS⟩ fun hQC => e_val' 0 rfl (by kernel_rfl) (fun W => (v_move hF rfl)) hF rfl fun a hF => e_val' 1 rfl (by kernel_rfl) (fun W => (v_move hF rfl)) hF rfl fun a hF => ?_
            obtain ⟨hb163, h⟩ := ifS h
            refine e_val' 2 rfl (by kernel_rfl) (fun W => (v_indexAddr hF rfl rfl par27 hb163.1 hb163.2)) hF rfl fun a hF => e_valS' 3 rfl (by kernel_rfl) (fun W hC => (v_load1 hF rfl pa26 (cells_sub (vs := [.slice (ui x144 0 A138 (ui x144 1 A140 A142)) (((x137.at x144)).length) (ui x144 0 c139 (ui x144 1 c141 c143))]) (hC.2.bc (i := 1) rfl) rfl (AL3_26.get x137 A138 c139 A140 c141 A142 c143 x144 hb163.1 hb163.2)))) hQC (by kernel_rfl) hF rfl fun a hF => e_val' 4 rfl (by kernel_rfl) (fun W => (v_move hF rfl)) hF rfl fun a hF => e_val' 5 rfl (by kernel_rfl) (fun W => (v_move hF rfl)) hF rfl fun a hF => ?_
            obtain ⟨p164, cs165, hA166, hat167⟩ := SlR.at (hR0.fc (i := 3) rfl) hx102
            obtain ⟨A168, c169, rfl, hs170⟩ := hat167.2.2.2
            refine e_val' 6 rfl (by kernel_rfl) (fun W => (v_idx hF rfl hA166 rfl psl22 hx102)) hF rfl fun a hF => e_valS' 7 rfl (by kernel_rfl) (fun W hC => (v_load1 hF rfl pa28 (hat167.2.2.1.grow hC.1))) hQC (by kernel_rfl) hF rfl fun a hF => e_val' 8 rfl (by kernel_rfl) (fun W => (v_move hF rfl)) hF rfl fun a hF => e_one' 9 rfl (by kernel_rfl) ?_
            have hS := hS.addFact (f := fSl k_TRule (ui x144 0 A138 (ui x144 1 A140 A142)) (ui x144 0 c139 (ui x144 1 c141 c143)) (x137.at x144)) (AL3_26.sl (hR0.fc (i := 0) rfl) (hR0.fc (i := 1) rfl) (hR0.fc (i := 2) rfl))
            have hS := hS.addFact (f := fAt (kSl k_TChange) (p164.add (x40.toNat * 1)) ([.slice A168 ((x101).length) c169]) x101) hat167
            have hS := hS.addFact (f := fSl k_TChange A168 c169 x101) hs170
            obtain ⟨x171, hx172, h⟩ := bindS h
            refine sq_call hF pc15 rfl (by decide) (ok_ref19_For k (hS.enter ⟨⟨0, rfl⟩, trivial⟩) hx172) (fun v W hR a hF => ?_)
            obtain ⟨A173, c174, rfl, hT175⟩ := hR
            have hS := hS.join hT175
            refine sq_nil (then_j ⟨?_, ?_⟩)
            · exact fun hQ0 _ => hQ0.next hT175.below
            ·
             have hQC := hQC.next hT175.below
             refine e_one' 10 rfl (by kernel_rfl) ?_
             have hS := hS.freeze (i := 0) rfl (posB rfl)
             obtain ⟨x176, hx177, h⟩ := bindS h
             refine sq_call hF pc14 rfl (by decide) (ok_ref04_Laid k (hS.enter ⟨⟨3, rfl⟩, ⟨0, rfl⟩, trivial⟩) hx177) (fun v W hR a hF => ?_)
             obtain ⟨A178, c179, rfl, hT180⟩ := hR
             have hS := hS.join hT180
             refine sq_nil (then_j ⟨?_, ?_⟩)
             · exact fun hQ0 _ => hQ0.next hT180.below
             ·
              have hQC := hQC.next hT180.below
              refine e_val' 11 rfl (by kernel_rfl) (fun W => (v_indexAddr hF rfl rfl par27 hb163.1 hb163.2)) hF rfl fun a hF => e_one' 12 rfl (by kernel_rfl) ?_
              have hS := hS.addFact (f := fSl k_TRule (ui x144 0 A178 A138) (ui x144 0 c179 c139) ((x137.upd x144 x176).e0)) (ui_sl (hS.fc (i := 0) rfl) (hS.fc (i := 5) rfl))
              have hS := hS.addFact (f := fSl k_TRule (ui x144 1 A178 A140) (ui x144 1 c179 c141) ((x137.upd x144 x176).e1)) (ui_sl (hS.fc (i := 1) rfl) (hS.fc (i := 7) rfl))
              have hS := hS.addFact (f := fSl k_TRule (ui x144 2 A178 A142) (ui x144 2 c179 c143) ((x137.upd x144 x176).e2)) (ui_sl (hS.fc (i := 2) rfl) (hS.fc (i := 9) rfl))
              refine sq_store (o := x144.toNat * 1) (vs := [.slice A178 ((x176).length) c179]) (cs' := AL3_26.enc (x137.upd x144 x176) (ui x144 0 A178 A138) (ui x144 0 c179 c139) (ui x144 1 A178 A140) (ui x144 1 c179 c141) (ui x144 2 A178 A142) (ui x144 2 c179 c143)) hF hS rfl (by simp only [add_add, add_plain, Nat.zero_add]) (i := 1) rfl rfl rfl ps26 (one1 rfl) (by have h0 := hb163.1; have h1 := hb163.2; simp only [AL3_26.enc, List.length_cons, List.length_nil]; omega) (AL3_26.set x137 A138 c139 A140 c141 A142 c143 x144 x176 A178 c179 hb163.1 hb163.2) (fun W hS => ?_)
              refine sq_nil (then_j ⟨?_, ?_⟩)
              · exact fun _ hE => absurd hE (by decide)
              ·
               refine e_done (by kernel_rfl) ?_ _
               refine tn <| wq ?_
               have hS := hS.addFact (f := fSl k_TRule (ui x144 0 (ui x144 0 A178 A138) (ui x144 1 (ui x144 1 A178 A140) (ui x144 2 A178 A142))) (ui x144 0 (ui x144 0 c179 c139) (ui x144 1 (ui x144 1 c179 c141) (ui x144 2 c179 c143))) ((x137.upd x144 x176).at x144)) (AL3_26.sl (hS.fc (i := 2) rfl) (hS.fc (i := 1) rfl) (hS.fc (i := 0) rfl))
               refine wp_drawn (fun _ => St M w0 [⟨b7, Tshadow_Shadow.enc x121.1 A123 c124 A125 c126, 134⟩, ⟨b13, AL3_26.enc (x137.upd x144 x176) (ui x144 0 A178 A138) (ui x144 0 c179 c139) (ui x144 1 A178 A140) (ui x144 1 c179 c141) (ui x144 2 A178 A142) (ui x144 2 c179 c143), 27⟩] [] [fSl k_TRule (ui x144 0 (ui x144 0 A178 A138) (ui x144 1 (ui x144 1 A178 A140) (ui x144 2 A178 A142))) (ui x144 0 (ui x144 0 c179 c139) (ui x144 1 (ui x144 1 c179 c141) (ui x144 2 c179 c143))) ((x137.upd x144 x176).at x144), fSl k_TRule (ui x144 2 A178 A142) (ui x144 2 c179 c143) ((x137.upd x144 x176).e2), fSl k_TRule (ui x144 1 A178 A140) (ui x144 1 c179 c141) ((x137.upd x144 x176).e1), fSl k_TRule (ui x144 0 A178 A138) (ui x144 0 c179 c139) ((x137.upd x144 x176).e0), fSl k_TRule A178 c179 x176, fSl k_TMod A173 c174 x171, fSl k_TChange A168 c169 x101, fAt (kSl k_TChange) (p164.add (x40.toNat * 1)) ([.slice A168 ((x101).length) c169]) x101, fSl k_TRule (ui x144 0 A138 (ui x144 1 A140 A142)) (ui x144 0 c139 (ui x144 1 c141 c143)) (x137.at x144), fSl k_TRule A138 c139 x137.e0, fSl k_TRule A140 c141 x137.e1, fSl k_TRule A142 c143 x137.e2, fSl (kSl k_TChange) A0_0 c0_0 u0]) (fun _ => false) rfl hS (fun W hB0 hR0 => ?_)
               have hS := hR0
               refine eqc (hS.keep sl sn ⟨⟨0, rfl⟩, ⟨1, rfl⟩, ⟨2, rfl⟩, ⟨3, rfl⟩, ⟨4, rfl⟩, ⟨5, rfl⟩, ⟨6, rfl⟩, ⟨7, rfl⟩, ⟨8, rfl⟩, ⟨9, rfl⟩, ⟨10, rfl⟩, ⟨11, rfl⟩, ⟨12, rfl⟩, trivial⟩) fun hQC => e_val' 0 rfl (by kernel_rfl) (fun W => (v_move hF rfl)) hF rfl fun a hF => e_val' 1 rfl (by kernel_rfl) (fun W => (v_move hF rfl)) hF rfl fun a hF => e_val' 3 rfl (by kernel_rfl) (fun W => (v_move hF rfl)) hF rfl fun a hF => e_val' 4 rfl (by kernel_rfl) (fun W => (v_indexAddr hF rfl rfl par27 hb163.1 hb163.2)) hF rfl fun a hF => e_valS' 5 rfl (by kernel_rfl) (fun W hC => (v_load1 hF rfl pa26 (cells_sub (vs := [.slice (ui x144 0 (ui x144 0 A178 A138) (ui x144 1 (ui x144 1 A178 A140) (ui x144 2 A178 A142))) ((((x137.upd x144 x176).at x144)).length) (ui x144 0 (ui x144 0 c179 c139) (ui x144 1 (ui x144 1 c179 c141) (ui x144 2 c179 c143)))]) (hC.bc (i := 1) rfl) rfl (AL3_26.get (x137.upd x144 x176) (ui x144 0 A178 A138) (ui x144 0 c179 c139) (ui x144 1 A178 A140) (ui x144 1 c179 c141) (ui x144 2 A178 A142) (ui x144 2 c179 c143) x144 hb163.1 hb163.2)))) hQC (by kernel_rfl) hF rfl fun a hF => e_one' 2 rfl (by kernel_rfl) ?_
               obtain ⟨x181, hx182, h⟩ := bindS h
               refine sq_call hF pc17 rfl (by decide) (ok_shadow_Shadow_Table k hS hx182) (fun v W hR a hF => ?_)
               obtain ⟨A183, c184, rfl, hS⟩ := hR
               refine sq_nil (then_j ⟨?_, ?_⟩)
               · exact fun _ _ => (hS.keep sl sn ⟨⟨0, rfl⟩, ⟨1, rfl⟩, ⟨2, rfl⟩, ⟨3, rfl⟩, ⟨4, rfl⟩, ⟨5, rfl⟩, ⟨6, rfl⟩, ⟨7, rfl⟩, ⟨8, rfl⟩, ⟨9, rfl⟩, ⟨10, rfl⟩, ⟨11, rfl⟩, ⟨12, rfl⟩, trivial⟩)
               ·
                refine e_one' 6 rfl (by kernel_rfl) ?_
                obtain ⟨x185, hx186, h⟩ := bindS h
                refine cl hF pc16 rfl rfl (ok_ref04_Same k ((hS.freeze (i := 0) rfl (posB rfl)).enter ⟨⟨0, rfl⟩, ⟨1, rfl⟩, trivial⟩) hx186) hS fun W a hF hS => sq_nil (then_j ⟨?_, ?_⟩)
                · exact fun _ _ => (hS.keep sl sn ⟨⟨0, rfl⟩, ⟨1, rfl⟩, ⟨2, rfl⟩, ⟨3, rfl⟩, ⟨4, rfl⟩, ⟨5, rfl⟩, ⟨6, rfl⟩, ⟨7, rfl⟩, ⟨8, rfl⟩, ⟨9, rfl⟩, ⟨10, rfl⟩, ⟨11, rfl⟩, ⟨12, rfl⟩, trivial⟩)
                ·
                 refine e_val' 7 rfl (by kernel_rfl) (fun W => (v_not hF rfl)) hF rfl fun a hF => e_done (by kernel_rfl) ?_ _
                 refine tn <| wi hF rfl h (fun h => ?_) fun h => ?_
                 ·
                  refine wq <| wg <| av hF rfl rfl fun a hF => nl <| tn <| rt <| br <| tr <| tr <| br <| tr <| tr <| br <| tr <| tr <| tr <| br <| tr <| tr ?_
                  obtain rfl := si h
                  have h := hk153
                  dsimp only at h
                  obtain rfl := si h
                  have h := hk100
                  dsimp only at h
                  obtain rfl := si h
                  have h := hk54
                  dsimp only at h
                  obtain rfl := si h
                  exact ret1 hF rfl (rv_tmp hF rfl) ⟨_, rfl, rfl, (hS.keep sn sn trivial)⟩
                 ·
                  exact sk <| bn <| tn <| wg <| mv hF rfl rfl fun a hF => sv (v_add hF rfl rfl) hF rfl fun a hF => av hF rfl rfl fun a hF => nl <| then_j ⟨m161, Nat.lt_succ_self _, (x137.upd x144 x176), (IntKind.i64.wrap (x144 + 1)), (ui x144 0 A178 A138), (ui x144 0 c179 c139), (ui x144 1 A178 A140), (ui x144 1 c179 c141), (ui x144 2 A178 A142), (ui x144 2 c179 c143), (hF.keep ⟨rfl, rfl, rfl, rfl, rfl, trivial⟩), (hS.keep sl (.cons _ sl) ⟨⟨3, rfl⟩, ⟨2, rfl⟩, ⟨1, rfl⟩, ⟨12, rfl⟩, trivial⟩), h⟩
           ·
            refine wp_exit <| tx <| tx <| bh ?_
            obtain rfl := si h
            exact then_j ⟨x137, A138, c139, A140, c141, A142, c143, rfl, (hF.keep ⟨rfl, rfl, rfl, rfl, trivial⟩), hS⟩
     ·
      refine wp_exit <| tx <| tx <| bh ?_
      obtain rfl := si h
      exact then_j ⟨x28, x35, A29, c30, A31, c32, A33, c34, A36, c37, A38, c39, rfl, (hF.keep ⟨rfl, rfl, trivial⟩), (hS.keep sl sl ⟨⟨0, rfl⟩, ⟨1, rfl⟩, ⟨2, rfl⟩, trivial⟩)⟩

theorem ok_shadow_Shadow_Gone_1 {M : Nat → Prop} {w0 : World} {u0 : TRule} {A0_0 : Option Addr} {c0_0 : Nat} {y0 : TRule} {b0_ : Nat} {B0_0 : Option Addr} {d0_0 : Nat} {o : Bool} (hS : St M w0 [] [] [fSl k_TAct A0_0 c0_0 u0.Acts, fSl k_TAct B0_0 d0_0 y0.Acts, fBox b0_ (TRule.enc y0 B0_0 d0_0) 51] w0) (h : shadow_Shadow_Gone_1 u0 y0 = some o) :
    Calls Tryz.prog 60 #[.agg (TRule.enc u0 A0_0 c0_0).toArray, .pointer (some (⟨b0_, 0, none⟩))] w0 fun e W' => ∃ v, e = .returned v ∧ (v = .bool (o) ∧ St M w0 [] [] [] W') := by
  unfold shadow_Shadow_Gone_1 at h
  refine cst Tryz.func60 rfl rfl rfl fun a hF => wq <| wg <| bv hF hS rfl rfl rfl fun b1 a W hF hS => av hF rfl rfl fun a hF => nl <| tn <| wq <| wg <| sv (v_load (cs := TRule.enc u0 A0_0 c0_0) hF rfl pa51 ps51 (hS.bc (i := 0) rfl)) hF rfl fun a hF => sv (v_load (cs := TRule.enc y0 B0_0 d0_0) hF rfl pa51 ps51 (hS.fbc (i := 2) rfl)) hF rfl fun a hF => ?_
  obtain ⟨x2, hx3, h⟩ := bindS h
  refine cl hF pc61 rfl rfl (ok_rule_Key (hS.enter ⟨⟨0, rfl⟩, ⟨1, rfl⟩, trivial⟩) hx3) hS fun W a hF hS => av hF rfl rfl fun a hF => nl <| tn <| rt ?_
  obtain rfl := si h
  exact ret1 hF rfl (rv_tmp hF rfl) ⟨_, rfl, rfl, (hS.keep sn sl trivial)⟩

theorem ok_slices_Delete_Rule {M : Nat → Prop} {w0 : World} {bs : List Box} {rs : List Row} {fs : List Fact} {W0 : World} {u0 : List TRule} {A0_0 : Option Addr} {c0_0 : Nat} {u1 u2 : Int} {o : List TRule} (hS : St M w0 bs (⟨k_TRule, 51, A0_0, c0_0, u0⟩ :: rs) fs W0) (h : slices_Delete_Rule u0 u1 u2 = some o) :
    Calls Tryz.prog 62 #[.slice A0_0 (u0).length c0_0, .int .i64 u1, .int .i64 u2] W0 fun e W' => ∃ v, e = .returned v ∧ ∃ (A : Option Addr) (c : Nat), v = .slice A (o).length c ∧ St M w0 bs (⟨k_TRule, 51, A, c, o⟩ :: rs) fs W' := by
  obtain ⟨k, m, rfl, rfl, hkm, hm, rfl⟩ := delO_of h
  have hcap := (hS.rw_ (i := 0) rfl).cap
  dsimp only at hcap
  have hl : (u0.take k ++ u0.drop m).length = k + (u0.length - m) := by rw [List.length_append, List.length_take, List.length_drop]; omega
  refine calls_start (args := [.slice A0_0 (u0).length c0_0, .int .i64 (k : Int), .int .i64 (m : Int)]) Tryz.func62 rfl rfl (Nat.le_of_ble_eq_true rfl) (fun a hF => ?_)
  refine wp_seq ?_
  refine wp_reg ?_
  refine sq_val (v_assign hF rfl) hF (by decide) (fun a hF => ?_)
  refine sq_nil ?_
  refine then_n ?_
  refine wp_seq ?_
  refine wp_reg ?_
  refine sq_val (v_move hF rfl) hF (by decide) (fun a hF => ?_)
  refine sq_val (v_move hF rfl) hF (by decide) (fun a hF => ?_)
  refine sq_val (v_move hF rfl) hF (by decide) (fun a hF => ?_)
  refine sq_val (v_move hF rfl) hF (by decide) (fun a hF => ?_)
  refine sq_val (v_len hF rfl pu26) hF (by decide) (fun a hF => ?_)
  obtain ⟨v13, hv13⟩ := v_cut3 (P := Tryz.prog) (W := W0) (T := 26) (x := .tmp 8) (y := .tmp 9) (z := .tmp 10) (w := .tmp 12) (m := u0.length) hF rfl rfl rfl rfl psl26 (by omega) (by omega) (by omega) hcap
  refine sq_val hv13 hF (by decide) (fun a hF => ?_)
  refine sq_nil ?_
  refine then_n ?_
  refine wp_seq ?_
  refine wp_seq ?_
  refine wp_reg ?_
  refine sq_val (v_move hF rfl) hF (by decide) (fun a hF => ?_)
  refine sq_val (v_move hF rfl) hF (by decide) (fun a hF => ?_)
  refine sq_val (v_eql hF rfl rfl) hF (by decide) (fun a hF => ?_)
  refine sq_nil ?_
  refine then_n ?_
  refine wp_if hF rfl (fun he => ?_) (fun he => ?_)
  · refine wp_seq ?_
    refine wp_reg ?_
    refine sq_val (v_move hF rfl) hF (by decide) (fun a hF => ?_)
    refine sq_val (v_assign hF rfl) hF (by decide) (fun a hF => ?_)
    refine sq_nil ?_
    refine then_n ?_
    refine wp_ret ?_
    refine then_r ?_
    have e : k = m := by have := eq_of_beq he; omega
    subst e
    rw [List.take_append_drop]
    exact ret1 hF rfl (rv_tmp hF rfl) ⟨_, rfl, _, _, rfl, hS⟩
  refine wp_skip ?_
  refine then_n ?_
  refine wp_seq ?_
  refine wp_reg ?_
  refine sq_val (v_move hF rfl) hF (by decide) (fun a hF => ?_)
  refine sq_val (v_len hF rfl pu26) hF (by decide) (fun a hF => ?_)
  refine sq_val (v_assign hF rfl) hF (by decide) (fun a hF => ?_)
  refine sq_nil ?_
  refine then_n ?_
  refine wp_seq ?_
  refine wp_drawn (fun _ _ => True) (fun _ => false) rfl hS (fun W hB0 hS => ?_)
  refine e_val (listed' := #[true, false, false, false, false, false, false, false]) 0 rfl (by kernel_rfl) (by kernel_rfl) (fun _ _ _ h => h) (fun W => v_move hF rfl) hF (by decide) (fun a hF => ?_)
  refine e_val (listed' := #[true, true, false, false, false, false, false, false]) 1 rfl (by kernel_rfl) (by kernel_rfl) (fun _ _ _ h => h) (fun W => v_move hF rfl) hF (by decide) (fun a hF => ?_)
  refine e_val (listed' := #[true, true, true, false, false, false, false, false]) 2 rfl (by kernel_rfl) (by kernel_rfl) (fun _ _ _ h => h) (fun W => v_cut0 hF rfl rfl psl26 (Nat.le_trans hkm (Nat.le_trans hm hcap))) hF (by decide) (fun a hF => ?_)
  refine e_val (listed' := #[true, true, true, true, false, false, false, false]) 3 rfl (by kernel_rfl) (by kernel_rfl) (fun _ _ _ h => h) (fun W => v_move hF rfl) hF (by decide) (fun a hF => ?_)
  refine e_val (listed' := #[true, true, true, true, true, false, false, false]) 4 rfl (by kernel_rfl) (by kernel_rfl) (fun _ _ _ h => h) (fun W => v_move hF rfl) hF (by decide) (fun a hF => ?_)
  refine e_val (listed' := #[true, true, true, true, true, true, false, false]) 5 rfl (by kernel_rfl) (by kernel_rfl) (fun _ _ _ h => h) (fun W => v_view0 hF rfl rfl psl26 hm hcap) hF (by decide) (fun a hF => ?_)
  refine e_one (listed' := #[true, true, true, true, true, true, true, false]) 6 rfl (by kernel_rfl) (by kernel_rfl) ?_
  refine sq_delApp hF hS (i := 0) rfl rfl rfl psl26 hkm hm (by decide) (fun a W hF hS => ?_)
  refine sq_nil (then_j ⟨fun _ _ => trivial, ?_⟩)
  refine e_one (listed' := #[true, true, true, true, true, true, true, true]) 7 rfl (by kernel_rfl) (by kernel_rfl) ?_
  refine sq_val (v_assign hF rfl) hF (by decide) (fun a hF => ?_)
  refine sq_nil (then_j ⟨fun _ _ => trivial, ?_⟩)
  refine e_done (by kernel_rfl) ?_ _
  have hF : FH 33 [(0, .slice A0_0 (u0.take k ++ u0.drop m).length c0_0), (7, .int .i64 ((u0.length : Nat) : Int))] a := by
    rw [hl]; exact hF.keep ⟨rfl, rfl, trivial⟩
  have hle : (u0.take k ++ u0.drop m).length ≤ u0.length := by rw [hl]; omega
  refine then_n ?_
  refine wp_seq ?_
  refine wp_reg ?_
  refine sq_val (v_move hF rfl) hF (by decide) (fun a hF => ?_)
  refine sq_val (v_move hF rfl) hF (by decide) (fun a hF => ?_)
  refine sq_val (v_len hF rfl pu26) hF (by decide) (fun a hF => ?_)
  refine sq_val (v_move hF rfl) hF (by decide) (fun a hF => ?_)
  refine sq_val (v_cutM hF rfl rfl rfl psl26 hle hcap) hF (by decide) (fun a hF => ?_)
  refine sq_clearTail hF hS (i := 0) rfl rfl (by show _ + (u0.length - _) ≤ _; omega) psl26 pz51 rfl (TRule.enc_one _ _ _) (posB rfl) (fun W hS => ?_)
  refine sq_nil ?_
  refine then_n ?_
  refine wp_seq ?_
  refine wp_reg ?_
  refine sq_val (v_move hF rfl) hF (by decide) (fun a hF => ?_)
  refine sq_val (v_assign hF rfl) hF (by decide) (fun a hF => ?_)
  refine sq_nil ?_
  refine then_n ?_
  refine wp_ret ?_
  exact ret1 hF rfl (rv_tmp hF rfl) ⟨_, rfl, _, _, rfl, hS⟩


theorem ok_shadow_Shadow_Gone (k : Nat) {M : Nat → Prop} {w0 : World} {bs : List Box} {rs : List Row} {fs : List Fact} {W0 : World} {bo : Nat} {u0 : Tshadow_Shadow} {A0_0 : Option Addr} {c0_0 : Nat} {A0_1 : Option Addr} {c0_1 : Nat} {u1 : Int} {u2 : TRule} {A2_0 : Option Addr} {c2_0 : Nat} {o : Tshadow_Shadow × Bool} (hS : St M w0 (⟨bo, Tshadow_Shadow.enc u0 A0_0 c0_0 A0_1 c0_1, 134⟩ :: bs) (⟨(kSl k_TRule), 26, A0_0, c0_0, u0.base⟩ :: ⟨k_Tshadow_open, 140, A0_1, c0_1, u0.open_⟩ :: rs) ((fSl k_TAct A2_0 c2_0 u2.Acts) :: fs) W0) (h : shadow_Shadow_Gone k u0 u1 u2 = some o) :
    Calls Tryz.prog 23 #[.pointer (some (⟨bo, 0, none⟩)), .int .i64 (u1), .agg (TRule.enc u2 A2_0 c2_0).toArray] W0 fun e W' => ∃ v, e = .returned v ∧ (∃ (A54 : Option Addr) (c55 : Nat) (A56 : Option Addr) (c57 : Nat), v = .bool (o.2) ∧ St M w0 (⟨bo, Tshadow_Shadow.enc o.1 A54 c55 A56 c57, 134⟩ :: bs) (⟨(kSl k_TRule), 26, A54, c55, o.1.base⟩ :: ⟨k_Tshadow_open, 140, A56, c57, o.1.open_⟩ :: rs) (fs) W') := by
  unfold shadow_Shadow_Gone at h
  refine cst Tryz.func23 rfl rfl rfl fun a hF => wq <| wg <| bv hF hS rfl rfl rfl fun b1 a W hF hS => av hF rfl rfl fun a hF => nl <| tn <| wq <| wq <| wg <| mv hF rfl rfl fun a hF => sv (v_eqP hF rfl rfl pu24) hF rfl fun a hF => mv hF rfl rfl fun a hF => gor 2 2 10 ((decide (u1 < 0))) hF rfl rfl rfl rfl rfl (fun _ => ?_) (fun a hF => ?_)
  ·
   exact mv hF rfl rfl fun a hF => sv (v_lss hF rfl rfl) hF rfl fun a hF => gq 2 hF rfl rfl rfl
  ·
   refine mv hF rfl rfl fun a hF => gor 7 6 14 ((decide ((u0.base.length : Int) ≤ u1))) hF rfl rfl rfl rfl rfl (fun _ => ?_) (fun a hF => ?_)
   ·
    exact mv hF rfl rfl fun a hF => mv hF rfl rfl fun a hF => sv (v_nilCheck hF rfl) hF rfl fun a hF => fv hF rfl pf134_0 rfl fun a hF => lv hF rfl pa42 (hS.bc (i := 1) rfl) rfl rfl rfl fun a hF => sv (v_len hF rfl pu42) hF rfl fun a hF => sv (v_geq hF rfl rfl) hF rfl fun a hF => gq 7 hF rfl rfl rfl
   ·
    refine nl <| tn <| wi hF rfl h (fun h => ?_) fun h => ?_
    ·
     refine wq <| wg <| av hF rfl rfl fun a hF => nl <| tn <| rt <| tr ?_
     obtain rfl := si h
     exact ret1 hF rfl (rv_tmp hF rfl) ⟨_, rfl, A0_0, c0_0, A0_1, c0_1, rfl, (hS.keepT [] (tl := fs) (.cons _ sl) sl trivial (.cons _ sl))⟩
    ·
     refine sk <| tn <| wq <| wg <| mv hF rfl rfl fun a hF => sv (v_nilCheck hF rfl) hF rfl fun a hF => fv hF rfl pf134_0 rfl fun a hF => lv hF rfl pa42 (hS.bc (i := 1) rfl) rfl rfl rfl fun a hF => mv hF rfl rfl fun a hF => ?_
     obtain ⟨x5, hx6, h⟩ := bindS h
     obtain ⟨p7, cs8, hA9, hc11, hr12⟩ := Row.ok.at (hS.rw_ (i := 0) rfl) hx6
     obtain ⟨A13, c14, rfl, hs15⟩ := hr12
     have hS := hS.addFact (f := fSl k_TRule A13 c14 x5) hs15
     refine sv (v_idx hF rfl hA9 rfl psl42 hx6) hF rfl fun a hF => sv (v_load1 hF rfl pa26 hc11) hF rfl fun a hF => ?_
     have hS := hS.freezeBox (i := 0) rfl
     have hS := hS.addFact (f := fFn1 Tryz.prog 60 ([.pointer (some (⟨b1, 0, none⟩))]) k_TRule true (fun (a0 : TRule) => shadow_Shadow_Gone_1 a0 u2) (fun y => .bool y)) ⟨pc60, fun M' W' hs hv cs a0 y hR hp => by obtain ⟨P0_0, q0_0, rfl, z0_0⟩ := hR; exact fromSt (ok_shadow_Shadow_Gone_1 (St.ofAll hv ⟨z0_0, ((fSl k_TAct A2_0 c2_0 u2.Acts).st (hS.fc (i := 2) rfl) hs), ((fBox b1 (TRule.enc u2 A2_0 c2_0) 51).st (hS.fc (i := 0) rfl) hs), trivial⟩) hp)⟩
     refine sv (v_makeFunc (xs := [.tmp 5]) (vs := [.pointer (some (⟨b1, 0, none⟩))]) hF rfl) hF rfl fun a hF => ?_
     obtain ⟨x16, hx17, h⟩ := bindS h
     refine cl hF pc59 rfl rfl (ok_slices_IndexFunc_Rule k (hS.enter ⟨⟨2, rfl⟩, ⟨0, rfl⟩, trivial⟩) hx17) hS fun W a hF hS => av hF rfl rfl fun a hF => nl <| tn <| wq <| wq <| wg <| mv hF rfl rfl fun a hF => sv (v_geq hF rfl rfl) hF rfl fun a hF => nl <| tn ?_
     obtain ⟨o24, h, hk25⟩ := bindS h
     refine wp_join (fun a W => ∃ (x19 : Tshadow_Shadow) (A20 : Option Addr) (c21 : Nat) (A22 : Option Addr) (c23 : Nat), x19 = o24 ∧ FH 54 [(7, .int .i64 (x16))] a ∧ St M w0 (⟨bo, Tshadow_Shadow.enc x19 A20 c21 A22 c23, 134⟩ :: bs) (⟨(kSl k_TRule), 26, A20, c21, x19.base⟩ :: ⟨k_Tshadow_open, 140, A22, c23, x19.open_⟩ :: rs) (fs) W) (fun a W hJ => ?_) ?_
     ·
      obtain ⟨x19, A20, c21, A22, c23, rfl, hF, hS⟩ := hJ
      have h := hk25
      refine tn <| wq <| wg <| mv hF rfl rfl fun a hF => sv (v_geq hF rfl rfl) hF rfl fun a hF => av hF rfl rfl fun a hF => nl <| tn <| rt ?_
      obtain rfl := si h
      exact ret1 hF rfl (rv_tmp hF rfl) ⟨_, rfl, A20, c21, A22, c23, rfl, hS⟩
     ·
      refine wi hF rfl h (fun h => ?_) fun h => ?_
      ·
       refine wp_drawn (fun _ => St M w0 (⟨bo, Tshadow_Shadow.enc u0 A0_0 c0_0 A0_1 c0_1, 134⟩ :: bs) (rs) ((fFn1 Tryz.prog 60 ([.pointer (some (⟨b1, 0, none⟩))]) k_TRule true (fun (a0 : TRule) => shadow_Shadow_Gone_1 a0 u2) (fun y => .bool y)) :: (fBox b1 (TRule.enc u2 A2_0 c2_0) 51) :: (fSl k_TRule A13 c14 x5) :: (fSl k_TAct A2_0 c2_0 u2.Acts) :: fs)) (fun q => Nat.beq q 18) rfl hS (fun W hB0 hR0 => ?_)
       have hS := hR0
       refine eqc (hS.keepT [fFn1 Tryz.prog 60 ([.pointer (some (⟨b1, 0, none⟩))]) k_TRule true (fun (a0 : TRule) => shadow_Shadow_Gone_1 a0 u2) (fun y => .bool y), fBox b1 (TRule.enc u2 A2_0 c2_0) 51, fSl k_TRule A13 c14 x5, fSl k_TAct A2_0 c2_0 u2.Acts] (tl := fs) sl (.cons _ (.cons _ sl)) ⟨⟨0, rfl⟩, ⟨1, rfl⟩, ⟨2, rfl⟩, ⟨3, rfl⟩, trivial⟩ (.cons _ (.cons _ (.cons _ (.cons _ sl))))) fun hQC => e_val' 0 rfl (by kernel_rfl) (fun W => (v_move hF rfl)) hF rfl fun a hF => e_val' 1 rfl (by kernel_rfl) (fun W => (v_nilCheck hF rfl)) hF rfl fun a hF => e_val' 2 rfl (by kernel_rfl) (fun W => (v_fieldAddr hF rfl pf134_0)) hF rfl fun a hF => e_valS' 3 rfl (by kernel_rfl) (fun W hC => (v_load1 hF rfl pa42 (cells_sub (vs := [.slice A0_0 ((u0.base).length) c0_0]) (hC.bc (i := 0) rfl) rfl rfl))) hQC (by kernel_rfl) hF rfl fun a hF => e_val' 4 rfl (by kernel_rfl) (fun W => (v_move hF rfl)) hF rfl fun a hF => e_val' 5 rfl (by kernel_rfl) (fun W => (v_move hF rfl)) hF rfl fun a hF => e_val' 6 rfl (by kernel_rfl) (fun W => (v_nilCheck hF rfl)) hF rfl fun a hF => e_val' 7 rfl (by kernel_rfl) (fun W => (v_fieldAddr hF rfl pf134_0)) hF rfl fun a hF => e_valS' 8 rfl (by kernel_rfl) (fun W hC => (v_load1 hF rfl pa42 (cells_sub (vs := [.slice A0_0 ((u0.base).length) c0_0]) (hC.bc (i := 0) rfl) rfl rfl))) hQC (by kernel_rfl) hF rfl fun a hF => e_val' 9 rfl (by kernel_rfl) (fun W => (v_move hF rfl)) hF rfl fun a hF => ?_
       obtain ⟨p27, cs28, hA29, hc31, hr32⟩ := Row.ok.at (hR0.rw_ (i := 0) rfl) hx6
       obtain ⟨A33, c34, rfl, hs35⟩ := hr32
       refine e_val' 10 rfl (by kernel_rfl) (fun W => (v_idx hF rfl hA29 rfl psl42 hx6)) hF rfl fun a hF => e_val' 13 rfl (by kernel_rfl) (fun W => (v_move hF rfl)) hF rfl fun a hF => e_val' 14 rfl (by kernel_rfl) (fun W => (v_move hF rfl)) hF rfl fun a hF => e_val' 15 rfl (by kernel_rfl) (fun W => (v_add hF rfl rfl)) hF rfl fun a hF => e_one' 11 rfl (by kernel_rfl) ?_
       have hS := hS.addFact (f := fSl k_TRule A33 c34 x5) hs35
       refine sv (v_load1 hF rfl pa26 hc31) hF rfl fun a hF => sq_nil (then_j ⟨?_, ?_⟩)
       · exact fun hQ0 _ => hQ0
       ·
        refine e_one' 12 rfl (by kernel_rfl) ?_
        obtain ⟨x36, hx37, h⟩ := bindS h
        refine sq_call hF pc56 rfl (by decide) (ok_rule_Copy k (hS.enter ⟨⟨0, rfl⟩, trivial⟩) hx37) (fun v W hR a hF => ?_)
        obtain ⟨A38, c39, rfl, hT40⟩ := hR
        have hS := hS.join hT40
        refine sq_nil (then_j ⟨?_, ?_⟩)
        · exact fun _ _ => (hS.keepT [fFn1 Tryz.prog 60 ([.pointer (some (⟨b1, 0, none⟩))]) k_TRule true (fun (a0 : TRule) => shadow_Shadow_Gone_1 a0 u2) (fun y => .bool y), fBox b1 (TRule.enc u2 A2_0 c2_0) 51, fSl k_TRule A13 c14 x5, fSl k_TAct A2_0 c2_0 u2.Acts] (tl := fs) sl (.cons _ (.cons _ (.cons _ sl))) ⟨⟨1, rfl⟩, ⟨2, rfl⟩, ⟨3, rfl⟩, ⟨4, rfl⟩, trivial⟩ (.cons _ (.cons _ (.cons _ (.cons _ (.cons _ sl))))))
        ·
         refine e_one' 16 rfl (by kernel_rfl) ?_
         obtain ⟨x41, hx42, h⟩ := bindS h
         refine sq_call hF pc62 rfl (by decide) (ok_slices_Delete_Rule hS hx42) (fun v W hR a hF => ?_)
         obtain ⟨A43, c44, rfl, hS⟩ := hR
         refine sq_nil (then_j ⟨?_, ?_⟩)
         · exact fun _ _ => (hS.keepT [fFn1 Tryz.prog 60 ([.pointer (some (⟨b1, 0, none⟩))]) k_TRule true (fun (a0 : TRule) => shadow_Shadow_Gone_1 a0 u2) (fun y => .bool y), fBox b1 (TRule.enc u2 A2_0 c2_0) 51, fSl k_TRule A13 c14 x5, fSl k_TAct A2_0 c2_0 u2.Acts] (tl := fs) sl (.cons _ (.cons _ (.cons _ sl))) ⟨⟨1, rfl⟩, ⟨2, rfl⟩, ⟨3, rfl⟩, ⟨4, rfl⟩, trivial⟩ (.cons _ (.cons _ (.cons _ (.cons _ (.cons _ sl))))))
         ·
          obtain ⟨p45, cs46, hA47, hc49, hr50⟩ := Row.ok.at (hR0.rw_ (i := 0) rfl) hx6
          obtain ⟨A51, c52, rfl, hs53⟩ := hr50
          refine e_val' 17 rfl (by kernel_rfl) (fun W => (v_idx hF rfl hA47 rfl psl42 hx6)) hF rfl fun a hF => e_one' 18 rfl (by kernel_rfl) ?_
          have hS := hS.freeze (i := 0) rfl (posB rfl)
          refine sq_storeEl hF hS (i := 0) rfl hA47 rfl hx6 rfl rfl ps26 ⟨A43, c44, rfl, (hS.fc (i := 0) rfl)⟩ (fun W hS => ?_)
          have hS : St M w0 (⟨bo, Tshadow_Shadow.enc (Tshadow_Shadow.setbase u0 (u0.base.set u1.toNat x41)) A0_0 c0_0 A0_1 c0_1, 134⟩ :: bs) (⟨(kSl k_TRule), 26, A0_0, c0_0, (u0.base.set u1.toNat x41)⟩ :: ⟨k_Tshadow_open, 140, A0_1, c0_1, u0.open_⟩ :: rs) ((fSl k_TRule A43 c44 x41) :: (fSl k_TRule A33 c34 x5) :: (fFn1 Tryz.prog 60 ([.pointer (some (⟨b1, 0, none⟩))]) k_TRule true (fun (a0 : TRule) => shadow_Shadow_Gone_1 a0 u2) (fun y => .bool y)) :: (fBox b1 (TRule.enc u2 A2_0 c2_0) 51) :: (fSl k_TRule A13 c14 x5) :: (fSl k_TAct A2_0 c2_0 u2.Acts) :: fs) W := by simpa [List.length_set, Tshadow_Shadow.enc, Tshadow_Shadow.setbase, Tshadow_Shadow.setopen] using hS
          have hF : FH 54 [(0, .pointer (some (⟨bo, 0, none⟩))), (1, .int .i64 (u1)), (2, .agg (TRule.enc u2 A2_0 c2_0).toArray), (5, .pointer (some (⟨b1, 0, none⟩))), (6, .bool (false)), (7, .int .i64 (x16)), (8, .pointer (some (⟨bo, 0, none⟩))), (9, .bool (false)), (10, .bool (false)), (13, .bool ((false || (decide (u1 < 0))))), (14, .bool ((false || (decide (u1 < 0))))), (22, .bool (((false || (decide (u1 < 0))) || (decide ((u0.base.length : Int) ≤ u1))))), (23, .pointer (some (⟨bo, 0, none⟩))), (24, .pointer (some (⟨bo, 0, none⟩))), (25, .pointer (some ((⟨bo, 0, none⟩ : Addr).add (0)))), (26, .slice A0_0 (((u0.base.set u1.toNat x41)).length) c0_0), (27, .int .i64 (u1)), (29, .slice A13 ((x5).length) c14), (30, .func (.func 60) #[] #[.pointer (some (⟨b1, 0, none⟩))]), (31, .int .i64 (x16)), (32, .int .i64 (x16)), (33, .bool ((decide (0 ≤ x16)))), (34, .pointer (some (⟨bo, 0, none⟩))), (35, .pointer (some (⟨bo, 0, none⟩))), (36, .pointer (some ((⟨bo, 0, none⟩ : Addr).add (0)))), (37, .slice A0_0 (((u0.base.set u1.toNat x41)).length) c0_0), (38, .int .i64 (u1)), (39, .pointer (some (⟨bo, 0, none⟩))), (40, .pointer (some (⟨bo, 0, none⟩))), (41, .pointer (some ((⟨bo, 0, none⟩ : Addr).add (0)))), (42, .slice A0_0 (((u0.base.set u1.toNat x41)).length) c0_0), (43, .int .i64 (u1)), (45, .slice A33 ((x5).length) c34), (47, .int .i64 (x16)), (48, .int .i64 (x16)), (49, .int .i64 ((IntKind.i64.wrap (x16 + 1)))), (50, .slice A43 ((x41).length) c44)] a := (hF.keep ⟨rfl, rfl, rfl, rfl, rfl, rfl, rfl, rfl, rfl, rfl, rfl, rfl, rfl, rfl, rfl, (by simp only [List.length_set] <;> rfl), rfl, rfl, rfl, rfl, rfl, rfl, rfl, rfl, rfl, (by simp only [List.length_set] <;> rfl), rfl, rfl, rfl, rfl, (by simp only [List.length_set] <;> rfl), rfl, rfl, rfl, rfl, rfl, rfl, trivial⟩)
          refine sq_nil (then_j ⟨?_, ?_⟩)
          · exact fun _ hE => absurd hE (by decide)
          ·
           refine e_done (by kernel_rfl) ?_ _
           obtain rfl := si h
           exact then_j ⟨(Tshadow_Shadow.setbase u0 (u0.base.set u1.toNat x41)), A0_0, c0_0, A0_1, c0_1, rfl, (hF.keep ⟨rfl, trivial⟩), (hS.keepT [] (tl := fs) sl sl trivial (.cons _ (.cons _ (.cons _ (.cons _ (.cons _ (.cons _ sl)))))))⟩
      ·
       refine sk ?_
       obtain rfl := si h
       exact then_j ⟨u0, A0_0, c0_0, A0_1, c0_1, rfl, (hF.keep ⟨rfl, trivial⟩), (hS.keepT [] (tl := fs) sl sl trivial (.cons _ (.cons _ (.cons _ (.cons _ sl)))))⟩
end Go.Proofs.YtgfnkigoaajllaaGreat
