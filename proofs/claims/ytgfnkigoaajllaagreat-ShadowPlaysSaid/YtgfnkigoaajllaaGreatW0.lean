/- What calls of the Go functions come to. -/
import Derived.Test.YtgfnkigoaajllaaGreatT
import Derived.Test.YtgfnkigoaajllaaGreatF
import Derived.Test.YtgfnkigoaajllaaGreatL21
import Derived.Test.YtgfnkigoaajllaaGreatSO
import Derived.Test.YtgfnkigoaajllaaGreatL18
import Derived.Test.YtgfnkigoaajllaaGreatIN
import Derived.Test.YtgfnkigoaajllaaGreatL20
set_option linter.unusedVariables false
set_option linter.unusedSimpArgs false
set_option maxRecDepth 100000
set_option maxHeartbeats 4000000
namespace Go.Proofs.YtgfnkigoaajllaaGreat
open Go.RowKit Go.Pod
theorem ok_shadow_New {M : Nat → Prop} {w0 : World} {u0 : Int} {o : Tshadow_Shadow} (hS : St M w0 [] [] [] w0) (h : shadow_New u0 = some o) :
    Calls Tryz.prog 12 #[.int .i64 (u0)] w0 fun e W' => ∃ v, e = .returned v ∧ (∃ (b6 : Nat) (A7 : Option Addr) (c8 : Nat) (A9 : Option Addr) (c10 : Nat), v = .pointer (some (⟨b6, 0, none⟩)) ∧ St M w0 [⟨b6, Tshadow_Shadow.enc o A7 c8 A9 c10, 134⟩] [⟨(kSl k_TRule), 26, A7, c8, o.base⟩, ⟨k_Tshadow_open, 140, A9, c10, o.open_⟩] [] W') := by
  unfold shadow_New at h
  refine cst Tryz.func12 rfl rfl rfl fun a hF => wq <| wg <| av hF rfl rfl fun a hF => nl <| tn <| wq <| wg <| mv hF rfl rfl fun a hF => sv (v_max2 hF rfl rfl) hF rfl fun a hF => sv (v_min2 hF rfl rfl) hF rfl fun a hF => ?_
  obtain ⟨x3, hx4, h⟩ := bindS h
  refine sq_makeSlice (κ := (kSl k_TRule)) (zc := [.slice none 0 0]) hF hS rfl rfl psl42 pb26 pz26 rfl ⟨none, 0, rfl, SlR.nil _ _ _⟩ (by decide) hx4 (by decide) (fun A1 c2 a W hF hS => ?_)
  refine sv (v_build (parts := [(0, .tmp 6)]) (out := Tshadow_Shadow.enc ({ base := x3, open_ := [] } : Tshadow_Shadow) A1 c2 none 0) hF rfl rfl pz134 rfl pp134 rfl) hF rfl fun a hF => bv hF hS rfl rfl rfl fun b5 a W hF hS => ?_
  have hS := hS.addNil k_Tshadow_open 140
  refine av hF rfl rfl fun a hF => nl <| tn <| rt ?_
  obtain rfl := si h
  have hS := hS.perm (List.Perm.refl _) (.trans (.swap _ _ _) (List.Perm.refl _))
  exact ret1 hF rfl (rv_tmp hF rfl) ⟨_, rfl, b5, A1, c2, none, 0, rfl, hS⟩

theorem ok_shadow_Shadow_find_1 {M : Nat → Prop} {w0 : World} {u0 : Tshadow_open} {A0_0 : Option Addr} {c0_0 : Nat} {y0 : Int} {b0_ : Nat} {o : Bool} (hS : St M w0 [] [] [fSl k_TChange A0_0 c0_0 u0.list, fBox b0_ ([.int .i64 (y0)]) 3] w0) (h : shadow_Shadow_find_1 u0 y0 = some o) :
    Calls Tryz.prog 119 #[.agg (Tshadow_open.enc u0 A0_0 c0_0).toArray, .pointer (some (⟨b0_, 0, none⟩))] w0 fun e W' => ∃ v, e = .returned v ∧ (v = .bool (o) ∧ St M w0 [] [] [] W') := by
  unfold shadow_Shadow_find_1 at h
  refine cst Tryz.func119 rfl rfl rfl fun a hF => wq <| wg <| bv hF hS rfl rfl rfl fun b1 a W hF hS => av hF rfl rfl fun a hF => nl <| tn <| wq <| wg <| fv hF rfl pf140_0 rfl fun a hF => lv hF rfl pa3 (hS.bc (i := 0) rfl) rfl rfl rfl fun a hF => sv (v_load1 hF rfl pa3 (hS.fbc (i := 1) rfl)) hF rfl fun a hF => sv (v_eql hF rfl rfl) hF rfl fun a hF => av hF rfl rfl fun a hF => nl <| tn <| rt ?_
  obtain rfl := si h
  exact ret1 hF rfl (rv_tmp hF rfl) ⟨_, rfl, rfl, (hS.keep sn sl trivial)⟩

theorem ok_slices_IndexFunc_open (k : Nat) {M : Nat → Prop} {w0 : World} {u0 : List Tshadow_open} {A0_0 : Option Addr} {c0_0 : Nat} {F1 : FuncId} {caps1 : List Value} {u1 : Tshadow_open → Option Bool} {o : Int} (hS : St M w0 [] [] [fSl k_Tshadow_open A0_0 c0_0 u0, fFn1 Tryz.prog F1 caps1 k_Tshadow_open true u1 (fun y => .bool y)] w0) (h : slices_IndexFunc_open k u0 u1 = some o) :
    Calls Tryz.prog 118 #[.slice A0_0 ((u0).length) c0_0, .func (.func F1) #[] caps1.toArray] w0 fun e W' => ∃ v, e = .returned v ∧ (v = .int .i64 (o) ∧ St M w0 [] [] [] W') := by
  unfold slices_IndexFunc_open at h
  refine cst Tryz.func118 rfl rfl rfl fun a hF => wq <| wg <| av hF rfl rfl fun a hF => nl <| tn <| wq <| wq <| wg <| mv hF rfl rfl fun a hF => sv (v_len hF rfl pu132) hF rfl fun a hF => mv hF rfl rfl fun a hF => nl <| tn ?_
  obtain ⟨o3, h, hk4⟩ := bindS h
  refine wp_join (fun a W => Lo.brk () = o3 ∧ FH 19 [] a ∧ St M w0 [] [] [] W) (fun a W hJ => ?_) ?_
  ·
   obtain ⟨rfl, hF, hS⟩ := hJ
   have h := hk4
   dsimp only at h
   refine tn <| wq <| wg <| av hF rfl rfl fun a hF => nl <| tn <| rt ?_
   obtain rfl := si h
   exact ret1 hF rfl (rv_tmp hF rfl) ⟨_, rfl, rfl, hS⟩
  ·
   refine wb <| wp_loop_fuel (I := fun m a W => ∃ (x2 : Int), FH 19 [(0, .slice A0_0 ((u0).length) c0_0), (1, .func (.func F1) #[] caps1.toArray), (7, .int .i64 ((u0.length : Int))), (8, .int .i64 (x2))] a ∧ St M w0 [] [] [fSl k_Tshadow_open A0_0 c0_0 u0, fFn1 Tryz.prog F1 caps1 k_Tshadow_open true u1 (fun y => .bool y)] W ∧ (slices_IndexFunc_open.l0 k u0 u1 m x2) = some o3) ?_ (k := k) ⟨0, (hF.keep ⟨rfl, rfl, rfl, rfl, trivial⟩), hS, h⟩
   rintro m5 a W ⟨x2, hF, hS, h⟩
   cases m5 with
   | zero => cases h
   | succ m5 =>
    rw [slices_IndexFunc_open.l0] at h
    refine wq <| wg <| sv (v_lss hF rfl rfl) hF rfl fun a hF => nl <| tn <| wq <| wi hF rfl h (fun h => ?_) fun h => ?_
    ·
     refine sk <| tn <| wq <| wb <| wq <| wg <| mv hF rfl rfl fun a hF => av hF rfl rfl fun a hF => nl <| tn <| wq <| wg <| mv hF rfl rfl fun a hF => mv hF rfl rfl fun a hF => mv hF rfl rfl fun a hF => ?_
     obtain ⟨x7, hx8, h⟩ := bindS h
     obtain ⟨p9, cs10, hA11, hat12⟩ := SlR.at (hS.fc (i := 0) rfl) hx8
     obtain ⟨A13, c14, rfl, hs15⟩ := hat12.2.2.2
     have hS := hS.addFact (f := fAt k_Tshadow_open (p9.add (x2.toNat * 2)) (Tshadow_open.enc x7 A13 c14) x7) hat12
     have hS := hS.addFact (f := fSl k_TChange A13 c14 x7.list) hs15
     refine sv (v_idx hF rfl hA11 rfl psl132 hx8) hF rfl fun a hF => sv (v_load (cs := Tshadow_open.enc x7 A13 c14) hF rfl pa140 ps140 (hS.pc (i := 1) rfl)) hF rfl fun a hF => ?_
     obtain ⟨x16, hx17, h⟩ := bindS h
     refine sq_callv hF (hS.fc (i := 3) rfl).1 rfl rfl (by decide) (call1 (hS.fc (i := 3) rfl) hS ⟨A13, c14, rfl, (hS.fc (i := 0) rfl)⟩ hx17) (fun v W hR a hF => ?_)
     obtain ⟨rfl, hT18⟩ := hR
     have hS := hS.grow hT18
     refine nl <| tn <| wi hF rfl h (fun h => ?_) fun h => ?_
     ·
      refine wq <| wg <| mv hF rfl rfl fun a hF => av hF rfl rfl fun a hF => nl <| tn <| rt <| br <| tr <| tr <| br <| tr <| tr ?_
      obtain rfl := si h
      have h := hk4
      dsimp only at h
      obtain rfl := si h
      exact ret1 hF rfl (rv_tmp hF rfl) ⟨_, rfl, rfl, (hS.keep sl sl trivial)⟩
     ·
      exact sk <| bn <| tn <| wg <| sv (v_add hF rfl rfl) hF rfl fun a hF => mv hF rfl rfl fun a hF => nl <| then_j ⟨m5, Nat.lt_succ_self _, (IntKind.i64.wrap (x2 + 1)), (hF.keep ⟨rfl, rfl, rfl, rfl, trivial⟩), (hS.keep sl sl ⟨⟨2, rfl⟩, ⟨3, rfl⟩, trivial⟩), h⟩
    ·
     refine wp_exit <| tx <| tx <| bh ?_
     obtain rfl := si h
     exact then_j ⟨rfl, (hF.keep trivial), (hS.keep sl sl trivial)⟩

theorem ok_shadow_Shadow_find (k : Nat) {M : Nat → Prop} {w0 : World} {bs : List Box} {rs : List Row} {fs : List Fact} {W0 : World} {bo : Nat} {u0 : Tshadow_Shadow} {A0_0 : Option Addr} {c0_0 : Nat} {A0_1 : Option Addr} {c0_1 : Nat} {u1 : Int} {o : Int} (hS : St M w0 (⟨bo, Tshadow_Shadow.enc u0 A0_0 c0_0 A0_1 c0_1, 134⟩ :: bs) (⟨(kSl k_TRule), 26, A0_0, c0_0, u0.base⟩ :: ⟨k_Tshadow_open, 140, A0_1, c0_1, u0.open_⟩ :: rs) (fs) W0) (h : shadow_Shadow_find k u0 u1 = some o) :
    Calls Tryz.prog 49 #[.pointer (some (⟨bo, 0, none⟩)), .int .i64 (u1)] W0 fun e W' => ∃ v, e = .returned v ∧ (v = .int .i64 (o) ∧ St M w0 (⟨bo, Tshadow_Shadow.enc u0 A0_0 c0_0 A0_1 c0_1, 134⟩ :: bs) (⟨(kSl k_TRule), 26, A0_0, c0_0, u0.base⟩ :: ⟨k_Tshadow_open, 140, A0_1, c0_1, u0.open_⟩ :: rs) (fs) W') := by
  unfold shadow_Shadow_find at h
  refine cst Tryz.func49 rfl rfl rfl fun a hF => wq <| wg <| bv hF hS rfl rfl rfl fun b1 a W hF hS => av hF rfl rfl fun a hF => nl <| tn <| wq <| wg <| mv hF rfl rfl fun a hF => sv (v_nilCheck hF rfl) hF rfl fun a hF => fv hF rfl pf134_1 rfl fun a hF => lv hF rfl pa132 (hS.bc (i := 1) rfl) rfl rfl rfl fun a hF => ?_
  have hS := hS.freezeBox (i := 0) rfl
  have hS := hS.addFact (f := fFn1 Tryz.prog 119 ([.pointer (some (⟨b1, 0, none⟩))]) k_Tshadow_open true (fun (a0 : Tshadow_open) => shadow_Shadow_find_1 a0 u1) (fun y => .bool y)) ⟨pc119, fun M' W' hs hv cs a0 y hR hp => by obtain ⟨P0_0, q0_0, rfl, z0_0⟩ := hR; exact fromSt (ok_shadow_Shadow_find_1 (St.ofAll hv ⟨z0_0, ((fBox b1 ([.int .i64 (u1)]) 3).st (hS.fc (i := 0) rfl) hs), trivial⟩) hp)⟩
  refine sv (v_makeFunc (xs := [.tmp 3]) (vs := [.pointer (some (⟨b1, 0, none⟩))]) hF rfl) hF rfl fun a hF => ?_
  obtain ⟨x2, hx3, h⟩ := bindS h
  refine cl hF pc118 rfl rfl (ok_slices_IndexFunc_open k ((hS.freeze (i := 1) rfl (posB rfl)).enter ⟨⟨0, rfl⟩, ⟨1, rfl⟩, trivial⟩) hx3) hS fun W a hF hS => av hF rfl rfl fun a hF => nl <| tn <| rt ?_
  obtain rfl := si h
  exact ret1 hF rfl (rv_tmp hF rfl) ⟨_, rfl, rfl, (hS.keepT [] (tl := fs) sl sl trivial (.cons _ (.cons _ sl)))⟩

theorem ok_shadow_Shadow_Begin_1 {M : Nat → Prop} {w0 : World} {u0 : TChange} {A0_0 : Option Addr} {c0_0 : Nat} {y0 : Tshadow_Shadow} {b0_ b0o : Nat} {B0_0 : Option Addr} {d0_0 : Nat} {B0_1 : Option Addr} {d0_1 : Nat} {o : Bool} (hS : St M w0 [] [] [fSl k_TAct A0_0 c0_0 u0.Mod.Acts, fSl (kSl k_TRule) B0_0 d0_0 y0.base, fSl k_Tshadow_open B0_1 d0_1 y0.open_, fBox b0o (Tshadow_Shadow.enc y0 B0_0 d0_0 B0_1 d0_1) 134, fBox b0_ ([.pointer (some (⟨b0o, 0, none⟩))]) 24] w0) (h : shadow_Shadow_Begin_1 u0 y0 = some o) :
    Calls Tryz.prog 51 #[.agg (TChange.enc u0 A0_0 c0_0).toArray, .pointer (some (⟨b0_, 0, none⟩))] w0 fun e W' => ∃ v, e = .returned v ∧ (v = .bool (o) ∧ St M w0 [] [] [] W') := by
  unfold shadow_Shadow_Begin_1 at h
  refine cst Tryz.func51 rfl rfl rfl fun a hF => wq <| wg <| bv hF hS rfl rfl rfl fun b1 a W hF hS => av hF rfl rfl fun a hF => nl <| tn <| wq <| wp_quiet rfl (by kernel_rfl) hS <| qv (fun W hC => (v_fieldAddr hF rfl pf59_0)) hF rfl fun a hF => qv (fun W hC => (v_load1 hF rfl pa3 (cells_sub (vs := [.int .i64 (u0.Unit)]) (hC.2.bc (i := 0) rfl) rfl rfl))) hF rfl fun a hF => qv (fun W hC => (v_lss hF rfl rfl)) hF rfl fun a hF => qv (fun W hC => (v_move hF rfl)) hF rfl fun a hF => qt_cut 9 (fun a => FH 17 [(16, .bool ((decide (u0.Unit < 0)) || (decide ((y0.base.length : Int) ≤ u0.Unit))))] a) (fun a hF => ?_) ?_
  ·
   refine qv (fun W hC => (v_assign hF rfl)) hF rfl fun a hF => qn ?_
   intro W hC
   have hS := hC.2
   refine tn <| rt ?_
   obtain rfl := si h
   exact ret1 hF rfl (rv_tmp hF rfl) ⟨_, rfl, rfl, (hS.keep sn sl trivial)⟩
  ·
   by_cases he2 : (decide (u0.Unit < 0)) = true
   ·
    refine qt_no hF rfl rfl he2 (by decide) (fun a hF => ?_)
    refine qt_no hF rfl rfl he2 (by decide) (fun a hF => ?_)
    refine qt_no hF rfl rfl he2 (by decide) (fun a hF => ?_)
    refine qt_no hF rfl rfl he2 (by decide) (fun a hF => ?_)
    refine qt_no hF rfl rfl he2 (by decide) (fun a hF => ?_)
    refine qt_no hF rfl rfl he2 (by decide) (fun a hF => ?_)
    refine qt_no hF rfl rfl he2 (by decide) (fun a hF => ?_)
    refine qt_no hF rfl rfl he2 (by decide) (fun a hF => ?_)
    exact qv (fun W hC => (v_pick_t hF rfl he2 rfl)) hF rfl fun a hF => qt_nil (hF.keep ⟨(boolV (or_t he2)), trivial⟩)
   ·
    have he2 : (decide (u0.Unit < 0)) = false := nB he2
    exact qt_yes hF rfl rfl he2 <| qv (fun W hC => (v_fieldAddr hF rfl pf59_0)) hF rfl fun a hF => qt_yes hF rfl rfl he2 <| qv (fun W hC => (v_load1 hF rfl pa3 (cells_sub (vs := [.int .i64 (u0.Unit)]) (hC.2.bc (i := 0) rfl) rfl rfl))) hF rfl fun a hF => qt_yes hF rfl rfl he2 <| qv (fun W hC => (v_load1 hF rfl pa24 (hC.2.fbc (i := 4) rfl))) hF rfl fun a hF => qt_yes hF rfl rfl he2 <| qv (fun W hC => (v_nilCheck hF rfl)) hF rfl fun a hF => qt_yes hF rfl rfl he2 <| qv (fun W hC => (v_fieldAddr hF rfl pf134_0)) hF rfl fun a hF => qt_yes hF rfl rfl he2 <| qv (fun W hC => (v_load1 hF rfl pa42 (cells_sub (vs := [.slice B0_0 ((y0.base).length) d0_0]) (hC.2.fbc (i := 3) rfl) rfl rfl))) hF rfl fun a hF => qt_yes hF rfl rfl he2 <| qv (fun W hC => (v_len hF rfl pu42)) hF rfl fun a hF => qt_yes hF rfl rfl he2 <| qv (fun W hC => (v_geq hF rfl rfl)) hF rfl fun a hF => qv (fun W hC => (v_pick_f hF rfl he2 rfl)) hF rfl fun a hF => qt_nil (hF.keep ⟨(boolV (or_f he2)), trivial⟩)

theorem ok_slices_IndexFunc_Change (k : Nat) {M : Nat → Prop} {w0 : World} {u0 : List TChange} {A0_0 : Option Addr} {c0_0 : Nat} {F1 : FuncId} {caps1 : List Value} {u1 : TChange → Option Bool} {o : Int} (hS : St M w0 [] [] [fSl k_TChange A0_0 c0_0 u0, fFn1 Tryz.prog F1 caps1 k_TChange true u1 (fun y => .bool y)] w0) (h : slices_IndexFunc_Change k u0 u1 = some o) :
    Calls Tryz.prog 120 #[.slice A0_0 ((u0).length) c0_0, .func (.func F1) #[] caps1.toArray] w0 fun e W' => ∃ v, e = .returned v ∧ (v = .int .i64 (o) ∧ St M w0 [] [] [] W') := by
  unfold slices_IndexFunc_Change at h
  refine cst Tryz.func120 rfl rfl rfl fun a hF => wq <| wg <| av hF rfl rfl fun a hF => nl <| tn <| wq <| wq <| wg <| mv hF rfl rfl fun a hF => sv (v_len hF rfl pu28) hF rfl fun a hF => mv hF rfl rfl fun a hF => nl <| tn ?_
  obtain ⟨o3, h, hk4⟩ := bindS h
  refine wp_join (fun a W => Lo.brk () = o3 ∧ FH 19 [] a ∧ St M w0 [] [] [] W) (fun a W hJ => ?_) ?_
  ·
   obtain ⟨rfl, hF, hS⟩ := hJ
   have h := hk4
   dsimp only at h
   refine tn <| wq <| wg <| av hF rfl rfl fun a hF => nl <| tn <| rt ?_
   obtain rfl := si h
   exact ret1 hF rfl (rv_tmp hF rfl) ⟨_, rfl, rfl, hS⟩
  ·
   refine wb <| wp_loop_fuel (I := fun m a W => ∃ (x2 : Int), FH 19 [(0, .slice A0_0 ((u0).length) c0_0), (1, .func (.func F1) #[] caps1.toArray), (7, .int .i64 ((u0.length : Int))), (8, .int .i64 (x2))] a ∧ St M w0 [] [] [fSl k_TChange A0_0 c0_0 u0, fFn1 Tryz.prog F1 caps1 k_TChange true u1 (fun y => .bool y)] W ∧ (slices_IndexFunc_Change.l0 k u0 u1 m x2) = some o3) ?_ (k := k) ⟨0, (hF.keep ⟨rfl, rfl, rfl, rfl, trivial⟩), hS, h⟩
   rintro m5 a W ⟨x2, hF, hS, h⟩
   cases m5 with
   | zero => cases h
   | succ m5 =>
    rw [slices_IndexFunc_Change.l0] at h
    refine wq <| wg <| sv (v_lss hF rfl rfl) hF rfl fun a hF => nl <| tn <| wq <| wi hF rfl h (fun h => ?_) fun h => ?_
    ·
     refine sk <| tn <| wq <| wb <| wq <| wg <| mv hF rfl rfl fun a hF => av hF rfl rfl fun a hF => nl <| tn <| wq <| wg <| mv hF rfl rfl fun a hF => mv hF rfl rfl fun a hF => mv hF rfl rfl fun a hF => ?_
     obtain ⟨x7, hx8, h⟩ := bindS h
     obtain ⟨p9, cs10, hA11, hat12⟩ := SlR.at (hS.fc (i := 0) rfl) hx8
     obtain ⟨A13, c14, rfl, hs15⟩ := hat12.2.2.2
     have hS := hS.addFact (f := fAt k_TChange (p9.add (x2.toNat * 32)) (TChange.enc x7 A13 c14) x7) hat12
     have hS := hS.addFact (f := fSl k_TAct A13 c14 x7.Mod.Acts) hs15
     refine sv (v_idx hF rfl hA11 rfl psl28 hx8) hF rfl fun a hF => sv (v_load (cs := TChange.enc x7 A13 c14) hF rfl pa59 ps59 (hS.pc (i := 1) rfl)) hF rfl fun a hF => ?_
     obtain ⟨x16, hx17, h⟩ := bindS h
     refine sq_callv hF (hS.fc (i := 3) rfl).1 rfl rfl (by decide) (call1 (hS.fc (i := 3) rfl) hS ⟨A13, c14, rfl, (hS.fc (i := 0) rfl)⟩ hx17) (fun v W hR a hF => ?_)
     obtain ⟨rfl, hT18⟩ := hR
     have hS := hS.grow hT18
     refine nl <| tn <| wi hF rfl h (fun h => ?_) fun h => ?_
     ·
      refine wq <| wg <| mv hF rfl rfl fun a hF => av hF rfl rfl fun a hF => nl <| tn <| rt <| br <| tr <| tr <| br <| tr <| tr ?_
      obtain rfl := si h
      have h := hk4
      dsimp only at h
      obtain rfl := si h
      exact ret1 hF rfl (rv_tmp hF rfl) ⟨_, rfl, rfl, (hS.keep sl sl trivial)⟩
     ·
      exact sk <| bn <| tn <| wg <| sv (v_add hF rfl rfl) hF rfl fun a hF => mv hF rfl rfl fun a hF => nl <| then_j ⟨m5, Nat.lt_succ_self _, (IntKind.i64.wrap (x2 + 1)), (hF.keep ⟨rfl, rfl, rfl, rfl, trivial⟩), (hS.keep sl sl ⟨⟨2, rfl⟩, ⟨3, rfl⟩, trivial⟩), h⟩
    ·
     refine wp_exit <| tx <| tx <| bh ?_
     obtain rfl := si h
     exact then_j ⟨rfl, (hF.keep trivial), (hS.keep sl sl trivial)⟩

theorem ok_slices_ContainsFunc_Change (k : Nat) {M : Nat → Prop} {w0 : World} {u0 : List TChange} {A0_0 : Option Addr} {c0_0 : Nat} {F1 : FuncId} {caps1 : List Value} {u1 : TChange → Option Bool} {o : Bool} (hS : St M w0 [] [] [fSl k_TChange A0_0 c0_0 u0, fFn1 Tryz.prog F1 caps1 k_TChange true u1 (fun y => .bool y)] w0) (h : slices_ContainsFunc_Change k u0 u1 = some o) :
    Calls Tryz.prog 50 #[.slice A0_0 ((u0).length) c0_0, .func (.func F1) #[] caps1.toArray] w0 fun e W' => ∃ v, e = .returned v ∧ (v = .bool (o) ∧ St M w0 [] [] [] W') := by
  unfold slices_ContainsFunc_Change at h
  refine cst Tryz.func50 rfl rfl rfl fun a hF => wq <| wg <| av hF rfl rfl fun a hF => nl <| tn <| wq <| wg <| mv hF rfl rfl fun a hF => mv hF rfl rfl fun a hF => ?_
  obtain ⟨x1, hx2, h⟩ := bindS h
  refine cl hF pc120 rfl rfl (ok_slices_IndexFunc_Change k (hS.enter ⟨⟨0, rfl⟩, ⟨1, rfl⟩, trivial⟩) hx2) hS fun W a hF hS => sv (v_geq hF rfl rfl) hF rfl fun a hF => av hF rfl rfl fun a hF => nl <| tn <| rt ?_
  obtain rfl := si h
  exact ret1 hF rfl (rv_tmp hF rfl) ⟨_, rfl, rfl, (hS.keep sl sl trivial)⟩

theorem ok_slices_Clone_Change {M : Nat → Prop} {w0 : World} {u0 : List TChange} {A0_0 : Option Addr} {c0_0 : Nat} {o : (List TChange)} (hS : St M w0 [] [] [fSl k_TChange A0_0 c0_0 u0] w0) (h : slices_Clone_Change u0 = some o) :
    Calls Tryz.prog 52 #[.slice A0_0 ((u0).length) c0_0] w0 fun e W' => ∃ v, e = .returned v ∧ (∃ (A8 : Option Addr) (c9 : Nat), v = .slice A8 ((o).length) c9 ∧ St M w0 [] [⟨k_TChange, 59, A8, c9, o⟩] [] W') := by
  unfold slices_Clone_Change at h
  refine cst Tryz.func52 rfl rfl rfl fun a hF => wq <| wg <| av hF rfl rfl fun a hF => nl <| tn <| wq <| wq <| wg <| mv hF rfl rfl fun a hF => sv (v_eqNil hF rfl rfl pu28) hF rfl fun a hF => nl <| tn <| wp_if hF rfl (fun he1 => ?_) (fun he1 => ?_)
  ·
   have hz := nilEmpty (hS.fc (i := 0) rfl) he1
   replace h : some [] = some o := by
     rw [hz] at h
     simpa [app] using h
   refine wq <| wg <| av hF rfl rfl fun a hF => nl <| tn <| rt <| tr ?_
   have hS := hS.addNil k_TChange 59
   obtain rfl := si h
   exact ret1 hF rfl (rv_tmp hF rfl) ⟨_, rfl, none, 0, rfl, (hS.keep sl sl trivial)⟩
  ·
   refine sk <| tn <| wq <| wg <| sq_buildSlice (κ := k_TChange) (xs := []) (ys := ([] : List TChange)) hF hS rfl rfl rfl (Els.nil _ _ _) rfl psl28 pz59 rfl (by decide) (by decide) (by decide) (fun A2 c3 a W hF hS => ?_)
   refine mv hF rfl rfl fun a hF => ?_
   obtain ⟨x6, hx7, h⟩ := bindS h
   refine sq_append (ys := u0) hF hS (i := 0) rfl rfl rfl (SlR.src (hS.fc (i := 0) rfl)) psl28 pb59 pz59 rfl (by decide) (by decide) hx7 (by decide) (fun A4 c5 a W hF hS => ?_)
   refine av hF rfl rfl fun a hF => nl <| tn <| rt ?_
   obtain rfl := si h
   exact ret1 hF rfl (rv_tmp hF rfl) ⟨_, rfl, A4, c5, rfl, (hS.keep sl sl trivial)⟩

theorem ok_shadow_Shadow_Begin (k : Nat) {M : Nat → Prop} {w0 : World} {bs : List Box} {rs : List Row} {fs : List Fact} {W0 : World} {bo : Nat} {u0 : Tshadow_Shadow} {A0_0 : Option Addr} {c0_0 : Nat} {A0_1 : Option Addr} {c0_1 : Nat} {u1 : Int} {u2 : List TChange} {A2_0 : Option Addr} {c2_0 : Nat} {o : Tshadow_Shadow × Int} (hS : St M w0 (⟨bo, Tshadow_Shadow.enc u0 A0_0 c0_0 A0_1 c0_1, 134⟩ :: bs) (⟨(kSl k_TRule), 26, A0_0, c0_0, u0.base⟩ :: ⟨k_Tshadow_open, 140, A0_1, c0_1, u0.open_⟩ :: rs) ((fSl k_TChange A2_0 c2_0 u2) :: fs) W0) (h : shadow_Shadow_Begin k u0 u1 u2 = some o) :
    Calls Tryz.prog 13 #[.pointer (some (⟨bo, 0, none⟩)), .int .i64 (u1), .slice A2_0 ((u2).length) c2_0] W0 fun e W' => ∃ v, e = .returned v ∧ (∃ (A21 : Option Addr) (c22 : Nat) (A23 : Option Addr) (c24 : Nat), v = .int .i64 (o.2) ∧ St M w0 (⟨bo, Tshadow_Shadow.enc o.1 A21 c22 A23 c24, 134⟩ :: bs) (⟨(kSl k_TRule), 26, A21, c22, o.1.base⟩ :: ⟨k_Tshadow_open, 140, A23, c24, o.1.open_⟩ :: rs) (fs) W') := by
  unfold shadow_Shadow_Begin at h
  refine cst Tryz.func13 rfl rfl rfl fun a hF => wq <| wg <| bv hF hS rfl rfl rfl fun b1 a W hF hS => av hF rfl rfl fun a hF => nl <| tn <| wq <| wb <| wq <| wg <| sv (v_load1 hF rfl pa24 (hS.bc (i := 0) rfl)) hF rfl fun a hF => sv (v_eqP hF rfl rfl pu24) hF rfl fun a hF => av hF rfl rfl fun a hF => nl <| tn <| wi hF rfl h (fun h => ?_) fun h => ?_
  ·
   refine wq <| wg <| av hF rfl rfl fun a hF => nl <| tn <| rt <| br <| tr ?_
   obtain rfl := si h
   exact ret1 hF rfl (rv_tmp hF rfl) ⟨_, rfl, A0_0, c0_0, A0_1, c0_1, rfl, (hS.keepT [] (tl := fs) (.cons _ sl) sl trivial (.cons _ sl))⟩
  ·
   refine wq <| wg <| sv (v_load1 hF rfl pa24 (hS.bc (i := 0) rfl)) hF rfl fun a hF => mv hF rfl rfl fun a hF => ?_
   have hS := hS.perm (.trans (.swap _ _ _) (List.Perm.refl _)) (List.Perm.refl _)
   obtain ⟨x3, hx4, h⟩ := bindS h
   refine sq_call hF pc49 rfl (by decide) (ok_shadow_Shadow_find k hS hx4) (fun v W hR a hF => ?_)
   obtain ⟨rfl, hS⟩ := hR
   refine sv (v_geq hF rfl rfl) hF rfl fun a hF => av hF rfl rfl fun a hF => nl <| tn <| wi hF rfl h (fun h => ?_) fun h => ?_
   ·
    refine wq <| wg <| av hF rfl rfl fun a hF => nl <| tn <| rt <| br <| tr ?_
    obtain rfl := si h
    exact ret1 hF rfl (rv_tmp hF rfl) ⟨_, rfl, A0_0, c0_0, A0_1, c0_1, rfl, (hS.keepT [] (tl := fs) (.cons_cons _ (.cons _ sl)) sl trivial (.cons _ sl))⟩
   ·
    refine wq <| wg <| mv hF rfl rfl fun a hF => sv (v_makeFunc (xs := [.tmp 3]) (vs := [.pointer (some (⟨b1, 0, none⟩))]) hF rfl) hF rfl fun a hF => ?_
    have hL := hS
    have hL := hL.freeze (i := 0) rfl (posB rfl)
    have hL := hL.freeze (i := 0) rfl (posB rfl)
    have hL := hL.freezeBox (i := 0) rfl
    have hL := hL.freezeBox (i := 0) rfl
    have hL := hL.addFact (f := fFn1 Tryz.prog 51 ([.pointer (some (⟨b1, 0, none⟩))]) k_TChange true (fun (a0 : TChange) => shadow_Shadow_Begin_1 a0 u0) (fun y => .bool y)) ⟨pc51, fun M' W' hs hv cs a0 y hR hp => by obtain ⟨P0_0, q0_0, rfl, z0_0⟩ := hR; exact fromSt (ok_shadow_Shadow_Begin_1 (St.ofAll hv ⟨z0_0, ((fSl (kSl k_TRule) A0_0 c0_0 u0.base).st (hL.fc (i := 3) rfl) hs), ((fSl k_Tshadow_open A0_1 c0_1 u0.open_).st (hL.fc (i := 2) rfl) hs), ((fBox bo (Tshadow_Shadow.enc u0 A0_0 c0_0 A0_1 c0_1) 134).st (hL.fc (i := 1) rfl) hs), ((fBox b1 ([.pointer (some (⟨bo, 0, none⟩))]) 24).st (hL.fc (i := 0) rfl) hs), trivial⟩) hp)⟩
    obtain ⟨x6, hx7, h⟩ := bindS h
    refine cl hF pc50 rfl rfl (ok_slices_ContainsFunc_Change k (hL.enter ⟨⟨5, rfl⟩, ⟨0, rfl⟩, trivial⟩) hx7) hS fun W a hF hS => av hF rfl rfl fun a hF => nl <| tn <| wi hF rfl h (fun h => ?_) fun h => ?_
    ·
     refine wq <| wg <| av hF rfl rfl fun a hF => nl <| tn <| rt <| br <| tr ?_
     obtain rfl := si h
     exact ret1 hF rfl (rv_tmp hF rfl) ⟨_, rfl, A0_0, c0_0, A0_1, c0_1, rfl, (hS.keepT [] (tl := fs) (.cons_cons _ (.cons _ sl)) sl trivial (.cons _ sl))⟩
    ·
     refine sk <| bn <| tn <| wq <| wp_drawn (fun _ => St M w0 (⟨bo, Tshadow_Shadow.enc u0 A0_0 c0_0 A0_1 c0_1, 134⟩ :: ⟨b1, [.pointer (some (⟨bo, 0, none⟩))], 24⟩ :: bs) (rs) ((fSl k_TChange A2_0 c2_0 u2) :: fs)) (fun q => Nat.beq q 13) rfl hS (fun W hB0 hR0 => ?_)
     have hS := hR0
     refine eqc (hS.keepT [fSl k_TChange A2_0 c2_0 u2] (tl := fs) sl (.cons _ (.cons _ sl)) ⟨⟨0, rfl⟩, trivial⟩ (.cons _ sl)) fun hQC => e_valS' 0 rfl (by kernel_rfl) (fun W hC => (v_load1 hF rfl pa24 (hC.bc (i := 1) rfl))) hQC (by kernel_rfl) hF rfl fun a hF => e_valS' 1 rfl (by kernel_rfl) (fun W hC => (v_load1 hF rfl pa24 (hC.bc (i := 1) rfl))) hQC (by kernel_rfl) hF rfl fun a hF => e_val' 2 rfl (by kernel_rfl) (fun W => (v_nilCheck hF rfl)) hF rfl fun a hF => e_val' 3 rfl (by kernel_rfl) (fun W => (v_fieldAddr hF rfl pf134_1)) hF rfl fun a hF => e_valS' 4 rfl (by kernel_rfl) (fun W hC => (v_load1 hF rfl pa132 (cells_sub (vs := [.slice A0_1 ((u0.open_).length) c0_1]) (hC.bc (i := 0) rfl) rfl rfl))) hQC (by kernel_rfl) hF rfl fun a hF => e_val' 5 rfl (by kernel_rfl) (fun W => (v_move hF rfl)) hF rfl fun a hF => e_val' 6 rfl (by kernel_rfl) (fun W => (v_move hF rfl)) hF rfl fun a hF => e_one' 7 rfl (by kernel_rfl) ?_
     obtain ⟨x10, hx11, h⟩ := bindS h
     refine sq_call hF pc52 rfl (by decide) (ok_slices_Clone_Change (hS.enter ⟨⟨0, rfl⟩, trivial⟩) hx11) (fun v W hR a hF => ?_)
     obtain ⟨A12, c13, rfl, hT14⟩ := hR
     have hS := hS.join hT14
     refine sq_nil (then_j ⟨?_, ?_⟩)
     · exact fun _ _ => (hS.keepT [fSl k_TChange A2_0 c2_0 u2] (tl := fs) sl (.cons _ (.cons _ (.cons _ sl))) ⟨⟨0, rfl⟩, trivial⟩ (.cons _ sl))
     ·
      refine e_one' 8 rfl (by kernel_rfl) ?_
      have hS := hS.freeze (i := 0) rfl (posB rfl)
      refine sv (v_build (parts := [(0, .tmp 24), (1, .tmp 26)]) (out := Tshadow_open.enc ({ id := u1, list := x10 } : Tshadow_open) A12 c13) hF rfl rfl pz140 rfl pp140 rfl) hF rfl fun a hF => sq_nil (then_j ⟨?_, ?_⟩)
      · exact fun _ _ => (hS.keepT [fSl k_TChange A2_0 c2_0 u2] (tl := fs) sl (.cons _ (.cons _ sl)) ⟨⟨1, rfl⟩, trivial⟩ (.cons _ (.cons _ sl)))
      ·
       refine e_one' 9 rfl (by kernel_rfl) <| sq_buildSlice (κ := k_Tshadow_open) (xs := [.tmp 27]) (ys := [({ id := u1, list := x10 } : Tshadow_open)]) hF hS rfl rfl rfl (Els.cons ⟨A12, c13, rfl, (hS.fc (i := 0) rfl)⟩ (Els.nil _ _ _)) rfl psl132 pz140 rfl (by decide) (by decide) (by decide) (fun A15 c16 a W hF hS => ?_)
       refine sq_nil (then_j ⟨?_, ?_⟩)
       · exact fun _ _ => (hS.keepT [fSl k_TChange A2_0 c2_0 u2] (tl := fs) sl (.cons _ (.cons _ (.cons _ sl))) ⟨⟨1, rfl⟩, trivial⟩ (.cons _ (.cons _ sl)))
       ·
        refine e_one' 10 rfl (by kernel_rfl) ?_
        obtain ⟨x19, hx20, h⟩ := bindS h
        refine sq_append (ys := ([({ id := u1, list := x10 } : Tshadow_open)])) hF hS (i := 2) rfl rfl rfl (hS.rw_ (i := 0) rfl).src psl132 pb140 pz140 rfl (by decide) (by decide) hx20 (by decide) (fun A17 c18 a W hF hS => ?_)
        refine sq_nil (then_j ⟨?_, ?_⟩)
        · exact fun _ _ => (hS.keepT [fSl k_TChange A2_0 c2_0 u2] (tl := fs) sl (.cons _ (.cons _ (.cons _ sl))) ⟨⟨1, rfl⟩, trivial⟩ (.cons _ (.cons _ sl)))
        ·
         refine e_val' 11 rfl (by kernel_rfl) (fun W => (v_nilCheck hF rfl)) hF rfl fun a hF => e_val' 12 rfl (by kernel_rfl) (fun W => (v_fieldAddr hF rfl pf134_1)) hF rfl fun a hF => e_one' 13 rfl (by kernel_rfl) <| sq_store (o := 1) (vs := [.slice A17 ((x19).length) c18]) (cs' := Tshadow_Shadow.enc (Tshadow_Shadow.setopen u0 x19) A0_0 c0_0 A17 c18) hF hS rfl rfl (i := 0) rfl rfl rfl ps132 (one1 rfl) (bl rfl) rfl fun W hS => sq_nil (then_j ⟨?_, ?_⟩)
         · exact fun _ hE => absurd hE (by decide)
         ·
          refine e_done (by kernel_rfl) ?_ _
          refine tn <| wq <| wg <| av hF rfl rfl fun a hF => nl <| tn <| rt ?_
          obtain rfl := si h
          exact ret1 hF rfl (rv_tmp hF rfl) ⟨_, rfl, A0_0, c0_0, A17, c18, rfl, (hS.keepT [] (tl := fs) (.cons_cons _ (.cons _ sl)) (.cons _ sl) trivial (.cons _ (.cons _ sl)))⟩

theorem ok_slices_Clone_Act {M : Nat → Prop} {w0 : World} {u0 : List TAct} {A0_0 : Option Addr} {c0_0 : Nat} {o : (List TAct)} (hS : St M w0 [] [] [fSl k_TAct A0_0 c0_0 u0] w0) (h : slices_Clone_Act u0 = some o) :
    Calls Tryz.prog 124 #[.slice A0_0 ((u0).length) c0_0] w0 fun e W' => ∃ v, e = .returned v ∧ (∃ (A8 : Option Addr) (c9 : Nat), v = .slice A8 ((o).length) c9 ∧ St M w0 [] [⟨k_TAct, 152, A8, c9, o⟩] [] W') := by
  unfold slices_Clone_Act at h
  refine cst Tryz.func124 rfl rfl rfl fun a hF => wq <| wg <| av hF rfl rfl fun a hF => nl <| tn <| wq <| wq <| wg <| mv hF rfl rfl fun a hF => sv (v_eqNil hF rfl rfl pu49) hF rfl fun a hF => nl <| tn <| wp_if hF rfl (fun he1 => ?_) (fun he1 => ?_)
  ·
   have hz := nilEmpty (hS.fc (i := 0) rfl) he1
   replace h : some [] = some o := by
     rw [hz] at h
     simpa [app] using h
   refine wq <| wg <| av hF rfl rfl fun a hF => nl <| tn <| rt <| tr ?_
   have hS := hS.addNil k_TAct 152
   obtain rfl := si h
   exact ret1 hF rfl (rv_tmp hF rfl) ⟨_, rfl, none, 0, rfl, (hS.keep sl sl trivial)⟩
  ·
   refine sk <| tn <| wq <| wg <| sq_buildSlice (κ := k_TAct) (xs := []) (ys := ([] : List TAct)) hF hS rfl rfl rfl (Els.nil _ _ _) rfl psl49 pz152 rfl (by decide) (by decide) (by decide) (fun A2 c3 a W hF hS => ?_)
   refine mv hF rfl rfl fun a hF => ?_
   obtain ⟨x6, hx7, h⟩ := bindS h
   refine sq_append (ys := u0) hF hS (i := 0) rfl rfl rfl (SlR.src (hS.fc (i := 0) rfl)) psl49 pb152 pz152 rfl (by decide) (by decide) hx7 (by decide) (fun A4 c5 a W hF hS => ?_)
   refine av hF rfl rfl fun a hF => nl <| tn <| rt ?_
   obtain rfl := si h
   exact ret1 hF rfl (rv_tmp hF rfl) ⟨_, rfl, A4, c5, rfl, (hS.keep sl sl trivial)⟩

theorem ok_slices_Clip_Act {M : Nat → Prop} {w0 : World} {bs : List Box} {rs : List Row} {fs : List Fact} {W0 : World} {u0 : List TAct} {A0_0 : Option Addr} {c0_0 : Nat} {o : List TAct} (hS : St M w0 (bs) (⟨k_TAct, 152, A0_0, c0_0, u0⟩ :: rs) (fs) W0) (h : slices_Clip_Act u0 = some o) :
    Calls Tryz.prog 123 #[.slice A0_0 ((u0).length) c0_0] W0 fun e W' => ∃ v, e = .returned v ∧ (∃ (A1 : Option Addr) (c2 : Nat), v = .slice A1 ((o).length) c2 ∧ St M w0 (bs) (⟨k_TAct, 152, A1, c2, o⟩ :: rs) (fs) W') := by
  unfold slices_Clip_Act at h
  refine cst Tryz.func123 rfl rfl rfl fun a hF => wq <| wg <| av hF rfl rfl fun a hF => nl <| tn <| wq <| wg <| mv hF rfl rfl fun a hF => mv hF rfl rfl fun a hF => sv (v_len hF rfl pu49) hF rfl fun a hF => mv hF rfl rfl fun a hF => sv (v_len hF rfl pu49) hF rfl fun a hF => sv (v_clip hF rfl rfl rfl psl49 (hS.rw_ (i := 0) rfl).cap) hF rfl fun a hF => ?_
  have hS := hS.clipRow (i := 0) rfl
  refine av hF rfl rfl fun a hF => nl <| tn <| rt ?_
  obtain rfl := si h
  exact ret1 hF rfl (rv_tmp hF rfl) ⟨_, rfl, A0_0, ((u0).length), rfl, hS⟩

theorem ok_region_For (k : Nat) {M : Nat → Prop} {w0 : World} {u0 : List TChange} {A0_0 : Option Addr} {c0_0 : Nat} {u1 : Int} {o : (List TMod)} (hS : St M w0 [] [] [fSl k_TChange A0_0 c0_0 u0] w0) (h : region_For k u0 u1 = some o) :
    Calls Tryz.prog 55 #[.slice A0_0 ((u0).length) c0_0, .int .i64 (u1)] w0 fun e W' => ∃ v, e = .returned v ∧ (∃ (A53 : Option Addr) (c54 : Nat), v = .slice A53 ((o).length) c54 ∧ St M w0 [] [⟨k_TMod, 57, A53, c54, o⟩] [] W') := by
  unfold region_For at h
  refine cst Tryz.func55 rfl rfl rfl fun a hF => wq <| wg <| av hF rfl rfl fun a hF => nl <| tn <| wq <| wg <| av hF rfl rfl fun a hF => nl <| tn <| wq <| wq <| wg <| mv hF rfl rfl fun a hF => sv (v_len hF rfl pu28) hF rfl fun a hF => mv hF rfl rfl fun a hF => nl <| tn ?_
  obtain ⟨o12, h, hk13⟩ := bindS h
  refine wp_join (fun a W => ∃ (x9 : List TMod) (A10 : Option Addr) (c11 : Nat), x9 = o12 ∧ FH 32 [(5, .slice A10 ((x9).length) c11)] a ∧ St M w0 [] [⟨k_TMod, 57, A10, c11, x9⟩] [] W) (fun a W hJ => ?_) ?_
  ·
   obtain ⟨x9, A10, c11, rfl, hF, hS⟩ := hJ
   have h := hk13
   refine tn <| wq <| wg <| mv hF rfl rfl fun a hF => av hF rfl rfl fun a hF => nl <| tn <| rt ?_
   obtain rfl := si h
   exact ret1 hF rfl (rv_tmp hF rfl) ⟨_, rfl, A10, c11, rfl, hS⟩
  ·
   have hS := hS.addNil k_TMod 57
   refine wb <| wp_loop_fuel (I := fun m a W => ∃ (x5 : List TMod) (x8 : Int) (A6 : Option Addr) (c7 : Nat), FH 32 [(1, .int .i64 (u1)), (5, .slice A6 ((x5).length) c7), (9, .slice A0_0 ((u0).length) c0_0), (10, .int .i64 ((u0.length : Int))), (11, .int .i64 (x8))] a ∧ St M w0 [] [⟨k_TMod, 57, A6, c7, x5⟩] [fSl k_TChange A0_0 c0_0 u0] W ∧ (region_For.l0 k u0 u1 m x5 x8) = some o12) ?_ (k := k) ⟨([]), 0, none, 0, (hF.keep ⟨rfl, rfl, rfl, rfl, rfl, trivial⟩), hS, h⟩
   rintro m14 a W ⟨x5, x8, A6, c7, hF, hS, h⟩
   cases m14 with
   | zero => cases h
   | succ m14 =>
    rw [region_For.l0] at h
    refine wq <| wg <| sv (v_lss hF rfl rfl) hF rfl fun a hF => nl <| tn <| wq <| wi hF rfl h (fun h => ?_) fun h => ?_
    ·
     refine sk <| tn <| wq ?_
     obtain ⟨o19, h, hk20⟩ := bindS h
     refine wp_join (fun a W => ∃ (x16 : List TMod) (A17 : Option Addr) (c18 : Nat), x16 = o19 ∧ FH 32 [(1, .int .i64 (u1)), (5, .slice A17 ((x16).length) c18), (9, .slice A0_0 ((u0).length) c0_0), (10, .int .i64 ((u0.length : Int))), (11, .int .i64 (x8))] a ∧ St M w0 [] [⟨k_TMod, 57, A17, c18, x16⟩] [fSl k_TChange A0_0 c0_0 u0] W) (fun a W hJ => ?_) ?_
     ·
      obtain ⟨x16, A17, c18, rfl, hF, hS⟩ := hJ
      have h := hk20
      exact tn <| wg <| sv (v_add hF rfl rfl) hF rfl fun a hF => mv hF rfl rfl fun a hF => nl <| then_j ⟨m14, Nat.lt_succ_self _, x16, (IntKind.i64.wrap (x8 + 1)), A17, c18, (hF.keep ⟨rfl, rfl, rfl, rfl, rfl, trivial⟩), hS, h⟩
     ·
      refine wb <| wq <| wg ?_
      obtain ⟨x21, hx22, h⟩ := bindS h
      obtain ⟨p23, cs24, hA25, hat26⟩ := SlR.at (hS.fc (i := 0) rfl) hx22
      obtain ⟨A27, c28, rfl, hs29⟩ := hat26.2.2.2
      have hS := hS.addFact (f := fAt k_TChange (p23.add (x8.toNat * 32)) (TChange.enc x21 A27 c28) x21) hat26
      have hS := hS.addFact (f := fSl k_TAct A27 c28 x21.Mod.Acts) hs29
      refine sv (v_idx hF rfl hA25 rfl psl28 hx22) hF rfl fun a hF => sv (v_load (cs := TChange.enc x21 A27 c28) hF rfl pa59 ps59 (hS.pc (i := 1) rfl)) hF rfl fun a hF => al hF hS pz59 rfl rfl fun b30 a W hF hS => sq_store (o := 0) (vs := TChange.enc x21 A27 c28) (cs' := TChange.enc x21 A27 c28) hF hS rfl rfl (i := 0) rfl rfl rfl ps59 (TChange.enc_one _ _ _) (bl rfl) rfl fun W hS => nl <| tn <| wq <| wg <| fv hF rfl pf59_0 rfl fun a hF => lv hF rfl pa3 (hS.bc (i := 0) rfl) rfl rfl rfl fun a hF => mv hF rfl rfl fun a hF => sv (v_eql hF rfl rfl) hF rfl fun a hF => nl <| tn ?_
      obtain ⟨o34, h, hk35⟩ := bindS h
      refine wp_join (fun a W => ∃ (x31 : List TMod) (A32 : Option Addr) (c33 : Nat), x31 = o34 ∧ FH 32 [(1, .int .i64 (u1)), (5, .slice A32 ((x31).length) c33), (9, .slice A0_0 ((u0).length) c0_0), (10, .int .i64 ((u0.length : Int))), (11, .int .i64 (x8))] a ∧ St M w0 [] [⟨k_TMod, 57, A32, c33, x31⟩] [fSl k_TChange A0_0 c0_0 u0] W) (fun a W hJ => ?_) ?_
      ·
       obtain ⟨x31, A32, c33, rfl, hF, hS⟩ := hJ
       have h := hk35
       refine bn ?_
       obtain rfl := si h
       exact then_j ⟨x31, A32, c33, rfl, (hF.keep ⟨rfl, rfl, rfl, rfl, rfl, trivial⟩), hS⟩
      ·
       refine wi hF rfl h (fun h => ?_) fun h => ?_
       ·
        refine wq <| wg <| fv hF rfl pf59_1 rfl fun a hF => sv (v_load (cs := TMod.enc x21.Mod A27 c28) hF rfl pa57 ps57 (cells_sub (vs := TMod.enc x21.Mod A27 c28) (hS.bc (i := 0) rfl) rfl rfl)) hF rfl fun a hF => al hF hS pz57 rfl rfl fun b37 a W hF hS => sq_store (o := 0) (vs := TMod.enc x21.Mod A27 c28) (cs' := TMod.enc x21.Mod A27 c28) hF hS rfl rfl (i := 0) rfl rfl rfl ps57 (TMod.enc_one _ _ _) (bl rfl) rfl fun W hS => nl <| tn <| wq <| wg <| fv hF rfl pf57_3 rfl fun a hF => lv hF rfl pa49 (hS.bc (i := 0) rfl) rfl rfl rfl fun a hF => ?_
        obtain ⟨x38, hx39, h⟩ := bindS h
        refine sq_call hF pc124 rfl (by decide) (ok_slices_Clone_Act (hS.enter ⟨⟨0, rfl⟩, trivial⟩) hx39) (fun v W hR a hF => ?_)
        obtain ⟨A40, c41, rfl, hT42⟩ := hR
        have hS := hS.join hT42
        obtain ⟨x43, hx44, h⟩ := bindS h
        refine sq_call hF pc123 rfl (by decide) (ok_slices_Clip_Act hS hx44) (fun v W hR a hF => ?_)
        obtain ⟨A45, c46, rfl, hS⟩ := hR
        refine fv hF rfl pf57_3 rfl fun a hF => ?_
        have hS := hS.freeze (i := 0) rfl (posB rfl)
        refine sq_store (o := 26) (vs := [.slice A45 ((x43).length) c46]) (cs' := TMod.enc (TMod.setActs x21.Mod x43) A45 c46) hF hS rfl rfl (i := 0) rfl rfl rfl ps49 (one1 rfl) (bl rfl) rfl fun W hS => nl <| tn <| wg <| mv hF rfl rfl fun a hF => sv (v_load (cs := TMod.enc (TMod.setActs x21.Mod x43) A45 c46) hF rfl pa57 ps57 (hS.bc (i := 0) rfl)) hF rfl fun a hF => sq_buildSlice (κ := k_TMod) (xs := [.tmp 27]) (ys := [(TMod.setActs x21.Mod x43)]) hF hS rfl rfl rfl (Els.cons ⟨A45, c46, rfl, (hS.fc (i := 0) rfl)⟩ (Els.nil _ _ _)) rfl psl32 pz57 rfl (by decide) (by decide) (by decide) (fun A47 c48 a W hF hS => ?_)
        obtain ⟨x51, hx52, h⟩ := bindS h
        refine sq_append (ys := ([(TMod.setActs x21.Mod x43)])) hF hS (i := 1) rfl rfl rfl (hS.rw_ (i := 0) rfl).src psl32 pb57 pz57 rfl (by decide) (by decide) hx52 (by decide) (fun A49 c50 a W hF hS => ?_)
        refine av hF rfl rfl fun a hF => nl ?_
        obtain rfl := si h
        exact then_j ⟨x51, A49, c50, rfl, (hF.keep ⟨rfl, rfl, rfl, rfl, rfl, trivial⟩), (hS.keep sn (.cons _ sl) ⟨⟨3, rfl⟩, trivial⟩)⟩
       ·
        refine sk ?_
        obtain rfl := si h
        exact then_j ⟨x5, A6, c7, rfl, (hF.keep ⟨rfl, rfl, rfl, rfl, rfl, trivial⟩), (hS.keep sn sl ⟨⟨2, rfl⟩, trivial⟩)⟩
    ·
     refine wp_exit <| tx <| tx <| bh ?_
     obtain rfl := si h
     exact then_j ⟨x5, A6, c7, rfl, (hF.keep ⟨rfl, trivial⟩), (hS.keep sl sl trivial)⟩

theorem ok_head_there {M : Nat → Prop} {w0 : World} {u0 : Int} {o : Bool} (hS : St M w0 [] [] [] w0) (h : head_there u0 = some o) :
    Calls Tryz.prog 269 #[.int .i64 (u0)] w0 fun e W' => ∃ v, e = .returned v ∧ (v = .bool (o) ∧ St M w0 [] [] [] W') := by
  unfold head_there at h
  refine cst Tryz.func269 rfl rfl rfl fun a hF => wq <| wg <| av hF rfl rfl fun a hF => nl <| tn <| wq <| wg <| mv hF rfl rfl fun a hF => sv (v_geq hF rfl rfl) hF rfl fun a hF => mv hF rfl rfl fun a hF => gand 2 2 5 ((decide (u0 < 12))) hF rfl rfl rfl rfl rfl (fun _ => ?_) (fun a hF => ?_)
  ·
   exact mv hF rfl rfl fun a hF => sv (v_lss hF rfl rfl) hF rfl fun a hF => gq 2 hF rfl rfl rfl
  ·
   refine av hF rfl rfl fun a hF => nl <| tn <| rt ?_
   obtain rfl := si h
   exact ret1 hF rfl (rv_tmp hF rfl) ⟨_, rfl, rfl, hS⟩

theorem ok_head_fields {M : Nat → Prop} {w0 : World}  {o : (Fin 12 → Thead_field)} (hS : St M w0 [] [] [] w0) (h : head_fields = some o) :
    Calls Tryz.prog 270 #[] w0 fun e W' => ∃ v, e = .returned v ∧ (v = .agg (A12Thead_field.enc o).toArray ∧ St M w0 [] [] [] W') := by
  unfold head_fields at h
  refine cst Tryz.func270 rfl rfl rfl fun a hF => wq <| wg <| al hF hS pz349 rfl rfl fun b1 a W hF hS => nl <| tn <| wq <| wg <| sv (v_build (parts := [(0, .const (.string ((ByteArray.mk #[105, 110])))), (1, .const (.int .i64 16))]) (out := Thead_field.enc ({ name_ := (ByteArray.mk #[105, 110]), size_ := 16 } : Thead_field)) hF rfl rfl pz348 rfl pp348 rfl) hF rfl fun a hF => sv (v_build (parts := [(0, .const (.string ((ByteArray.mk #[101, 115, 114, 99])))), (1, .const (.int .i64 48))]) (out := Thead_field.enc ({ name_ := (ByteArray.mk #[101, 115, 114, 99]), size_ := 48 } : Thead_field)) hF rfl rfl pz348 rfl pp348 rfl) hF rfl fun a hF => sv (v_build (parts := [(0, .const (.string ((ByteArray.mk #[101, 100, 115, 116])))), (1, .const (.int .i64 48))]) (out := Thead_field.enc ({ name_ := (ByteArray.mk #[101, 100, 115, 116]), size_ := 48 } : Thead_field)) hF rfl rfl pz348 rfl pp348 rfl) hF rfl fun a hF => sv (v_build (parts := [(0, .const (.string ((ByteArray.mk #[101, 116, 121, 112, 101])))), (1, .const (.int .i64 16))]) (out := Thead_field.enc ({ name_ := (ByteArray.mk #[101, 116, 121, 112, 101]), size_ := 16 } : Thead_field)) hF rfl rfl pz348 rfl pp348 rfl) hF rfl fun a hF => sv (v_build (parts := [(0, .const (.string ((ByteArray.mk #[118, 108, 97, 110])))), (1, .const (.int .i64 12))]) (out := Thead_field.enc ({ name_ := (ByteArray.mk #[118, 108, 97, 110]), size_ := 12 } : Thead_field)) hF rfl rfl pz348 rfl pp348 rfl) hF rfl fun a hF => sv (v_build (parts := [(0, .const (.string ((ByteArray.mk #[112, 99, 112])))), (1, .const (.int .i64 4))]) (out := Thead_field.enc ({ name_ := (ByteArray.mk #[112, 99, 112]), size_ := 4 } : Thead_field)) hF rfl rfl pz348 rfl pp348 rfl) hF rfl fun a hF => ?_
  refine sv (v_build (parts := [(0, .const (.string ((ByteArray.mk #[115, 114, 99])))), (1, .const (.int .i64 32))]) (out := Thead_field.enc ({ name_ := (ByteArray.mk #[115, 114, 99]), size_ := 32 } : Thead_field)) hF rfl rfl pz348 rfl pp348 rfl) hF rfl fun a hF => sv (v_build (parts := [(0, .const (.string ((ByteArray.mk #[100, 115, 116])))), (1, .const (.int .i64 32))]) (out := Thead_field.enc ({ name_ := (ByteArray.mk #[100, 115, 116]), size_ := 32 } : Thead_field)) hF rfl rfl pz348 rfl pp348 rfl) hF rfl fun a hF => sv (v_build (parts := [(0, .const (.string ((ByteArray.mk #[112, 114, 111, 116, 111])))), (1, .const (.int .i64 8))]) (out := Thead_field.enc ({ name_ := (ByteArray.mk #[112, 114, 111, 116, 111]), size_ := 8 } : Thead_field)) hF rfl rfl pz348 rfl pp348 rfl) hF rfl fun a hF => sv (v_build (parts := [(0, .const (.string ((ByteArray.mk #[116, 111, 115])))), (1, .const (.int .i64 8))]) (out := Thead_field.enc ({ name_ := (ByteArray.mk #[116, 111, 115]), size_ := 8 } : Thead_field)) hF rfl rfl pz348 rfl pp348 rfl) hF rfl fun a hF => sv (v_build (parts := [(0, .const (.string ((ByteArray.mk #[115, 112, 111, 114, 116])))), (1, .const (.int .i64 12))]) (out := Thead_field.enc ({ name_ := (ByteArray.mk #[115, 112, 111, 114, 116]), size_ := 12 } : Thead_field)) hF rfl rfl pz348 rfl pp348 rfl) hF rfl fun a hF => sv (v_build (parts := [(0, .const (.string ((ByteArray.mk #[100, 112, 111, 114, 116])))), (1, .const (.int .i64 12))]) (out := Thead_field.enc ({ name_ := (ByteArray.mk #[100, 112, 111, 114, 116]), size_ := 12 } : Thead_field)) hF rfl rfl pz348 rfl pp348 rfl) hF rfl fun a hF => ?_
  refine sv (v_buildA (parts := [(0, .tmp 1), (1, .tmp 2), (2, .tmp 3), (3, .tmp 4), (4, .tmp 5), (5, .tmp 6), (6, .tmp 7), (7, .tmp 8), (8, .tmp 9), (9, .tmp 10), (10, .tmp 11), (11, .tmp 12)]) (out := A12Thead_field.enc ((fun q => bif Nat.beq q.val 0 then ({ name_ := (ByteArray.mk #[105, 110]), size_ := 16 } : Thead_field) else bif Nat.beq q.val 1 then ({ name_ := (ByteArray.mk #[101, 115, 114, 99]), size_ := 48 } : Thead_field) else bif Nat.beq q.val 2 then ({ name_ := (ByteArray.mk #[101, 100, 115, 116]), size_ := 48 } : Thead_field) else bif Nat.beq q.val 3 then ({ name_ := (ByteArray.mk #[101, 116, 121, 112, 101]), size_ := 16 } : Thead_field) else bif Nat.beq q.val 4 then ({ name_ := (ByteArray.mk #[118, 108, 97, 110]), size_ := 12 } : Thead_field) else bif Nat.beq q.val 5 then ({ name_ := (ByteArray.mk #[112, 99, 112]), size_ := 4 } : Thead_field) else bif Nat.beq q.val 6 then ({ name_ := (ByteArray.mk #[115, 114, 99]), size_ := 32 } : Thead_field) else bif Nat.beq q.val 7 then ({ name_ := (ByteArray.mk #[100, 115, 116]), size_ := 32 } : Thead_field) else bif Nat.beq q.val 8 then ({ name_ := (ByteArray.mk #[112, 114, 111, 116, 111]), size_ := 8 } : Thead_field) else bif Nat.beq q.val 9 then ({ name_ := (ByteArray.mk #[116, 111, 115]), size_ := 8 } : Thead_field) else bif Nat.beq q.val 10 then ({ name_ := (ByteArray.mk #[115, 112, 111, 114, 116]), size_ := 12 } : Thead_field) else bif Nat.beq q.val 11 then ({ name_ := (ByteArray.mk #[100, 112, 111, 114, 116]), size_ := 12 } : Thead_field) else Thead_field.zero) : Fin 12 → Thead_field)) hF rfl rfl pz349 rfl par349 rfl) hF rfl fun a hF => ?_
  refine sq_store (o := 0) (vs := A12Thead_field.enc ((fun q => bif Nat.beq q.val 0 then ({ name_ := (ByteArray.mk #[105, 110]), size_ := 16 } : Thead_field) else bif Nat.beq q.val 1 then ({ name_ := (ByteArray.mk #[101, 115, 114, 99]), size_ := 48 } : Thead_field) else bif Nat.beq q.val 2 then ({ name_ := (ByteArray.mk #[101, 100, 115, 116]), size_ := 48 } : Thead_field) else bif Nat.beq q.val 3 then ({ name_ := (ByteArray.mk #[101, 116, 121, 112, 101]), size_ := 16 } : Thead_field) else bif Nat.beq q.val 4 then ({ name_ := (ByteArray.mk #[118, 108, 97, 110]), size_ := 12 } : Thead_field) else bif Nat.beq q.val 5 then ({ name_ := (ByteArray.mk #[112, 99, 112]), size_ := 4 } : Thead_field) else bif Nat.beq q.val 6 then ({ name_ := (ByteArray.mk #[115, 114, 99]), size_ := 32 } : Thead_field) else bif Nat.beq q.val 7 then ({ name_ := (ByteArray.mk #[100, 115, 116]), size_ := 32 } : Thead_field) else bif Nat.beq q.val 8 then ({ name_ := (ByteArray.mk #[112, 114, 111, 116, 111]), size_ := 8 } : Thead_field) else bif Nat.beq q.val 9 then ({ name_ := (ByteArray.mk #[116, 111, 115]), size_ := 8 } : Thead_field) else bif Nat.beq q.val 10 then ({ name_ := (ByteArray.mk #[115, 112, 111, 114, 116]), size_ := 12 } : Thead_field) else bif Nat.beq q.val 11 then ({ name_ := (ByteArray.mk #[100, 112, 111, 114, 116]), size_ := 12 } : Thead_field) else Thead_field.zero) : Fin 12 → Thead_field)) (cs' := A12Thead_field.enc ((fun q => bif Nat.beq q.val 0 then ({ name_ := (ByteArray.mk #[105, 110]), size_ := 16 } : Thead_field) else bif Nat.beq q.val 1 then ({ name_ := (ByteArray.mk #[101, 115, 114, 99]), size_ := 48 } : Thead_field) else bif Nat.beq q.val 2 then ({ name_ := (ByteArray.mk #[101, 100, 115, 116]), size_ := 48 } : Thead_field) else bif Nat.beq q.val 3 then ({ name_ := (ByteArray.mk #[101, 116, 121, 112, 101]), size_ := 16 } : Thead_field) else bif Nat.beq q.val 4 then ({ name_ := (ByteArray.mk #[118, 108, 97, 110]), size_ := 12 } : Thead_field) else bif Nat.beq q.val 5 then ({ name_ := (ByteArray.mk #[112, 99, 112]), size_ := 4 } : Thead_field) else bif Nat.beq q.val 6 then ({ name_ := (ByteArray.mk #[115, 114, 99]), size_ := 32 } : Thead_field) else bif Nat.beq q.val 7 then ({ name_ := (ByteArray.mk #[100, 115, 116]), size_ := 32 } : Thead_field) else bif Nat.beq q.val 8 then ({ name_ := (ByteArray.mk #[112, 114, 111, 116, 111]), size_ := 8 } : Thead_field) else bif Nat.beq q.val 9 then ({ name_ := (ByteArray.mk #[116, 111, 115]), size_ := 8 } : Thead_field) else bif Nat.beq q.val 10 then ({ name_ := (ByteArray.mk #[115, 112, 111, 114, 116]), size_ := 12 } : Thead_field) else bif Nat.beq q.val 11 then ({ name_ := (ByteArray.mk #[100, 112, 111, 114, 116]), size_ := 12 } : Thead_field) else Thead_field.zero) : Fin 12 → Thead_field)) hF hS rfl rfl (i := 0) rfl rfl rfl ps349 (A12Thead_field.enc_one _) (bl rfl) rfl fun W hS => ?_
  refine nl <| tn <| rt ?_
  obtain rfl := si h
  exact ret1 hF rfl (rv_cell (cs := A12Thead_field.enc ((fun q => bif Nat.beq q.val 0 then ({ name_ := (ByteArray.mk #[105, 110]), size_ := 16 } : Thead_field) else bif Nat.beq q.val 1 then ({ name_ := (ByteArray.mk #[101, 115, 114, 99]), size_ := 48 } : Thead_field) else bif Nat.beq q.val 2 then ({ name_ := (ByteArray.mk #[101, 100, 115, 116]), size_ := 48 } : Thead_field) else bif Nat.beq q.val 3 then ({ name_ := (ByteArray.mk #[101, 116, 121, 112, 101]), size_ := 16 } : Thead_field) else bif Nat.beq q.val 4 then ({ name_ := (ByteArray.mk #[118, 108, 97, 110]), size_ := 12 } : Thead_field) else bif Nat.beq q.val 5 then ({ name_ := (ByteArray.mk #[112, 99, 112]), size_ := 4 } : Thead_field) else bif Nat.beq q.val 6 then ({ name_ := (ByteArray.mk #[115, 114, 99]), size_ := 32 } : Thead_field) else bif Nat.beq q.val 7 then ({ name_ := (ByteArray.mk #[100, 115, 116]), size_ := 32 } : Thead_field) else bif Nat.beq q.val 8 then ({ name_ := (ByteArray.mk #[112, 114, 111, 116, 111]), size_ := 8 } : Thead_field) else bif Nat.beq q.val 9 then ({ name_ := (ByteArray.mk #[116, 111, 115]), size_ := 8 } : Thead_field) else bif Nat.beq q.val 10 then ({ name_ := (ByteArray.mk #[115, 112, 111, 114, 116]), size_ := 12 } : Thead_field) else bif Nat.beq q.val 11 then ({ name_ := (ByteArray.mk #[100, 112, 111, 114, 116]), size_ := 12 } : Thead_field) else Thead_field.zero) : Fin 12 → Thead_field)) hF rfl pa349 ps349 (hS.bc (i := 0) rfl)) ⟨_, rfl, rfl, (hS.keep sn sl trivial)⟩

theorem ok_head_Size {M : Nat → Prop} {w0 : World} {u0 : Int} {o : Int} (hS : St M w0 [] [] [] w0) (h : head_Size u0 = some o) :
    Calls Tryz.prog 222 #[.int .i64 (u0)] w0 fun e W' => ∃ v, e = .returned v ∧ (v = .int .i64 (o) ∧ St M w0 [] [] [] W') := by
  unfold head_Size at h
  refine cst Tryz.func222 rfl rfl rfl fun a hF => wq <| wg <| av hF rfl rfl fun a hF => nl <| tn <| wq <| wq <| wg <| mv hF rfl rfl fun a hF => ?_
  obtain ⟨x1, hx2, h⟩ := bindS h
  refine cl hF pc269 rfl rfl (ok_head_there (hS.enter trivial) hx2) hS fun W a hF hS => sv (v_not hF rfl) hF rfl fun a hF => nl <| tn <| wi hF rfl h (fun h => ?_) fun h => ?_
  ·
   refine wq <| wg <| av hF rfl rfl fun a hF => nl <| tn <| rt <| tr ?_
   obtain rfl := si h
   exact ret1 hF rfl (rv_tmp hF rfl) ⟨_, rfl, rfl, hS⟩
  ·
   refine sk <| tn <| wq <| wg ?_
   obtain ⟨x5, hx6, h⟩ := bindS h
   refine cl hF pc270 rfl rfl (ok_head_fields (hS.enter trivial) hx6) hS fun W a hF hS => mv hF rfl rfl fun a hF => ?_
   obtain ⟨hb8, h⟩ := ifS h
   refine sv (v_index hF rfl rfl par349 pa348 hb8.1 hb8.2 (A12Thead_field.get x5 u0 hb8.1 hb8.2)) hF rfl fun a hF => sv (v_field1 hF rfl pft348_1 pa3 rfl) hF rfl fun a hF => av hF rfl rfl fun a hF => nl <| tn <| rt ?_
   obtain rfl := si h
   exact ret1 hF rfl (rv_tmp hF rfl) ⟨_, rfl, rfl, hS⟩

theorem ok_head_fits {M : Nat → Prop} {w0 : World} {u0 : Int} {u1 : Int} {o : Bool} (hS : St M w0 [] [] [] w0) (h : head_fits u0 u1 = some o) :
    Calls Tryz.prog 164 #[.int .i64 (u0), .int .u64 (u1)] w0 fun e W' => ∃ v, e = .returned v ∧ (v = .bool (o) ∧ St M w0 [] [] [] W') := by
  unfold head_fits at h
  refine cst Tryz.func164 rfl rfl rfl fun a hF => wq <| wg <| av hF rfl rfl fun a hF => nl <| tn <| wq <| wg <| mv hF rfl rfl fun a hF => mv hF rfl rfl fun a hF => ?_
  obtain ⟨x1, hx2, h⟩ := bindS h
  refine cl hF pc222 rfl rfl (ok_head_Size (hS.enter trivial) hx2) hS fun W a hF hS => ?_
  obtain ⟨hb4, h⟩ := ifS h
  refine sv (v_shr hF rfl rfl hb4) hF rfl fun a hF => sv (v_eql hF rfl rfl) hF rfl fun a hF => av hF rfl rfl fun a hF => nl <| tn <| rt ?_
  obtain rfl := si h
  exact ret1 hF rfl (rv_tmp hF rfl) ⟨_, rfl, rfl, hS⟩

theorem ok_head_Sound (k : Nat) {M : Nat → Prop} {w0 : World} {u0 : Arr 12} {o : Bool} (hS : St M w0 [] [] [] w0) (h : head_Sound k u0 = some o) :
    Calls Tryz.prog 101 #[.agg (A12u64.enc u0).toArray] w0 fun e W' => ∃ v, e = .returned v ∧ (v = .bool (o) ∧ St M w0 [] [] [] W') := by
  unfold head_Sound at h
  refine cst Tryz.func101 rfl rfl rfl fun a hF => wq <| wg <| bv hF hS rfl rfl rfl fun b1 a W hF hS => av hF rfl rfl fun a hF => nl <| tn <| wq <| wq <| wg <| sv (v_load (cs := A12u64.enc u0) hF rfl pa46 ps46 (hS.bc (i := 0) rfl)) hF rfl fun a hF => mv hF rfl rfl fun a hF => nl <| tn ?_
  obtain ⟨o4, h, hk5⟩ := bindS h
  refine wp_join (fun a W => Lo.brk () = o4 ∧ FH 15 [] a ∧ St M w0 [] [] [] W) (fun a W hJ => ?_) ?_
  ·
   obtain ⟨rfl, hF, hS⟩ := hJ
   have h := hk5
   dsimp only at h
   refine tn <| wq <| wg <| av hF rfl rfl fun a hF => nl <| tn <| rt ?_
   obtain rfl := si h
   exact ret1 hF rfl (rv_tmp hF rfl) ⟨_, rfl, rfl, hS⟩
  ·
   refine wb <| wp_loop_fuel (I := fun m a W => ∃ (x3 : Int), FH 15 [(5, .agg (A12u64.enc u0).toArray), (6, .int .i64 (x3))] a ∧ St M w0 [] [] [] W ∧ (head_Sound.l0 k u0 m x3) = some o4) ?_ (k := k) ⟨0, (hF.keep ⟨rfl, rfl, trivial⟩), (hS.keep sn sl trivial), h⟩
   rintro m6 a W ⟨x3, hF, hS, h⟩
   cases m6 with
   | zero => cases h
   | succ m6 =>
    rw [head_Sound.l0] at h
    refine wq <| wg <| sv (v_lss hF rfl rfl) hF rfl fun a hF => nl <| tn <| wq <| wi hF rfl h (fun h => ?_) fun h => ?_
    ·
     refine sk <| tn <| wq <| wb <| wq <| wg <| mv hF rfl rfl fun a hF => ?_
     obtain ⟨hb8, h⟩ := ifS h
     refine sv (v_index1 hF rfl rfl par46 pa44 hb8.1 hb8.2 (cell1 (A12u64.get u0 x3 hb8.1 hb8.2))) hF rfl fun a hF => av hF rfl rfl fun a hF => av hF rfl rfl fun a hF => nl <| tn <| wq <| wg <| mv hF rfl rfl fun a hF => mv hF rfl rfl fun a hF => ?_
     obtain ⟨x9, hx10, h⟩ := bindS h
     refine cl hF pc164 rfl rfl (ok_head_fits (hS.enter trivial) hx10) hS fun W a hF hS => sv (v_not hF rfl) hF rfl fun a hF => nl <| tn <| wi hF rfl h (fun h => ?_) fun h => ?_
     ·
      refine wq <| wg <| av hF rfl rfl fun a hF => nl <| tn <| rt <| br <| tr <| tr <| br <| tr <| tr ?_
      obtain rfl := si h
      have h := hk5
      dsimp only at h
      obtain rfl := si h
      exact ret1 hF rfl (rv_tmp hF rfl) ⟨_, rfl, rfl, hS⟩
     ·
      exact sk <| bn <| tn <| wg <| sv (v_add hF rfl rfl) hF rfl fun a hF => mv hF rfl rfl fun a hF => nl <| then_j ⟨m6, Nat.lt_succ_self _, (IntKind.i64.wrap (x3 + 1)), (hF.keep ⟨rfl, rfl, trivial⟩), hS, h⟩
    ·
     refine wp_exit <| tx <| tx <| bh ?_
     obtain rfl := si h
     exact then_j ⟨rfl, (hF.keep trivial), hS⟩

theorem ok_cube_Sound (k : Nat) {M : Nat → Prop} {w0 : World} {u0 : TCube} {o : Bool} (hS : St M w0 [] [] [] w0) (h : cube_Sound k u0 = some o) :
    Calls Tryz.prog 171 #[.agg (TCube.enc u0).toArray] w0 fun e W' => ∃ v, e = .returned v ∧ (v = .bool (o) ∧ St M w0 [] [] [] W') := by
  unfold cube_Sound at h
  refine cst Tryz.func171 rfl rfl rfl fun a hF => wq <| wg <| bv hF hS rfl rfl rfl fun b1 a W hF hS => av hF rfl rfl fun a hF => nl <| tn <| wq <| wq <| wg <| fv hF rfl pf48_1 rfl fun a hF => sv (v_load (cs := A12u64.enc u0.Care) hF rfl pa46 ps46 (cells_sub (vs := A12u64.enc u0.Care) (hS.bc (i := 0) rfl) rfl rfl)) hF rfl fun a hF => ?_
  obtain ⟨x2, hx3, h⟩ := bindS h
  refine cl hF pc101 rfl rfl (ok_head_Sound k (hS.enter trivial) hx3) hS fun W a hF hS => sv (v_not hF rfl) hF rfl fun a hF => nl <| tn <| wi hF rfl h (fun h => ?_) fun h => ?_
  ·
   refine wq <| wg <| av hF rfl rfl fun a hF => nl <| tn <| rt <| tr ?_
   obtain rfl := si h
   exact ret1 hF rfl (rv_tmp hF rfl) ⟨_, rfl, rfl, (hS.keep sn sl trivial)⟩
  ·
   refine sk <| tn <| wq <| wq <| wg <| fv hF rfl pf48_0 rfl fun a hF => sv (v_load (cs := A12u64.enc u0.Value) hF rfl pa46 ps46 (cells_sub (vs := A12u64.enc u0.Value) (hS.bc (i := 0) rfl) rfl rfl)) hF rfl fun a hF => mv hF rfl rfl fun a hF => nl <| tn ?_
   obtain ⟨o8, h, hk9⟩ := bindS h
   refine wp_join (fun a W => Lo.brk () = o8 ∧ FH 23 [] a ∧ St M w0 [] [] [] W) (fun a W hJ => ?_) ?_
   ·
    obtain ⟨rfl, hF, hS⟩ := hJ
    have h := hk9
    dsimp only at h
    refine tn <| wq <| wg <| av hF rfl rfl fun a hF => nl <| tn <| rt ?_
    obtain rfl := si h
    exact ret1 hF rfl (rv_tmp hF rfl) ⟨_, rfl, rfl, hS⟩
   ·
    refine wb <| wp_loop_fuel (I := fun m a W => ∃ (x7 : Int), FH 23 [(1, .pointer (some (⟨b1, 0, none⟩))), (10, .agg (A12u64.enc u0.Value).toArray), (11, .int .i64 (x7))] a ∧ St M w0 [⟨b1, TCube.enc u0, 48⟩] [] [] W ∧ (cube_Sound.l0 k u0 m x7) = some o8) ?_ (k := k) ⟨0, (hF.keep ⟨rfl, rfl, rfl, trivial⟩), hS, h⟩
    rintro m10 a W ⟨x7, hF, hS, h⟩
    cases m10 with
    | zero => cases h
    | succ m10 =>
     rw [cube_Sound.l0] at h
     refine wq <| wg <| sv (v_lss hF rfl rfl) hF rfl fun a hF => nl <| tn <| wq <| wi hF rfl h (fun h => ?_) fun h => ?_
     ·
      refine sk <| tn <| wq <| wb <| wq <| wg <| mv hF rfl rfl fun a hF => ?_
      obtain ⟨hb12, h⟩ := ifS h
      refine sv (v_index1 hF rfl rfl par46 pa44 hb12.1 hb12.2 (cell1 (A12u64.get u0.Value x7 hb12.1 hb12.2))) hF rfl fun a hF => av hF rfl rfl fun a hF => av hF rfl rfl fun a hF => nl <| tn <| wq <| wg <| mv hF rfl rfl fun a hF => mv hF rfl rfl fun a hF => fv hF rfl pf48_1 rfl fun a hF => sv (v_indexAddr hF rfl rfl par46 hb12.1 hb12.2) hF rfl fun a hF => sv (v_load1 hF rfl pa44 (cells_sub (vs := [.int .u64 ((u0.Care.at x7))]) (hS.bc (i := 0) rfl) (add_add _ _ _) (TCube.get_Care u0 x7 hb12.1 hb12.2))) hF rfl fun a hF => sv (v_andNot hF rfl rfl) hF rfl fun a hF => sv (v_neq hF rfl rfl) hF rfl fun a hF => nl <| tn <| wi hF rfl h (fun h => ?_) fun h => ?_
      ·
       refine wq <| wg <| av hF rfl rfl fun a hF => nl <| tn <| rt <| br <| tr <| tr <| br <| tr <| tr ?_
       obtain rfl := si h
       have h := hk9
       dsimp only at h
       obtain rfl := si h
       exact ret1 hF rfl (rv_tmp hF rfl) ⟨_, rfl, rfl, (hS.keep sn sl trivial)⟩
      ·
       exact sk <| bn <| tn <| wg <| sv (v_add hF rfl rfl) hF rfl fun a hF => mv hF rfl rfl fun a hF => nl <| then_j ⟨m10, Nat.lt_succ_self _, (IntKind.i64.wrap (x7 + 1)), (hF.keep ⟨rfl, rfl, rfl, trivial⟩), hS, h⟩
     ·
      refine wp_exit <| tx <| tx <| bh ?_
      obtain rfl := si h
      exact then_j ⟨rfl, (hF.keep trivial), (hS.keep sn sl trivial)⟩

theorem ok_slices_IndexFunc_Act (k : Nat) {M : Nat → Prop} {w0 : World} {u0 : List TAct} {A0_0 : Option Addr} {c0_0 : Nat} {F1 : FuncId} {caps1 : List Value} {u1 : TAct → Option Bool} {o : Int} (hS : St M w0 [] [] [fSl k_TAct A0_0 c0_0 u0, fFn1 Tryz.prog F1 caps1 k_TAct true u1 (fun y => .bool y)] w0) (h : slices_IndexFunc_Act k u0 u1 = some o) :
    Calls Tryz.prog 285 #[.slice A0_0 ((u0).length) c0_0, .func (.func F1) #[] caps1.toArray] w0 fun e W' => ∃ v, e = .returned v ∧ (v = .int .i64 (o) ∧ St M w0 [] [] [] W') := by
  unfold slices_IndexFunc_Act at h
  refine cst Tryz.func285 rfl rfl rfl fun a hF => wq <| wg <| av hF rfl rfl fun a hF => nl <| tn <| wq <| wq <| wg <| mv hF rfl rfl fun a hF => sv (v_len hF rfl pu49) hF rfl fun a hF => mv hF rfl rfl fun a hF => nl <| tn ?_
  obtain ⟨o3, h, hk4⟩ := bindS h
  refine wp_join (fun a W => Lo.brk () = o3 ∧ FH 19 [] a ∧ St M w0 [] [] [] W) (fun a W hJ => ?_) ?_
  ·
   obtain ⟨rfl, hF, hS⟩ := hJ
   have h := hk4
   dsimp only at h
   refine tn <| wq <| wg <| av hF rfl rfl fun a hF => nl <| tn <| rt ?_
   obtain rfl := si h
   exact ret1 hF rfl (rv_tmp hF rfl) ⟨_, rfl, rfl, hS⟩
  ·
   refine wb <| wp_loop_fuel (I := fun m a W => ∃ (x2 : Int), FH 19 [(0, .slice A0_0 ((u0).length) c0_0), (1, .func (.func F1) #[] caps1.toArray), (7, .int .i64 ((u0.length : Int))), (8, .int .i64 (x2))] a ∧ St M w0 [] [] [fSl k_TAct A0_0 c0_0 u0, fFn1 Tryz.prog F1 caps1 k_TAct true u1 (fun y => .bool y)] W ∧ (slices_IndexFunc_Act.l0 k u0 u1 m x2) = some o3) ?_ (k := k) ⟨0, (hF.keep ⟨rfl, rfl, rfl, rfl, trivial⟩), hS, h⟩
   rintro m5 a W ⟨x2, hF, hS, h⟩
   cases m5 with
   | zero => cases h
   | succ m5 =>
    rw [slices_IndexFunc_Act.l0] at h
    refine wq <| wg <| sv (v_lss hF rfl rfl) hF rfl fun a hF => nl <| tn <| wq <| wi hF rfl h (fun h => ?_) fun h => ?_
    ·
     refine sk <| tn <| wq <| wb <| wq <| wg <| mv hF rfl rfl fun a hF => av hF rfl rfl fun a hF => nl <| tn <| wq <| wg <| mv hF rfl rfl fun a hF => mv hF rfl rfl fun a hF => mv hF rfl rfl fun a hF => ?_
     obtain ⟨x7, hx8, h⟩ := bindS h
     obtain ⟨p9, cs10, hA11, hat12⟩ := SlR.at (hS.fc (i := 0) rfl) hx8
     obtain rfl : cs10 = TAct.enc x7 := hat12.2.2.2
     have hS := hS.addFact (f := fAt k_TAct (p9.add (x2.toNat * 4)) (TAct.enc x7) x7) hat12
     refine sv (v_idx hF rfl hA11 rfl psl49 hx8) hF rfl fun a hF => sv (v_load (cs := TAct.enc x7) hF rfl pa152 ps152 (hS.pc (i := 0) rfl)) hF rfl fun a hF => ?_
     obtain ⟨x13, hx14, h⟩ := bindS h
     refine sq_callv hF (hS.fc (i := 2) rfl).1 rfl rfl (by decide) (call1 (hS.fc (i := 2) rfl) hS rfl hx14) (fun v W hR a hF => ?_)
     obtain ⟨rfl, hT15⟩ := hR
     have hS := hS.grow hT15
     refine nl <| tn <| wi hF rfl h (fun h => ?_) fun h => ?_
     ·
      refine wq <| wg <| mv hF rfl rfl fun a hF => av hF rfl rfl fun a hF => nl <| tn <| rt <| br <| tr <| tr <| br <| tr <| tr ?_
      obtain rfl := si h
      have h := hk4
      dsimp only at h
      obtain rfl := si h
      exact ret1 hF rfl (rv_tmp hF rfl) ⟨_, rfl, rfl, (hS.keep sl sl trivial)⟩
     ·
      exact sk <| bn <| tn <| wg <| sv (v_add hF rfl rfl) hF rfl fun a hF => mv hF rfl rfl fun a hF => nl <| then_j ⟨m5, Nat.lt_succ_self _, (IntKind.i64.wrap (x2 + 1)), (hF.keep ⟨rfl, rfl, rfl, rfl, trivial⟩), (hS.keep sl sl ⟨⟨1, rfl⟩, ⟨2, rfl⟩, trivial⟩), h⟩
    ·
     refine wp_exit <| tx <| tx <| bh ?_
     obtain rfl := si h
     exact then_j ⟨rfl, (hF.keep trivial), (hS.keep sl sl trivial)⟩

theorem ok_slices_ContainsFunc_Act (k : Nat) {M : Nat → Prop} {w0 : World} {u0 : List TAct} {A0_0 : Option Addr} {c0_0 : Nat} {F1 : FuncId} {caps1 : List Value} {u1 : TAct → Option Bool} {o : Bool} (hS : St M w0 [] [] [fSl k_TAct A0_0 c0_0 u0, fFn1 Tryz.prog F1 caps1 k_TAct true u1 (fun y => .bool y)] w0) (h : slices_ContainsFunc_Act k u0 u1 = some o) :
    Calls Tryz.prog 242 #[.slice A0_0 ((u0).length) c0_0, .func (.func F1) #[] caps1.toArray] w0 fun e W' => ∃ v, e = .returned v ∧ (v = .bool (o) ∧ St M w0 [] [] [] W') := by
  unfold slices_ContainsFunc_Act at h
  refine cst Tryz.func242 rfl rfl rfl fun a hF => wq <| wg <| av hF rfl rfl fun a hF => nl <| tn <| wq <| wg <| mv hF rfl rfl fun a hF => mv hF rfl rfl fun a hF => ?_
  obtain ⟨x1, hx2, h⟩ := bindS h
  refine cl hF pc285 rfl rfl (ok_slices_IndexFunc_Act k (hS.enter ⟨⟨0, rfl⟩, ⟨1, rfl⟩, trivial⟩) hx2) hS fun W a hF hS => sv (v_geq hF rfl rfl) hF rfl fun a hF => av hF rfl rfl fun a hF => nl <| tn <| rt ?_
  obtain rfl := si h
  exact ret1 hF rfl (rv_tmp hF rfl) ⟨_, rfl, rfl, (hS.keep sl sl trivial)⟩

theorem ok_head_Set {M : Nat → Prop} {w0 : World} {u0 : Arr 12} {u1 : Int} {u2 : Int} {o : (Arr 12) × Int} (hS : St M w0 [] [] [] w0) (h : head_Set u0 u1 u2 = some o) :
    Calls Tryz.prog 286 #[.agg (A12u64.enc u0).toArray, .int .i64 (u1), .int .u64 (u2)] w0 fun e W' => ∃ v, e = .returned v ∧ (v = .tuple #[.agg (A12u64.enc o.1).toArray, .int .i64 (o.2)] ∧ St M w0 [] [] [] W') := by
  unfold head_Set at h
  refine cst Tryz.func286 rfl rfl rfl fun a hF => wq <| wg <| bv hF hS rfl rfl rfl fun b1 a W hF hS => al hF hS pz46 rfl rfl fun b2 a W hF hS => av hF rfl rfl fun a hF => nl <| tn <| wq <| wb <| wq <| wg <| mv hF rfl rfl fun a hF => ?_
  obtain ⟨x3, hx4, h⟩ := bindS h
  refine cl hF pc269 rfl rfl (ok_head_there (hS.enter trivial) hx4) hS fun W a hF hS => sv (v_not hF rfl) hF rfl fun a hF => av hF rfl rfl fun a hF => nl <| tn <| wi hF rfl h (fun h => ?_) fun h => ?_
  ·
   refine wq <| wg <| sv (v_buildA (parts := []) (out := A12u64.enc A12u64.zero) hF rfl rfl pz46 rfl par46 rfl) hF rfl fun a hF => sq_store (o := 0) (vs := A12u64.enc A12u64.zero) (cs' := A12u64.enc A12u64.zero) hF hS rfl rfl (i := 0) rfl rfl rfl ps46 (A12u64.enc_one _) (bl rfl) rfl fun W hS => av hF rfl rfl fun a hF => nl <| tn <| rt <| br <| tr ?_
   obtain rfl := si h
   exact ret2 hF rfl (rv_cell (cs := A12u64.enc A12u64.zero) hF rfl pa46 ps46 (hS.bc (i := 0) rfl)) (rv_tmp hF rfl) ⟨_, rfl, rfl, (hS.keep sn sl trivial)⟩
  ·
   refine wq <| wg <| mv hF rfl rfl fun a hF => mv hF rfl rfl fun a hF => ?_
   obtain ⟨x7, hx8, h⟩ := bindS h
   refine cl hF pc164 rfl rfl (ok_head_fits (hS.enter trivial) hx8) hS fun W a hF hS => sv (v_not hF rfl) hF rfl fun a hF => av hF rfl rfl fun a hF => nl <| tn <| wi hF rfl h (fun h => ?_) fun h => ?_
   ·
    refine wq <| wg <| sv (v_buildA (parts := []) (out := A12u64.enc A12u64.zero) hF rfl rfl pz46 rfl par46 rfl) hF rfl fun a hF => sq_store (o := 0) (vs := A12u64.enc A12u64.zero) (cs' := A12u64.enc A12u64.zero) hF hS rfl rfl (i := 0) rfl rfl rfl ps46 (A12u64.enc_one _) (bl rfl) rfl fun W hS => av hF rfl rfl fun a hF => nl <| tn <| rt <| br <| tr ?_
    obtain rfl := si h
    exact ret2 hF rfl (rv_cell (cs := A12u64.enc A12u64.zero) hF rfl pa46 ps46 (hS.bc (i := 0) rfl)) (rv_tmp hF rfl) ⟨_, rfl, rfl, (hS.keep sn sl trivial)⟩
   ·
    refine sk <| bn <| tn <| wq <| wg <| mv hF rfl rfl fun a hF => mv hF rfl rfl fun a hF => ?_
    obtain ⟨hb11, h⟩ := ifS h
    refine sv (v_indexAddr hF rfl rfl par46 hb11.1 hb11.2) hF rfl fun a hF => sq_store (o := u1.toNat * 1) (vs := [.int .u64 (u2)]) (cs' := A12u64.enc (u0.upd u1 u2)) hF hS rfl (by simp only [add_add, add_plain, Nat.zero_add]) (i := 1) rfl rfl rfl ps44 (one1 rfl) (by have h0 := hb11.1; have h1 := hb11.2; simp only [A12u64.enc, List.length_cons, List.length_nil]; omega) (A12u64.set u0 u1 _ hb11.1 hb11.2) (fun W hS => ?_)
    refine nl <| tn <| wq <| wg <| sv (v_load (cs := A12u64.enc (u0.upd u1 u2)) hF rfl pa46 ps46 (hS.bc (i := 1) rfl)) hF rfl fun a hF => sq_store (o := 0) (vs := A12u64.enc (u0.upd u1 u2)) (cs' := A12u64.enc (u0.upd u1 u2)) hF hS rfl rfl (i := 0) rfl rfl rfl ps46 (A12u64.enc_one _) (bl rfl) rfl fun W hS => av hF rfl rfl fun a hF => nl <| tn <| rt ?_
    obtain rfl := si h
    exact ret2 hF rfl (rv_cell (cs := A12u64.enc (u0.upd u1 u2)) hF rfl pa46 ps46 (hS.bc (i := 0) rfl)) (rv_tmp hF rfl) ⟨_, rfl, rfl, (hS.keep sn sl trivial)⟩

theorem ok_act_sound {M : Nat → Prop} {w0 : World} {u0 : TAct} {o : Bool} (hS : St M w0 [] [] [] w0) (h : act_sound u0 = some o) :
    Calls Tryz.prog 244 #[.agg (TAct.enc u0).toArray] w0 fun e W' => ∃ v, e = .returned v ∧ (v = .bool (o) ∧ St M w0 [] [] [] W') := by
  unfold act_sound at h
  refine cst Tryz.func244 rfl rfl rfl fun a hF => wq <| wg <| bv hF hS rfl rfl rfl fun b1 a W hF hS => av hF rfl rfl fun a hF => nl <| tn <| wq <| wq <| wg <| fv hF rfl pf152_0 rfl fun a hF => lv hF rfl pa3 (hS.bc (i := 0) rfl) rfl rfl rfl fun a hF => nl <| tn <| wb <| wq <| wg <| sv (v_eql hF rfl rfl) hF rfl fun a hF => av hF rfl rfl fun a hF => nl <| tn <| wi hF rfl h (fun h => ?_) fun h => ?_
  ·
   refine wq <| wg <| fv hF rfl pf152_1 rfl fun a hF => lv hF rfl pa3 (hS.bc (i := 0) rfl) rfl rfl rfl fun a hF => sv (v_geq hF rfl rfl) hF rfl fun a hF => mv hF rfl rfl fun a hF => gand 3 3 12 ((decide (u0.Port ≤ 16))) hF rfl rfl rfl rfl rfl (fun _ => ?_) (fun a hF => ?_)
   ·
    exact fv hF rfl pf152_1 rfl fun a hF => lv hF rfl pa3 (hS.bc (i := 0) rfl) rfl rfl rfl fun a hF => sv (v_leq hF rfl rfl) hF rfl fun a hF => gq 3 hF rfl rfl rfl
   ·
    refine mv hF rfl rfl fun a hF => gand 3 8 17 ((u0.Field == 0)) hF rfl rfl rfl rfl rfl (fun _ => ?_) (fun a hF => ?_)
    ·
     exact fv hF rfl pf152_2 rfl fun a hF => lv hF rfl pa3 (hS.bc (i := 0) rfl) rfl rfl rfl fun a hF => sv (v_eql hF rfl rfl) hF rfl fun a hF => gq 3 hF rfl rfl rfl
    ·
     refine mv hF rfl rfl fun a hF => gand 3 13 22 ((u0.Value == 0)) hF rfl rfl rfl rfl rfl (fun _ => ?_) (fun a hF => ?_)
     ·
      exact fv hF rfl pf152_3 rfl fun a hF => lv hF rfl pa44 (hS.bc (i := 0) rfl) rfl rfl rfl fun a hF => sv (v_eql hF rfl rfl) hF rfl fun a hF => gq 3 hF rfl rfl rfl
     ·
      refine av hF rfl rfl fun a hF => nl <| tn <| rt <| br <| tr ?_
      obtain rfl := si h
      exact ret1 hF rfl (rv_tmp hF rfl) ⟨_, rfl, rfl, (hS.keep sn sl trivial)⟩
  ·
   refine wq <| wg <| sv (v_eql hF rfl rfl) hF rfl fun a hF => av hF rfl rfl fun a hF => nl <| tn <| wi hF rfl h (fun h => ?_) fun h => ?_
   ·
    refine wq <| wg <| sv (v_buildA (parts := []) (out := A12u64.enc A12u64.zero) hF rfl rfl pz46 rfl par46 rfl) hF rfl fun a hF => fv hF rfl pf152_2 rfl fun a hF => lv hF rfl pa3 (hS.bc (i := 0) rfl) rfl rfl rfl fun a hF => fv hF rfl pf152_3 rfl fun a hF => lv hF rfl pa44 (hS.bc (i := 0) rfl) rfl rfl rfl fun a hF => ?_
    obtain ⟨x7, hx8, h⟩ := bindS h
    refine cl hF pc286 rfl rfl (ok_head_Set (hS.enter trivial) hx8) hS fun W a hF hS => mv hF rfl rfl fun a hF => sv (v_extract hF rfl rfl) hF rfl fun a hF => sv (v_extract hF rfl rfl) hF rfl fun a hF => al hF hS pz46 rfl rfl fun b10 a W hF hS => sq_store (o := 0) (vs := A12u64.enc x7.1) (cs' := A12u64.enc x7.1) hF hS rfl rfl (i := 0) rfl rfl rfl ps46 (A12u64.enc_one _) (bl rfl) rfl fun W hS => av hF rfl rfl fun a hF => nl <| tn <| wq <| wg <| mv hF rfl rfl fun a hF => sv (v_eql hF rfl rfl) hF rfl fun a hF => mv hF rfl rfl fun a hF => gand 3 2 40 ((u0.Port == 0)) hF rfl rfl rfl rfl rfl (fun _ => ?_) (fun a hF => ?_)
    ·
     exact fv hF rfl pf152_1 rfl fun a hF => lv hF rfl pa3 (hS.bc (i := 1) rfl) rfl rfl rfl fun a hF => sv (v_eql hF rfl rfl) hF rfl fun a hF => gq 3 hF rfl rfl rfl
    ·
     refine av hF rfl rfl fun a hF => nl <| tn <| rt <| br <| tr ?_
     obtain rfl := si h
     exact ret1 hF rfl (rv_tmp hF rfl) ⟨_, rfl, rfl, (hS.keep sn sl trivial)⟩
   ·
    refine sk <| bn <| tn <| wq <| wg <| sv (v_load (cs := TAct.enc u0) hF rfl pa152 ps152 (hS.bc (i := 0) rfl)) hF rfl fun a hF => sv (v_build (parts := [(0, .const (.int .i64 3))]) (out := TAct.enc ({ Kind := 3, Port := 0, Field := 0, Value := 0 } : TAct)) hF rfl rfl pz152 rfl pp152 rfl) hF rfl fun a hF => sq_val (eq152 hF rfl rfl).1 hF (by decide) (fun a hF => ?_)
    refine av hF rfl rfl fun a hF => nl <| tn <| rt ?_
    obtain rfl := si h
    exact ret1 hF rfl (rv_tmp hF rfl) ⟨_, rfl, rfl, (hS.keep sn sl trivial)⟩

theorem ok_act_Sound_1 {M : Nat → Prop} {w0 : World} {u0 : TAct} {o : Bool} (hS : St M w0 [] [] [] w0) (h : act_Sound_1 u0 = some o) :
    Calls Tryz.prog 243 #[.agg (TAct.enc u0).toArray] w0 fun e W' => ∃ v, e = .returned v ∧ (v = .bool (o) ∧ St M w0 [] [] [] W') := by
  unfold act_Sound_1 at h
  refine cst Tryz.func243 rfl rfl rfl fun a hF => wq <| wg <| bv hF hS rfl rfl rfl fun b1 a W hF hS => av hF rfl rfl fun a hF => nl <| tn <| wq <| wg <| sv (v_load (cs := TAct.enc u0) hF rfl pa152 ps152 (hS.bc (i := 0) rfl)) hF rfl fun a hF => ?_
  obtain ⟨x2, hx3, h⟩ := bindS h
  refine cl hF pc244 rfl rfl (ok_act_sound (hS.enter trivial) hx3) hS fun W a hF hS => sv (v_not hF rfl) hF rfl fun a hF => av hF rfl rfl fun a hF => nl <| tn <| rt ?_
  obtain rfl := si h
  exact ret1 hF rfl (rv_tmp hF rfl) ⟨_, rfl, rfl, (hS.keep sn sl trivial)⟩

theorem ok_act_Sound (k : Nat) {M : Nat → Prop} {w0 : World} {u0 : List TAct} {A0_0 : Option Addr} {c0_0 : Nat} {o : Bool} (hS : St M w0 [] [] [fSl k_TAct A0_0 c0_0 u0] w0) (h : act_Sound k u0 = some o) :
    Calls Tryz.prog 200 #[.slice A0_0 ((u0).length) c0_0] w0 fun e W' => ∃ v, e = .returned v ∧ (v = .bool (o) ∧ St M w0 [] [] [] W') := by
  unfold act_Sound at h
  refine cst Tryz.func200 rfl rfl rfl fun a hF => wq <| wg <| av hF rfl rfl fun a hF => nl <| tn <| wq <| wg <| mv hF rfl rfl fun a hF => sv (v_len hF rfl pu49) hF rfl fun a hF => sv (v_leq hF rfl rfl) hF rfl fun a hF => mv hF rfl rfl fun a hF => gandB 3 3 6 hF hS h rfl rfl rfl rfl rfl (fun r3 h => ?_) (fun x2 a W h hF hS => ?_)
  ·
   refine mv hF rfl rfl fun a hF => ?_
   have hS := hS.addFact (f := fFn1 Tryz.prog 243 ([]) k_TAct true (fun (a0 : TAct) => act_Sound_1 a0) (fun y => .bool y)) ⟨pc243, fun M' W' hs hv cs a0 y hR hp => by obtain rfl := hR; exact fromSt (ok_act_Sound_1 (St.ofAll hv trivial) hp)⟩
   obtain ⟨x4, hx5, h⟩ := bindS h
   refine cl hF pc242 rfl rfl (ok_slices_ContainsFunc_Act k (hS.enter ⟨⟨1, rfl⟩, ⟨0, rfl⟩, trivial⟩) hx5) hS fun W a hF hS => sv (v_not hF rfl) hF rfl fun a hF => ?_
   obtain rfl := si h
   exact gs 3 hF (hS.keep sl sl ⟨⟨1, rfl⟩, trivial⟩) rfl rfl rfl
  ·
   refine av hF rfl rfl fun a hF => nl <| tn <| rt ?_
   obtain rfl := si h
   exact ret1 hF rfl (rv_tmp hF rfl) ⟨_, rfl, rfl, (hS.keep sl sl trivial)⟩

theorem ok_rule_span {M : Nat → Prop} {w0 : World} {u0 : Int} {u1 : Int} {o : Bool} (hS : St M w0 [] [] [] w0) (h : rule_span u0 u1 = some o) :
    Calls Tryz.prog 288 #[.int .i64 (u0), .int .i64 (u1)] w0 fun e W' => ∃ v, e = .returned v ∧ (v = .bool (o) ∧ St M w0 [] [] [] W') := by
  unfold rule_span at h
  refine cst Tryz.func288 rfl rfl rfl fun a hF => wq <| wg <| av hF rfl rfl fun a hF => nl <| tn <| wq <| wg <| mv hF rfl rfl fun a hF => sv (v_geq hF rfl rfl) hF rfl fun a hF => mv hF rfl rfl fun a hF => gand 3 2 7 ((decide (u0 ≤ u1))) hF rfl rfl rfl rfl rfl (fun _ => ?_) (fun a hF => ?_)
  ·
   exact mv hF rfl rfl fun a hF => mv hF rfl rfl fun a hF => sv (v_leq hF rfl rfl) hF rfl fun a hF => gq 3 hF rfl rfl rfl
  ·
   refine av hF rfl rfl fun a hF => nl <| tn <| rt ?_
   obtain rfl := si h
   exact ret1 hF rfl (rv_tmp hF rfl) ⟨_, rfl, rfl, hS⟩

theorem ok_rule_Sound (k : Nat) {M : Nat → Prop} {w0 : World} {u0 : TRule} {A0_0 : Option Addr} {c0_0 : Nat} {o : Bool} (hS : St M w0 [] [] [fSl k_TAct A0_0 c0_0 u0.Acts] w0) (h : rule_Sound k u0 = some o) :
    Calls Tryz.prog 248 #[.agg (TRule.enc u0 A0_0 c0_0).toArray] w0 fun e W' => ∃ v, e = .returned v ∧ (v = .bool (o) ∧ St M w0 [] [] [] W') := by
  unfold rule_Sound at h
  refine cst Tryz.func248 rfl rfl rfl fun a hF => wq <| wg <| bv hF hS rfl rfl rfl fun b1 a W hF hS => av hF rfl rfl fun a hF => nl <| tn <| wq <| wg <| fv hF rfl pf51_0 rfl fun a hF => sv (v_load (cs := TCube.enc u0.Match) hF rfl pa48 ps48 (cells_sub (vs := TCube.enc u0.Match) (hS.bc (i := 0) rfl) rfl rfl)) hF rfl fun a hF => ?_
  obtain ⟨x2, hx3, h⟩ := bindS h
  refine cl hF pc171 rfl rfl (ok_cube_Sound k (hS.enter trivial) hx3) hS fun W a hF hS => mv hF rfl rfl fun a hF => gandB 3 3 6 hF hS h rfl rfl rfl rfl rfl (fun r7 h => ?_) (fun x6 a W h hF hS => ?_)
  ·
   refine fv hF rfl pf51_2 rfl fun a hF => lv hF rfl pa49 (hS.bc (i := 0) rfl) rfl rfl rfl fun a hF => ?_
   obtain ⟨x8, hx9, h⟩ := bindS h
   refine cl hF pc200 rfl rfl (ok_act_Sound k (hS.enter ⟨⟨0, rfl⟩, trivial⟩) hx9) hS fun W a hF hS => ?_
   obtain rfl := si h
   exact gs 3 hF hS rfl rfl rfl
  ·
   refine mv hF rfl rfl fun a hF => gandB 3 8 11 hF hS h rfl rfl rfl rfl rfl (fun r13 h => ?_) (fun x12 a W h hF hS => ?_)
   ·
    refine fv hF rfl pf51_1 rfl fun a hF => lv hF rfl pa3 (hS.bc (i := 0) rfl) rfl rfl rfl fun a hF => ?_
    obtain ⟨x14, hx15, h⟩ := bindS h
    refine cl hF pc288 rfl rfl (ok_rule_span (hS.enter trivial) hx15) hS fun W a hF hS => ?_
    obtain rfl := si h
    exact gs 3 hF hS rfl rfl rfl
   ·
    refine mv hF rfl rfl fun a hF => gandB 3 13 16 hF hS h rfl rfl rfl rfl rfl (fun r19 h => ?_) (fun x18 a W h hF hS => ?_)
    ·
     refine fv hF rfl pf51_3 rfl fun a hF => lv hF rfl pa3 (hS.bc (i := 0) rfl) rfl rfl rfl fun a hF => ?_
     obtain ⟨x20, hx21, h⟩ := bindS h
     refine cl hF pc288 rfl rfl (ok_rule_span (hS.enter trivial) hx21) hS fun W a hF hS => ?_
     obtain rfl := si h
     exact gs 3 hF hS rfl rfl rfl
    ·
     refine mv hF rfl rfl fun a hF => gandB 3 18 21 hF hS h rfl rfl rfl rfl rfl (fun r25 h => ?_) (fun x24 a W h hF hS => ?_)
     ·
      refine fv hF rfl pf51_4 rfl fun a hF => lv hF rfl pa3 (hS.bc (i := 0) rfl) rfl rfl rfl fun a hF => ?_
      obtain ⟨x26, hx27, h⟩ := bindS h
      refine cl hF pc288 rfl rfl (ok_rule_span (hS.enter trivial) hx27) hS fun W a hF hS => ?_
      obtain rfl := si h
      exact gs 3 hF hS rfl rfl rfl
     ·
      refine mv hF rfl rfl fun a hF => gandB 3 23 26 hF hS h rfl rfl rfl rfl rfl (fun r31 h => ?_) (fun x30 a W h hF hS => ?_)
      ·
       refine fv hF rfl pf51_5 rfl fun a hF => lv hF rfl pa3 (hS.bc (i := 0) rfl) rfl rfl rfl fun a hF => ?_
       obtain ⟨x32, hx33, h⟩ := bindS h
       refine cl hF pc288 rfl rfl (ok_rule_span (hS.enter trivial) hx33) hS fun W a hF hS => ?_
       obtain rfl := si h
       exact gs 3 hF hS rfl rfl rfl
      ·
       refine mv hF rfl rfl fun a hF => gand 8 28 31 ((decide (0 ≤ (min (min u0.Hits u0.Quiet) u0.Age)))) hF rfl rfl rfl rfl rfl (fun _ => ?_) (fun a hF => ?_)
       ·
        exact fv hF rfl pf51_6 rfl fun a hF => lv hF rfl pa3 (hS.bc (i := 0) rfl) rfl rfl rfl fun a hF => fv hF rfl pf51_7 rfl fun a hF => lv hF rfl pa3 (hS.bc (i := 0) rfl) rfl rfl rfl fun a hF => fv hF rfl pf51_8 rfl fun a hF => lv hF rfl pa3 (hS.bc (i := 0) rfl) rfl rfl rfl fun a hF => sv (v_min3 hF rfl rfl rfl) hF rfl fun a hF => sv (v_geq hF rfl rfl) hF rfl fun a hF => gq 8 hF rfl rfl rfl
       ·
        refine av hF rfl rfl fun a hF => nl <| tn <| rt ?_
        obtain rfl := si h
        exact ret1 hF rfl (rv_tmp hF rfl) ⟨_, rfl, rfl, (hS.keep sn sl trivial)⟩

theorem ok_slices_CompareFunc_uint64 (k : Nat) {M : Nat → Prop} {w0 : World} {u0 : List Int} {A0_0 : Option Addr} {c0_0 : Nat} {u1 : List Int} {A1_0 : Option Addr} {c1_0 : Nat} {F2 : FuncId} {caps2 : List Value} {u2 : Int → Int → Option Int} {o : Int} (hS : St M w0 [] [] [fSl (kInt .u64) A0_0 c0_0 u0, fSl (kInt .u64) A1_0 c1_0 u1, fFn2 Tryz.prog F2 caps2 (kInt .u64) false (kInt .u64) false u2 (fun y => .int .i64 y)] w0) (h : slices_CompareFunc_uint64 k u0 u1 u2 = some o) :
    Calls Tryz.prog 297 #[.slice A0_0 ((u0).length) c0_0, .slice A1_0 ((u1).length) c1_0, .func (.func F2) #[] caps2.toArray] w0 fun e W' => ∃ v, e = .returned v ∧ (v = .int .i64 (o) ∧ St M w0 [] [] [] W') := by
  unfold slices_CompareFunc_uint64 at h
  refine cst Tryz.func297 rfl rfl rfl fun a hF => wq <| wg <| av hF rfl rfl fun a hF => nl <| tn <| wq <| wq <| wg <| mv hF rfl rfl fun a hF => sv (v_len hF rfl pu372) hF rfl fun a hF => mv hF rfl rfl fun a hF => nl <| tn ?_
  obtain ⟨o3, h, hk4⟩ := bindS h
  refine wp_join (fun a W => Lo.brk () = o3 ∧ FH 39 [(0, .slice A0_0 ((u0).length) c0_0), (1, .slice A1_0 ((u1).length) c1_0)] a ∧ St M w0 [] [] [fSl (kInt .u64) A0_0 c0_0 u0, fSl (kInt .u64) A1_0 c1_0 u1] W) (fun a W hJ => ?_) ?_
  ·
   obtain ⟨rfl, hF, hS⟩ := hJ
   have h := hk4
   dsimp only at h
   refine tn <| wq <| wq <| wg <| mv hF rfl rfl fun a hF => sv (v_len hF rfl pu372) hF rfl fun a hF => mv hF rfl rfl fun a hF => sv (v_len hF rfl pu372) hF rfl fun a hF => sv (v_lss hF rfl rfl) hF rfl fun a hF => nl <| tn <| wi hF rfl h (fun h => ?_) fun h => ?_
   ·
    refine wq <| wg <| av hF rfl rfl fun a hF => nl <| tn <| rt <| tr ?_
    obtain rfl := si h
    exact ret1 hF rfl (rv_tmp hF rfl) ⟨_, rfl, rfl, (hS.keep sl sl trivial)⟩
   ·
    refine sk <| tn <| wq <| wg <| av hF rfl rfl fun a hF => nl <| tn <| rt ?_
    obtain rfl := si h
    exact ret1 hF rfl (rv_tmp hF rfl) ⟨_, rfl, rfl, (hS.keep sl sl trivial)⟩
  ·
   refine wb <| wp_loop_fuel (I := fun m a W => ∃ (x2 : Int), FH 39 [(0, .slice A0_0 ((u0).length) c0_0), (1, .slice A1_0 ((u1).length) c1_0), (2, .func (.func F2) #[] caps2.toArray), (11, .slice A0_0 ((u0).length) c0_0), (12, .int .i64 ((u0.length : Int))), (13, .int .i64 (x2))] a ∧ St M w0 [] [] [fSl (kInt .u64) A0_0 c0_0 u0, fSl (kInt .u64) A1_0 c1_0 u1, fFn2 Tryz.prog F2 caps2 (kInt .u64) false (kInt .u64) false u2 (fun y => .int .i64 y)] W ∧ (slices_CompareFunc_uint64.l0 k u0 u1 u2 m x2) = some o3) ?_ (k := k) ⟨0, (hF.keep ⟨rfl, rfl, rfl, rfl, rfl, rfl, trivial⟩), hS, h⟩
   rintro m6 a W ⟨x2, hF, hS, h⟩
   cases m6 with
   | zero => cases h
   | succ m6 =>
    rw [slices_CompareFunc_uint64.l0] at h
    refine wq <| wg <| sv (v_lss hF rfl rfl) hF rfl fun a hF => nl <| tn <| wq <| wi hF rfl h (fun h => ?_) fun h => ?_
    ·
     refine sk <| tn <| wq <| wb <| wq <| wg <| mv hF rfl rfl fun a hF => ?_
     obtain ⟨x8, hx9, h⟩ := bindS h
     obtain ⟨p10, cs11, hA12, hat13⟩ := SlR.at (hS.fc (i := 0) rfl) hx9
     obtain rfl : cs11 = [.int .u64 (x8)] := hat13.2.2.2
     have hS := hS.addFact (f := fAt (kInt .u64) (p10.add (x2.toNat * 1)) ([.int .u64 (x8)]) x8) hat13
     refine sv (v_idx hF rfl hA12 rfl psl372 hx9) hF rfl fun a hF => sv (v_load1 hF rfl pa44 (hS.pc (i := 0) rfl)) hF rfl fun a hF => av hF rfl rfl fun a hF => av hF rfl rfl fun a hF => nl <| tn <| wq <| wq <| wg <| mv hF rfl rfl fun a hF => mv hF rfl rfl fun a hF => sv (v_len hF rfl pu372) hF rfl fun a hF => sv (v_geq hF rfl rfl) hF rfl fun a hF => nl <| tn <| wi hF rfl h (fun h => ?_) fun h => ?_
     ·
      refine wq <| wg <| av hF rfl rfl fun a hF => nl <| tn <| rt <| tr <| br <| tr <| tr <| br <| tr <| tr ?_
      obtain rfl := si h
      have h := hk4
      dsimp only at h
      obtain rfl := si h
      exact ret1 hF rfl (rv_tmp hF rfl) ⟨_, rfl, rfl, (hS.keep sl sl trivial)⟩
     ·
      refine sk <| tn <| wq <| wg <| mv hF rfl rfl fun a hF => mv hF rfl rfl fun a hF => ?_
      obtain ⟨x15, hx16, h⟩ := bindS h
      obtain ⟨p17, cs18, hA19, hat20⟩ := SlR.at (hS.fc (i := 2) rfl) hx16
      obtain rfl : cs18 = [.int .u64 (x15)] := hat20.2.2.2
      have hS := hS.addFact (f := fAt (kInt .u64) (p17.add (x2.toNat * 1)) ([.int .u64 (x15)]) x15) hat20
      refine sv (v_idx hF rfl hA19 rfl psl372 hx16) hF rfl fun a hF => sv (v_load1 hF rfl pa44 (hS.pc (i := 0) rfl)) hF rfl fun a hF => av hF rfl rfl fun a hF => nl <| tn <| wq <| wg <| mv hF rfl rfl fun a hF => mv hF rfl rfl fun a hF => mv hF rfl rfl fun a hF => ?_
      obtain ⟨x21, hx22, h⟩ := bindS h
      refine sq_callv hF (hS.fc (i := 4) rfl).1 rfl rfl (by decide) (call2 (hS.fc (i := 4) rfl) hS rfl rfl hx22) (fun v W hR a hF => ?_)
      obtain ⟨rfl, hT23⟩ := hR
      have hS := hS.grow hT23
      refine av hF rfl rfl fun a hF => nl <| tn <| wq <| wg <| mv hF rfl rfl fun a hF => sv (v_neq hF rfl rfl) hF rfl fun a hF => nl <| tn <| wi hF rfl h (fun h => ?_) fun h => ?_
      ·
       refine wq <| wg <| mv hF rfl rfl fun a hF => av hF rfl rfl fun a hF => nl <| tn <| rt <| br <| tr <| tr <| br <| tr <| tr ?_
       obtain rfl := si h
       have h := hk4
       dsimp only at h
       obtain rfl := si h
       exact ret1 hF rfl (rv_tmp hF rfl) ⟨_, rfl, rfl, (hS.keep sl sl trivial)⟩
      ·
       exact sk <| bn <| tn <| wg <| sv (v_add hF rfl rfl) hF rfl fun a hF => mv hF rfl rfl fun a hF => nl <| then_j ⟨m6, Nat.lt_succ_self _, (IntKind.i64.wrap (x2 + 1)), (hF.keep ⟨rfl, rfl, rfl, rfl, rfl, rfl, trivial⟩), (hS.keep sl sl ⟨⟨2, rfl⟩, ⟨3, rfl⟩, ⟨4, rfl⟩, trivial⟩), h⟩
    ·
     refine wp_exit <| tx <| tx <| bh ?_
     obtain rfl := si h
     exact then_j ⟨rfl, (hF.keep ⟨rfl, rfl, trivial⟩), (hS.keep sl sl ⟨⟨0, rfl⟩, ⟨1, rfl⟩, trivial⟩)⟩

theorem ok_cmp_isNaN_uint64 {M : Nat → Prop} {w0 : World} {u0 : Int} {o : Bool} (hS : St M w0 [] [] [] w0) (h : cmp_isNaN_uint64 u0 = some o) :
    Calls Tryz.prog 303 #[.int .u64 (u0)] w0 fun e W' => ∃ v, e = .returned v ∧ (v = .bool (o) ∧ St M w0 [] [] [] W') := by
  unfold cmp_isNaN_uint64 at h
  refine cst Tryz.func303 rfl rfl rfl fun a hF => wq <| wg <| av hF rfl rfl fun a hF => nl <| tn <| wq <| wg <| mv hF rfl rfl fun a hF => mv hF rfl rfl fun a hF => sv (v_neq hF rfl rfl) hF rfl fun a hF => av hF rfl rfl fun a hF => nl <| tn <| rt ?_
  obtain rfl := si h
  exact ret1 hF rfl (rv_tmp hF rfl) ⟨_, rfl, rfl, hS⟩

theorem ok_cmp_Compare_uint64 {M : Nat → Prop} {w0 : World} {u0 : Int} {u1 : Int} {o : Int} (hS : St M w0 [] [] [] w0) (h : cmp_Compare_uint64 u0 u1 = some o) :
    Calls Tryz.prog 298 #[.int .u64 (u0), .int .u64 (u1)] w0 fun e W' => ∃ v, e = .returned v ∧ (v = .int .i64 (o) ∧ St M w0 [] [] [] W') := by
  unfold cmp_Compare_uint64 at h
  refine cst Tryz.func298 rfl rfl rfl fun a hF => wq <| wg <| av hF rfl rfl fun a hF => nl <| tn <| wq <| wg <| mv hF rfl rfl fun a hF => ?_
  obtain ⟨x1, hx2, h⟩ := bindS h
  refine cl hF pc303 rfl rfl (ok_cmp_isNaN_uint64 (hS.enter trivial) hx2) hS fun W a hF hS => av hF rfl rfl fun a hF => nl <| tn <| wq <| wg <| mv hF rfl rfl fun a hF => ?_
  obtain ⟨x4, hx5, h⟩ := bindS h
  refine cl hF pc303 rfl rfl (ok_cmp_isNaN_uint64 (hS.enter trivial) hx5) hS fun W a hF hS => av hF rfl rfl fun a hF => nl <| tn <| wq <| wq <| wg <| mv hF rfl rfl fun a hF => nl <| tn <| wi hF rfl h (fun h => ?_) fun h => ?_
  ·
   refine wq <| wq <| wg <| mv hF rfl rfl fun a hF => nl <| tn <| wi hF rfl h (fun h => ?_) fun h => ?_
   ·
    refine wq <| wg <| av hF rfl rfl fun a hF => nl <| tn <| rt <| tr <| tr ?_
    obtain rfl := si h
    exact ret1 hF rfl (rv_tmp hF rfl) ⟨_, rfl, rfl, hS⟩
   ·
    refine sk <| tn <| wq <| wg <| av hF rfl rfl fun a hF => nl <| tn <| rt <| tr ?_
    obtain rfl := si h
    exact ret1 hF rfl (rv_tmp hF rfl) ⟨_, rfl, rfl, hS⟩
  ·
   refine sk <| tn <| wq <| wq <| wg <| mv hF rfl rfl fun a hF => nl <| tn <| wi hF rfl h (fun h => ?_) fun h => ?_
   ·
    refine wq <| wg <| av hF rfl rfl fun a hF => nl <| tn <| rt <| tr ?_
    obtain rfl := si h
    exact ret1 hF rfl (rv_tmp hF rfl) ⟨_, rfl, rfl, hS⟩
   ·
    refine sk <| tn <| wq <| wq <| wg <| mv hF rfl rfl fun a hF => mv hF rfl rfl fun a hF => sv (v_lss hF rfl rfl) hF rfl fun a hF => nl <| tn <| wi hF rfl h (fun h => ?_) fun h => ?_
    ·
     refine wq <| wg <| av hF rfl rfl fun a hF => nl <| tn <| rt <| tr ?_
     obtain rfl := si h
     exact ret1 hF rfl (rv_tmp hF rfl) ⟨_, rfl, rfl, hS⟩
    ·
     refine sk <| tn <| wq <| wq <| wg <| mv hF rfl rfl fun a hF => mv hF rfl rfl fun a hF => sv (v_gtr hF rfl rfl) hF rfl fun a hF => nl <| tn <| wi hF rfl h (fun h => ?_) fun h => ?_
     ·
      refine wq <| wg <| av hF rfl rfl fun a hF => nl <| tn <| rt <| tr ?_
      obtain rfl := si h
      exact ret1 hF rfl (rv_tmp hF rfl) ⟨_, rfl, rfl, hS⟩
     ·
      refine sk <| tn <| wq <| wg <| av hF rfl rfl fun a hF => nl <| tn <| rt ?_
      obtain rfl := si h
      exact ret1 hF rfl (rv_tmp hF rfl) ⟨_, rfl, rfl, hS⟩

theorem ok_head_Compare (k : Nat) {M : Nat → Prop} {w0 : World} {u0 : Arr 12} {u1 : Arr 12} {o : Int} (hS : St M w0 [] [] [] w0) (h : head_Compare k u0 u1 = some o) :
    Calls Tryz.prog 281 #[.agg (A12u64.enc u0).toArray, .agg (A12u64.enc u1).toArray] w0 fun e W' => ∃ v, e = .returned v ∧ (v = .int .i64 (o) ∧ St M w0 [] [] [] W') := by
  unfold head_Compare at h
  refine cst Tryz.func281 rfl rfl rfl fun a hF => wq <| wg <| bv hF hS rfl rfl rfl fun b1 a W hF hS => bv hF hS rfl rfl rfl fun b2 a W hF hS => av hF rfl rfl fun a hF => nl <| tn <| wq ?_
  have hS := hS.freezeBox (i := 1) rfl
  have hS := hS.addFact (f := fSl (kInt .u64) (some (⟨b1, 0, none⟩)) 12 (A12u64.list u0)) (fBox_sl (xs := (A12u64.list u0)) (hS.fc (i := 0) rfl) rfl (by show 12 ≤ maxLen; decide))
  have hS := hS.freezeBox (i := 0) rfl
  have hS := hS.addFact (f := fSl (kInt .u64) (some (⟨b2, 0, none⟩)) 12 (A12u64.list u1)) (fBox_sl (xs := (A12u64.list u1)) (hS.fc (i := 0) rfl) rfl (by show 12 ≤ maxLen; decide))
  refine wp_drawn (QC M w0 [] [] [fSl (kInt .u64) (some (⟨b2, 0, none⟩)) 12 (A12u64.list u1), fBox b2 (A12u64.enc u1) 46, fSl (kInt .u64) (some (⟨b1, 0, none⟩)) 12 (A12u64.list u0), fBox b1 (A12u64.enc u0) 46]) (fun _ => false) rfl hS (fun W hB0 hR0 => ?_)
  have hS := hR0
  refine eqc ⟨Bl.refl _ _, hS⟩ fun hQC => e_val' 0 rfl (by kernel_rfl) (fun W => (v_sliceArr hF rfl par46)) hF rfl fun a hF => e_val' 1 rfl (by kernel_rfl) (fun W => (v_sliceArr hF rfl par46)) hF rfl fun a hF => e_one' 2 rfl (by kernel_rfl) ?_
  have hS := hS.addFact (f := fFn2 Tryz.prog 298 ([]) (kInt .u64) false (kInt .u64) false (fun (a0 : Int) (a1 : Int) => cmp_Compare_uint64 a0 a1) (fun y => .int .i64 y)) ⟨pc298, fun M' W' hs hv cs a0 cs2 a1 y hR hR2 hp => by obtain rfl := hR; obtain rfl := hR2; exact fromSt (ok_cmp_Compare_uint64 (St.ofAll hv trivial) hp)⟩
  obtain ⟨x3, hx4, h⟩ := bindS h
  refine sq_call hF pc297 rfl (by decide) (ok_slices_CompareFunc_uint64 k (u0 := (A12u64.list u0)) (A0_0 := (some (⟨b1, 0, none⟩))) (c0_0 := 12) (u1 := (A12u64.list u1)) (A1_0 := (some (⟨b2, 0, none⟩))) (c1_0 := 12) (hS.enter ⟨⟨3, rfl⟩, ⟨1, rfl⟩, ⟨0, rfl⟩, trivial⟩) hx4) (fun v W hR a hF => ?_)
  obtain ⟨rfl, hT5⟩ := hR
  have hS := hS.grow hT5.below
  refine sq_nil (then_j ⟨?_, ?_⟩)
  · exact fun hQ0 _ => hQ0.next hT5.below
  ·
   have hQC := hQC.next hT5.below
   refine e_val' 3 rfl (by kernel_rfl) (fun W => (v_assign hF rfl)) hF rfl fun a hF => e_done (by kernel_rfl) ?_ _
   refine tn <| rt ?_
   obtain rfl := si h
   exact ret1 hF rfl (rv_tmp hF rfl) ⟨_, rfl, rfl, (hS.keep sl sl trivial)⟩

theorem ok_cmp_Or_int (k : Nat) {M : Nat → Prop} {w0 : World} {u0 : List Int} {A0_0 : Option Addr} {c0_0 : Nat} {o : Int} (hS : St M w0 [] [] [fSl (kInt .i64) A0_0 c0_0 u0] w0) (h : cmp_Or_int k u0 = some o) :
    Calls Tryz.prog 231 #[.slice A0_0 ((u0).length) c0_0] w0 fun e W' => ∃ v, e = .returned v ∧ (v = .int .i64 (o) ∧ St M w0 [] [] [] W') := by
  unfold cmp_Or_int at h
  refine cst Tryz.func231 rfl rfl rfl fun a hF => wq <| wg <| av hF rfl rfl fun a hF => nl <| tn <| wq <| wg <| av hF rfl rfl fun a hF => nl <| tn <| wq <| wq <| wg <| mv hF rfl rfl fun a hF => sv (v_len hF rfl pu38) hF rfl fun a hF => mv hF rfl rfl fun a hF => nl <| tn ?_
  obtain ⟨o3, h, hk4⟩ := bindS h
  refine wp_join (fun a W => Lo.brk () = o3 ∧ FH 18 [(3, .int .i64 (0))] a ∧ St M w0 [] [] [] W) (fun a W hJ => ?_) ?_
  ·
   obtain ⟨rfl, hF, hS⟩ := hJ
   have h := hk4
   dsimp only at h
   refine tn <| wq <| wg <| mv hF rfl rfl fun a hF => av hF rfl rfl fun a hF => nl <| tn <| rt ?_
   obtain rfl := si h
   exact ret1 hF rfl (rv_tmp hF rfl) ⟨_, rfl, rfl, hS⟩
  ·
   refine wb <| wp_loop_fuel (I := fun m a W => ∃ (x2 : Int), FH 18 [(3, .int .i64 (0)), (6, .slice A0_0 ((u0).length) c0_0), (7, .int .i64 ((u0.length : Int))), (8, .int .i64 (x2))] a ∧ St M w0 [] [] [fSl (kInt .i64) A0_0 c0_0 u0] W ∧ (cmp_Or_int.l0 k u0 m x2) = some o3) ?_ (k := k) ⟨0, (hF.keep ⟨rfl, rfl, rfl, rfl, trivial⟩), hS, h⟩
   rintro m5 a W ⟨x2, hF, hS, h⟩
   cases m5 with
   | zero => cases h
   | succ m5 =>
    rw [cmp_Or_int.l0] at h
    refine wq <| wg <| sv (v_lss hF rfl rfl) hF rfl fun a hF => nl <| tn <| wq <| wi hF rfl h (fun h => ?_) fun h => ?_
    ·
     refine sk <| tn <| wq <| wb <| wq <| wg ?_
     obtain ⟨x7, hx8, h⟩ := bindS h
     obtain ⟨p9, cs10, hA11, hat12⟩ := SlR.at (hS.fc (i := 0) rfl) hx8
     obtain rfl : cs10 = [.int .i64 (x7)] := hat12.2.2.2
     have hS := hS.addFact (f := fAt (kInt .i64) (p9.add (x2.toNat * 1)) ([.int .i64 (x7)]) x7) hat12
     refine sv (v_idx hF rfl hA11 rfl psl38 hx8) hF rfl fun a hF => sv (v_load1 hF rfl pa3 (hS.pc (i := 0) rfl)) hF rfl fun a hF => av hF rfl rfl fun a hF => nl <| tn <| wq <| wg <| mv hF rfl rfl fun a hF => mv hF rfl rfl fun a hF => sv (v_neq hF rfl rfl) hF rfl fun a hF => nl <| tn <| wi hF rfl h (fun h => ?_) fun h => ?_
     ·
      refine wq <| wg <| mv hF rfl rfl fun a hF => av hF rfl rfl fun a hF => nl <| tn <| rt <| br <| tr <| tr <| br <| tr <| tr ?_
      obtain rfl := si h
      have h := hk4
      dsimp only at h
      obtain rfl := si h
      exact ret1 hF rfl (rv_tmp hF rfl) ⟨_, rfl, rfl, (hS.keep sl sl trivial)⟩
     ·
      exact sk <| bn <| tn <| wg <| sv (v_add hF rfl rfl) hF rfl fun a hF => mv hF rfl rfl fun a hF => nl <| then_j ⟨m5, Nat.lt_succ_self _, (IntKind.i64.wrap (x2 + 1)), (hF.keep ⟨rfl, rfl, rfl, rfl, trivial⟩), (hS.keep sl sl ⟨⟨1, rfl⟩, trivial⟩), h⟩
    ·
     refine wp_exit <| tx <| tx <| bh ?_
     obtain rfl := si h
     exact then_j ⟨rfl, (hF.keep ⟨rfl, trivial⟩), (hS.keep sl sl trivial)⟩

theorem ok_cube_Compare (k : Nat) {M : Nat → Prop} {w0 : World} {u0 : TCube} {u1 : TCube} {o : Int} (hS : St M w0 [] [] [] w0) (h : cube_Compare k u0 u1 = some o) :
    Calls Tryz.prog 233 #[.agg (TCube.enc u0).toArray, .agg (TCube.enc u1).toArray] w0 fun e W' => ∃ v, e = .returned v ∧ (v = .int .i64 (o) ∧ St M w0 [] [] [] W') := by
  unfold cube_Compare at h
  refine cst Tryz.func233 rfl rfl rfl fun a hF => wq <| wg <| bv hF hS rfl rfl rfl fun b1 a W hF hS => bv hF hS rfl rfl rfl fun b2 a W hF hS => av hF rfl rfl fun a hF => nl <| tn <| wq <| wp_drawn (fun _ => St M w0 [⟨b2, TCube.enc u1, 48⟩, ⟨b1, TCube.enc u0, 48⟩] [] []) (fun _ => false) rfl hS (fun W hB0 hR0 => ?_)
  have hS := hR0
  refine eqc hS fun hQC => e_val' 0 rfl (by kernel_rfl) (fun W => (v_fieldAddr hF rfl pf48_1)) hF rfl fun a hF => e_valS' 1 rfl (by kernel_rfl) (fun W hC => (v_load (cs := A12u64.enc u0.Care) hF rfl pa46 ps46 (cells_sub (vs := A12u64.enc u0.Care) (hC.bc (i := 1) rfl) rfl rfl))) hQC (by kernel_rfl) hF rfl fun a hF => e_val' 2 rfl (by kernel_rfl) (fun W => (v_fieldAddr hF rfl pf48_1)) hF rfl fun a hF => e_valS' 3 rfl (by kernel_rfl) (fun W hC => (v_load (cs := A12u64.enc u1.Care) hF rfl pa46 ps46 (cells_sub (vs := A12u64.enc u1.Care) (hC.bc (i := 0) rfl) rfl rfl))) hQC (by kernel_rfl) hF rfl fun a hF => e_val' 5 rfl (by kernel_rfl) (fun W => (v_fieldAddr hF rfl pf48_0)) hF rfl fun a hF => e_valS' 6 rfl (by kernel_rfl) (fun W hC => (v_load (cs := A12u64.enc u0.Value) hF rfl pa46 ps46 (cells_sub (vs := A12u64.enc u0.Value) (hC.bc (i := 1) rfl) rfl rfl))) hQC (by kernel_rfl) hF rfl fun a hF => e_val' 7 rfl (by kernel_rfl) (fun W => (v_fieldAddr hF rfl pf48_0)) hF rfl fun a hF => e_valS' 8 rfl (by kernel_rfl) (fun W hC => (v_load (cs := A12u64.enc u1.Value) hF rfl pa46 ps46 (cells_sub (vs := A12u64.enc u1.Value) (hC.bc (i := 0) rfl) rfl rfl))) hQC (by kernel_rfl) hF rfl fun a hF => e_one' 4 rfl (by kernel_rfl) ?_
  obtain ⟨x3, hx4, h⟩ := bindS h
  refine cl hF pc281 rfl rfl (ok_head_Compare k (hS.enter trivial) hx4) hS fun W a hF hS => sq_nil (then_j ⟨?_, ?_⟩)
  · exact fun _ _ => hS
  ·
   refine e_one' 9 rfl (by kernel_rfl) ?_
   obtain ⟨x6, hx7, h⟩ := bindS h
   refine cl hF pc281 rfl rfl (ok_head_Compare k (hS.enter trivial) hx7) hS fun W a hF hS => sq_nil (then_j ⟨?_, ?_⟩)
   · exact fun _ _ => hS
   ·
    refine e_one' 10 rfl (by kernel_rfl) <| sq_buildSlice (κ := (kInt .i64)) (xs := [.tmp 9, .tmp 14]) (ys := [x3, x6]) hF hS rfl rfl rfl (Els.cons rfl (Els.cons rfl (Els.nil _ _ _))) rfl psl38 pz3 rfl (by decide) (by decide) (by decide) (fun A9 c10 a W hF hS => ?_)
    refine sq_nil (then_j ⟨?_, ?_⟩)
    · exact fun _ _ => (hS.keep sl sn trivial)
    ·
     refine e_one' 11 rfl (by kernel_rfl) ?_
     obtain ⟨x11, hx12, h⟩ := bindS h
     refine cl hF pc231 rfl rfl (ok_cmp_Or_int k (u0 := [x3, x6]) (A0_0 := A9) (c0_0 := c10) ((hS.freeze (i := 0) rfl (posB rfl)).enter ⟨⟨0, rfl⟩, trivial⟩) hx12) hS fun W a hF hS => sq_nil (then_j ⟨?_, ?_⟩)
     · exact fun _ _ => (hS.keep sl sn trivial)
     ·
      refine e_val' 12 rfl (by kernel_rfl) (fun W => (v_assign hF rfl)) hF rfl fun a hF => e_done (by kernel_rfl) ?_ _
      refine tn <| rt ?_
      obtain rfl := si h
      exact ret1 hF rfl (rv_tmp hF rfl) ⟨_, rfl, rfl, (hS.keep sn sn trivial)⟩

theorem ok_rule_compare (k : Nat) {M : Nat → Prop} {w0 : World} {u0 : TRule} {A0_0 : Option Addr} {c0_0 : Nat} {u1 : TRule} {A1_0 : Option Addr} {c1_0 : Nat} {o : Int} (hS : St M w0 [] [] [fSl k_TAct A0_0 c0_0 u0.Acts, fSl k_TAct A1_0 c1_0 u1.Acts] w0) (h : rule_compare k u0 u1 = some o) :
    Calls Tryz.prog 289 #[.agg (TRule.enc u0 A0_0 c0_0).toArray, .agg (TRule.enc u1 A1_0 c1_0).toArray] w0 fun e W' => ∃ v, e = .returned v ∧ (v = .int .i64 (o) ∧ St M w0 [] [] [] W') := by
  unfold rule_compare at h
  refine cst Tryz.func289 rfl rfl rfl fun a hF => wq <| wg <| bv hF hS rfl rfl rfl fun b1 a W hF hS => bv hF hS rfl rfl rfl fun b2 a W hF hS => av hF rfl rfl fun a hF => nl <| tn <| wq <| wq <| wg <| fv hF rfl pf51_1 rfl fun a hF => lv hF rfl pa3 (hS.bc (i := 1) rfl) rfl rfl rfl fun a hF => fv hF rfl pf51_1 rfl fun a hF => lv hF rfl pa3 (hS.bc (i := 0) rfl) rfl rfl rfl fun a hF => sv (v_neq hF rfl rfl) hF rfl fun a hF => nl <| tn <| wi hF rfl h (fun h => ?_) fun h => ?_
  ·
   refine wq <| wq <| wg <| fv hF rfl pf51_1 rfl fun a hF => lv hF rfl pa3 (hS.bc (i := 1) rfl) rfl rfl rfl fun a hF => fv hF rfl pf51_1 rfl fun a hF => lv hF rfl pa3 (hS.bc (i := 0) rfl) rfl rfl rfl fun a hF => sv (v_gtr hF rfl rfl) hF rfl fun a hF => nl <| tn <| wi hF rfl h (fun h => ?_) fun h => ?_
   ·
    refine wq <| wg <| av hF rfl rfl fun a hF => nl <| tn <| rt <| tr <| tr ?_
    obtain rfl := si h
    exact ret1 hF rfl (rv_tmp hF rfl) ⟨_, rfl, rfl, (hS.keep sn sl trivial)⟩
   ·
    refine sk <| tn <| wq <| wg <| av hF rfl rfl fun a hF => nl <| tn <| rt <| tr ?_
    obtain rfl := si h
    exact ret1 hF rfl (rv_tmp hF rfl) ⟨_, rfl, rfl, (hS.keep sn sl trivial)⟩
  ·
   refine sk <| tn <| wq <| wg <| fv hF rfl pf51_0 rfl fun a hF => sv (v_load (cs := TCube.enc u0.Match) hF rfl pa48 ps48 (cells_sub (vs := TCube.enc u0.Match) (hS.bc (i := 1) rfl) rfl rfl)) hF rfl fun a hF => fv hF rfl pf51_0 rfl fun a hF => sv (v_load (cs := TCube.enc u1.Match) hF rfl pa48 ps48 (cells_sub (vs := TCube.enc u1.Match) (hS.bc (i := 0) rfl) rfl rfl)) hF rfl fun a hF => ?_
   obtain ⟨x5, hx6, h⟩ := bindS h
   refine cl hF pc233 rfl rfl (ok_cube_Compare k (hS.enter trivial) hx6) hS fun W a hF hS => av hF rfl rfl fun a hF => nl <| tn <| rt ?_
   obtain rfl := si h
   exact ret1 hF rfl (rv_tmp hF rfl) ⟨_, rfl, rfl, (hS.keep sn sl trivial)⟩

theorem ok_rule_Before (k : Nat) {M : Nat → Prop} {w0 : World} {u0 : TRule} {A0_0 : Option Addr} {c0_0 : Nat} {u1 : TRule} {A1_0 : Option Addr} {c1_0 : Nat} {o : Bool} (hS : St M w0 [] [] [fSl k_TAct A0_0 c0_0 u0.Acts, fSl k_TAct A1_0 c1_0 u1.Acts] w0) (h : rule_Before k u0 u1 = some o) :
    Calls Tryz.prog 249 #[.agg (TRule.enc u0 A0_0 c0_0).toArray, .agg (TRule.enc u1 A1_0 c1_0).toArray] w0 fun e W' => ∃ v, e = .returned v ∧ (v = .bool (o) ∧ St M w0 [] [] [] W') := by
  unfold rule_Before at h
  refine cst Tryz.func249 rfl rfl rfl fun a hF => wq <| wg <| bv hF hS rfl rfl rfl fun b1 a W hF hS => bv hF hS rfl rfl rfl fun b2 a W hF hS => av hF rfl rfl fun a hF => nl <| tn <| wq <| wg <| sv (v_load (cs := TRule.enc u0 A0_0 c0_0) hF rfl pa51 ps51 (hS.bc (i := 1) rfl)) hF rfl fun a hF => sv (v_load (cs := TRule.enc u1 A1_0 c1_0) hF rfl pa51 ps51 (hS.bc (i := 0) rfl)) hF rfl fun a hF => ?_
  obtain ⟨x3, hx4, h⟩ := bindS h
  refine cl hF pc289 rfl rfl (ok_rule_compare k (hS.enter ⟨⟨0, rfl⟩, ⟨1, rfl⟩, trivial⟩) hx4) hS fun W a hF hS => sv (v_lss hF rfl rfl) hF rfl fun a hF => av hF rfl rfl fun a hF => nl <| tn <| rt ?_
  obtain rfl := si h
  exact ret1 hF rfl (rv_tmp hF rfl) ⟨_, rfl, rfl, (hS.keep sn sl trivial)⟩

theorem ok_rule_Table (k : Nat) {M : Nat → Prop} {w0 : World} {u0 : List TRule} {A0_0 : Option Addr} {c0_0 : Nat} {o : Bool} (hS : St M w0 [] [] [fSl k_TRule A0_0 c0_0 u0] w0) (h : rule_Table k u0 = some o) :
    Calls Tryz.prog 205 #[.slice A0_0 ((u0).length) c0_0] w0 fun e W' => ∃ v, e = .returned v ∧ (v = .bool (o) ∧ St M w0 [] [] [] W') := by
  unfold rule_Table at h
  refine cst Tryz.func205 rfl rfl rfl fun a hF => wq <| wg <| av hF rfl rfl fun a hF => nl <| tn <| wq <| wq <| wg <| mv hF rfl rfl fun a hF => sv (v_len hF rfl pu26) hF rfl fun a hF => mv hF rfl rfl fun a hF => nl <| tn ?_
  obtain ⟨o3, h, hk4⟩ := bindS h
  refine wp_join (fun a W => Lo.brk () = o3 ∧ FH 30 [] a ∧ St M w0 [] [] [] W) (fun a W hJ => ?_) ?_
  ·
   obtain ⟨rfl, hF, hS⟩ := hJ
   have h := hk4
   dsimp only at h
   refine tn <| wq <| wg <| av hF rfl rfl fun a hF => nl <| tn <| rt ?_
   obtain rfl := si h
   exact ret1 hF rfl (rv_tmp hF rfl) ⟨_, rfl, rfl, hS⟩
  ·
   refine wb <| wp_loop_fuel (I := fun m a W => ∃ (x2 : Int), FH 30 [(0, .slice A0_0 ((u0).length) c0_0), (5, .slice A0_0 ((u0).length) c0_0), (6, .int .i64 ((u0.length : Int))), (7, .int .i64 (x2))] a ∧ St M w0 [] [] [fSl k_TRule A0_0 c0_0 u0] W ∧ (rule_Table.l0 k u0 m x2) = some o3) ?_ (k := k) ⟨0, (hF.keep ⟨rfl, rfl, rfl, rfl, trivial⟩), hS, h⟩
   rintro m5 a W ⟨x2, hF, hS, h⟩
   cases m5 with
   | zero => cases h
   | succ m5 =>
    rw [rule_Table.l0] at h
    refine wq <| wg <| sv (v_lss hF rfl rfl) hF rfl fun a hF => nl <| tn <| wq <| wi hF rfl h (fun h => ?_) fun h => ?_
    ·
     refine sk <| tn <| wq <| wb <| wq <| wg <| mv hF rfl rfl fun a hF => ?_
     obtain ⟨x7, hx8, h⟩ := bindS h
     obtain ⟨p9, cs10, hA11, hat12⟩ := SlR.at (hS.fc (i := 0) rfl) hx8
     obtain ⟨A13, c14, rfl, hs15⟩ := hat12.2.2.2
     have hS := hS.addFact (f := fAt k_TRule (p9.add (x2.toNat * 32)) (TRule.enc x7 A13 c14) x7) hat12
     have hS := hS.addFact (f := fSl k_TAct A13 c14 x7.Acts) hs15
     refine sv (v_idx hF rfl hA11 rfl psl26 hx8) hF rfl fun a hF => sv (v_load (cs := TRule.enc x7 A13 c14) hF rfl pa51 ps51 (hS.pc (i := 1) rfl)) hF rfl fun a hF => al hF hS pz51 rfl rfl fun b16 a W hF hS => av hF rfl rfl fun a hF => sq_store (o := 0) (vs := TRule.enc x7 A13 c14) (cs' := TRule.enc x7 A13 c14) hF hS rfl rfl (i := 0) rfl rfl rfl ps51 (TRule.enc_one _ _ _) (bl rfl) rfl fun W hS => nl <| tn <| wq <| wp_quiet rfl (by kernel_rfl) hS <| qv (fun W hC => (v_load (cs := TRule.enc x7 A13 c14) hF rfl pa51 ps51 (hC.2.bc (i := 0) rfl))) hF rfl fun a hF => ?_
     obtain ⟨x17, hx18, h⟩ := bindS h
     refine qt_call hF pc248 rfl (by decide) (fun W hC => q_of hC (ok_rule_Sound k (hC.2.enter ⟨⟨0, rfl⟩, trivial⟩) hx18)) (fun a hF => ?_)
     refine qv (fun W hC => (v_not hF rfl)) hF rfl fun a hF => qv (fun W hC => (v_move hF rfl)) hF rfl fun a hF => ?_
     obtain ⟨x20, h, hk22⟩ := bindS h
     refine qt_cut 13 (fun a => FH 30 [(0, .slice A0_0 ((u0).length) c0_0), (5, .slice A0_0 ((u0).length) c0_0), (6, .int .i64 ((u0.length : Int))), (7, .int .i64 (x2)), (28, .bool x20)] a) (fun a hF => ?_) ?_
     ·
      have h := hk22
      refine qn ?_
      intro W hC
      have hS := hC.2
      refine tn <| wi hF rfl h (fun h => ?_) fun h => ?_
      ·
       refine wq <| wg <| av hF rfl rfl fun a hF => nl <| tn <| rt <| br <| tr <| tr <| br <| tr <| tr ?_
       obtain rfl := si h
       have h := hk4
       dsimp only at h
       obtain rfl := si h
       exact ret1 hF rfl (rv_tmp hF rfl) ⟨_, rfl, rfl, (hS.keep sn sl trivial)⟩
      ·
       exact sk <| bn <| tn <| wg <| sv (v_add hF rfl rfl) hF rfl fun a hF => mv hF rfl rfl fun a hF => nl <| then_j ⟨m5, Nat.lt_succ_self _, (IntKind.i64.wrap (x2 + 1)), (hF.keep ⟨rfl, rfl, rfl, rfl, trivial⟩), (hS.keep sn sl ⟨⟨2, rfl⟩, trivial⟩), h⟩
     ·
      by_cases he19 : (!x17) = true
      ·
       replace h := ifT he19 h
       refine qt_no hF rfl rfl he19 (by decide) (fun a hF => ?_)
       refine qt_no hF rfl rfl he19 (by decide) (fun a hF => ?_)
       refine qt_no hF rfl rfl he19 (by decide) (fun a hF => ?_)
       refine qt_no2 hF rfl rfl (by decide) (fun a hF => ?_)
       refine qt_no2 hF rfl rfl (by decide) (fun a hF => ?_)
       refine qt_no2 hF rfl rfl (by decide) (fun a hF => ?_)
       refine qt_no2 hF rfl rfl (by decide) (fun a hF => ?_)
       refine qt_no2 hF rfl rfl (by decide) (fun a hF => ?_)
       refine qt_no2 hF rfl rfl (by decide) (fun a hF => ?_)
       refine qt_no2 hF rfl rfl (by decide) (fun a hF => ?_)
       refine qt_no2 hF rfl rfl (by decide) (fun a hF => ?_)
       refine qt_no hF rfl rfl he19 (by decide) (fun a hF => ?_)
       refine qv (fun W hC => (v_pick_t hF rfl he19 rfl)) hF rfl fun a hF => ?_
       obtain rfl := si h
       exact qt_nil (hF.keep ⟨rfl, rfl, rfl, rfl, rfl, trivial⟩)
      ·
       have he19 : (!x17) = false := nB he19
       replace h := ifF he19 h
       refine qt_yes hF rfl rfl he19 <| qv (fun W hC => (v_move hF rfl)) hF rfl fun a hF => qt_yes hF rfl rfl he19 <| qv (fun W hC => (v_gtr hF rfl rfl)) hF rfl fun a hF => qt_yes hF rfl rfl he19 <| qv (fun W hC => (v_move hF rfl)) hF rfl fun a hF => ?_
       obtain ⟨x24, h, hk26⟩ := bindS h
       refine qt_cut 9 (fun a => FH 30 [(0, .slice A0_0 ((u0).length) c0_0), (5, .slice A0_0 ((u0).length) c0_0), (6, .int .i64 ((u0.length : Int))), (7, .int .i64 (x2)), (15, .bool ((!x17))), (16, .int .i64 (x2)), (17, .bool ((decide (0 < x2)))), (18, .bool ((decide (0 < x2)))), (27, .bool x24)] a) (fun a hF => ?_) ?_
       ·
        have h := hk26
        refine qv (fun W hC => (v_pick_f hF rfl he19 rfl)) hF rfl fun a hF => ?_
        obtain rfl := si h
        exact qt_nil (hF.keep ⟨rfl, rfl, rfl, rfl, rfl, trivial⟩)
       ·
        by_cases he23 : (decide (0 < x2)) = true
        ·
         replace h := ifT he23 h
         refine qt_yes hF rfl rfl he23 <| qv (fun W hC => (v_move hF rfl)) hF rfl fun a hF => qt_yes hF rfl rfl he23 <| qv (fun W hC => (v_move hF rfl)) hF rfl fun a hF => qt_yes hF rfl rfl he23 <| qv (fun W hC => (v_sub hF rfl rfl)) hF rfl fun a hF => qt_yes hF rfl rfl he23 ?_
         obtain ⟨x27, hx28, h⟩ := bindS h
         obtain ⟨p29, cs30, hA31, hat32⟩ := SlR.at (hS.fc (i := 2) rfl) hx28
         obtain ⟨A33, c34, rfl, hs35⟩ := hat32.2.2.2
         refine qv (fun W hC => (v_idx hF rfl hA31 rfl psl26 hx28)) hF rfl fun a hF => qt_yes hF rfl rfl he23 <| qv (fun W hC => (v_load (cs := TRule.enc x27 A33 c34) hF rfl pa51 ps51 (hat32.2.2.1.grow hC.1))) hF rfl fun a hF => qt_yes hF rfl rfl he23 <| qv (fun W hC => (v_load (cs := TRule.enc x7 A13 c14) hF rfl pa51 ps51 (hC.2.bc (i := 0) rfl))) hF rfl fun a hF => qt_yes hF rfl rfl he23 ?_
         obtain ⟨x36, hx37, h⟩ := bindS h
         refine qt_call hF pc249 rfl (by decide) (fun W hC => q_of hC (ok_rule_Before k ((hC.2.addFact (f := fSl k_TAct A33 c34 x27.Acts) ((fSl k_TAct A33 c34 x27.Acts).st hs35 (Stp.below hC.1))).enter ⟨⟨0, rfl⟩, ⟨1, rfl⟩, trivial⟩) hx37)) (fun a hF => ?_)
         refine qt_yes hF rfl rfl he23 <| qv (fun W hC => (v_not hF rfl)) hF rfl fun a hF => qt_yes hF rfl rfl he19 <| qv (fun W hC => (v_pick_t hF rfl he23 rfl)) hF rfl fun a hF => ?_
         obtain rfl := si h
         exact qt_nil (hF.keep ⟨rfl, rfl, rfl, rfl, rfl, rfl, rfl, rfl, rfl, trivial⟩)
        ·
         have he23 : (decide (0 < x2)) = false := nB he23
         replace h := ifF he23 h
         refine qt_no hF rfl rfl he23 (by decide) (fun a hF => ?_)
         refine qt_no hF rfl rfl he23 (by decide) (fun a hF => ?_)
         refine qt_no hF rfl rfl he23 (by decide) (fun a hF => ?_)
         refine qt_no hF rfl rfl he23 (by decide) (fun a hF => ?_)
         refine qt_no hF rfl rfl he23 (by decide) (fun a hF => ?_)
         refine qt_no hF rfl rfl he23 (by decide) (fun a hF => ?_)
         refine qt_no hF rfl rfl he23 (by decide) (fun a hF => ?_)
         refine qt_no hF rfl rfl he23 (by decide) (fun a hF => ?_)
         refine qt_yes hF rfl rfl he19 <| qv (fun W hC => (v_pick_f hF rfl he23 rfl)) hF rfl fun a hF => ?_
         obtain rfl := si h
         exact qt_nil (hF.keep ⟨rfl, rfl, rfl, rfl, rfl, rfl, rfl, rfl, rfl, trivial⟩)
    ·
     refine wp_exit <| tx <| tx <| bh ?_
     obtain rfl := si h
     exact then_j ⟨rfl, (hF.keep trivial), (hS.keep sl sl trivial)⟩

theorem ok_mods_span {M : Nat → Prop} {w0 : World} {u0 : Int} {u1 : Int} {o : Bool} (hS : St M w0 [] [] [] w0) (h : mods_span u0 u1 = some o) :
    Calls Tryz.prog 246 #[.int .i64 (u0), .int .i64 (u1)] w0 fun e W' => ∃ v, e = .returned v ∧ (v = .bool (o) ∧ St M w0 [] [] [] W') := by
  unfold mods_span at h
  refine cst Tryz.func246 rfl rfl rfl fun a hF => wq <| wg <| av hF rfl rfl fun a hF => nl <| tn <| wq <| wg <| mv hF rfl rfl fun a hF => sv (v_geq hF rfl rfl) hF rfl fun a hF => mv hF rfl rfl fun a hF => gand 3 2 7 ((decide (u0 ≤ u1))) hF rfl rfl rfl rfl rfl (fun _ => ?_) (fun a hF => ?_)
  ·
   exact mv hF rfl rfl fun a hF => mv hF rfl rfl fun a hF => sv (v_leq hF rfl rfl) hF rfl fun a hF => gq 3 hF rfl rfl rfl
  ·
   refine av hF rfl rfl fun a hF => nl <| tn <| rt ?_
   obtain rfl := si h
   exact ret1 hF rfl (rv_tmp hF rfl) ⟨_, rfl, rfl, hS⟩

theorem ok_mods_plain {M : Nat → Prop} {w0 : World} {u0 : TMod} {A0_0 : Option Addr} {c0_0 : Nat} {o : Bool} (hS : St M w0 [] [] [fSl k_TAct A0_0 c0_0 u0.Acts] w0) (h : mods_plain u0 = some o) :
    Calls Tryz.prog 247 #[.agg (TMod.enc u0 A0_0 c0_0).toArray] w0 fun e W' => ∃ v, e = .returned v ∧ (v = .bool (o) ∧ St M w0 [] [] [] W') := by
  unfold mods_plain at h
  refine cst Tryz.func247 rfl rfl rfl fun a hF => wq <| wg <| bv hF hS rfl rfl rfl fun b1 a W hF hS => av hF rfl rfl fun a hF => nl <| tn <| wq <| wg <| fv hF rfl pf57_4 rfl fun a hF => lv hF rfl pa3 (hS.bc (i := 0) rfl) rfl rfl rfl fun a hF => sv (v_eql hF rfl rfl) hF rfl fun a hF => mv hF rfl rfl fun a hF => gand 3 3 6 ((u0.Hard == 0)) hF rfl rfl rfl rfl rfl (fun _ => ?_) (fun a hF => ?_)
  ·
   exact fv hF rfl pf57_5 rfl fun a hF => lv hF rfl pa3 (hS.bc (i := 0) rfl) rfl rfl rfl fun a hF => sv (v_eql hF rfl rfl) hF rfl fun a hF => gq 3 hF rfl rfl rfl
  ·
   refine mv hF rfl rfl fun a hF => gand 3 8 11 ((!u0.Check)) hF rfl rfl rfl rfl rfl (fun _ => ?_) (fun a hF => ?_)
   ·
    exact fv hF rfl pf57_7 rfl fun a hF => lv hF rfl pa4 (hS.bc (i := 0) rfl) rfl rfl rfl fun a hF => sv (v_not hF rfl) hF rfl fun a hF => gq 3 hF rfl rfl rfl
   ·
    refine av hF rfl rfl fun a hF => nl <| tn <| rt ?_
    obtain rfl := si h
    exact ret1 hF rfl (rv_tmp hF rfl) ⟨_, rfl, rfl, (hS.keep sn sl trivial)⟩

theorem ok_mods_Sound (k : Nat) {M : Nat → Prop} {w0 : World} {u0 : TMod} {A0_0 : Option Addr} {c0_0 : Nat} {o : Bool} (hS : St M w0 [] [] [fSl k_TAct A0_0 c0_0 u0.Acts] w0) (h : mods_Sound k u0 = some o) :
    Calls Tryz.prog 204 #[.agg (TMod.enc u0 A0_0 c0_0).toArray] w0 fun e W' => ∃ v, e = .returned v ∧ (v = .bool (o) ∧ St M w0 [] [] [] W') := by
  unfold mods_Sound at h
  refine cst Tryz.func204 rfl rfl rfl fun a hF => wq <| wg <| bv hF hS rfl rfl rfl fun b1 a W hF hS => av hF rfl rfl fun a hF => nl <| tn <| wq <| wq <| wg <| fv hF rfl pf57_1 rfl fun a hF => sv (v_load (cs := TCube.enc u0.Match) hF rfl pa48 ps48 (cells_sub (vs := TCube.enc u0.Match) (hS.bc (i := 0) rfl) rfl rfl)) hF rfl fun a hF => ?_
  obtain ⟨x2, hx3, h⟩ := bindS h
  refine cl hF pc171 rfl rfl (ok_cube_Sound k (hS.enter trivial) hx3) hS fun W a hF hS => sv (v_not hF rfl) hF rfl fun a hF => mv hF rfl rfl fun a hF => gorB 4 4 7 hF hS h rfl rfl rfl rfl rfl (fun r7 h => ?_) (fun x6 a W h hF hS => ?_)
  ·
   refine fv hF rfl pf57_3 rfl fun a hF => lv hF rfl pa49 (hS.bc (i := 0) rfl) rfl rfl rfl fun a hF => ?_
   obtain ⟨x8, hx9, h⟩ := bindS h
   refine cl hF pc200 rfl rfl (ok_act_Sound k (hS.enter ⟨⟨0, rfl⟩, trivial⟩) hx9) hS fun W a hF hS => sv (v_not hF rfl) hF rfl fun a hF => ?_
   obtain rfl := si h
   exact gs 4 hF hS rfl rfl rfl
  ·
   refine mv hF rfl rfl fun a hF => gorB 4 10 13 hF hS h rfl rfl rfl rfl rfl (fun r13 h => ?_) (fun x12 a W h hF hS => ?_)
   ·
    refine fv hF rfl pf57_2 rfl fun a hF => lv hF rfl pa3 (hS.bc (i := 0) rfl) rfl rfl rfl fun a hF => ?_
    obtain ⟨x14, hx15, h⟩ := bindS h
    refine cl hF pc246 rfl rfl (ok_mods_span (hS.enter trivial) hx15) hS fun W a hF hS => sv (v_not hF rfl) hF rfl fun a hF => ?_
    obtain rfl := si h
    exact gs 4 hF hS rfl rfl rfl
   ·
    refine mv hF rfl rfl fun a hF => gorB 4 16 19 hF hS h rfl rfl rfl rfl rfl (fun r19 h => ?_) (fun x18 a W h hF hS => ?_)
    ·
     refine fv hF rfl pf57_6 rfl fun a hF => lv hF rfl pa3 (hS.bc (i := 0) rfl) rfl rfl rfl fun a hF => ?_
     obtain ⟨x20, hx21, h⟩ := bindS h
     refine cl hF pc246 rfl rfl (ok_mods_span (hS.enter trivial) hx21) hS fun W a hF hS => sv (v_not hF rfl) hF rfl fun a hF => ?_
     obtain rfl := si h
     exact gs 4 hF hS rfl rfl rfl
    ·
     refine nl <| tn <| wi hF rfl h (fun h => ?_) fun h => ?_
     ·
      refine wq <| wg <| av hF rfl rfl fun a hF => nl <| tn <| rt <| tr ?_
      obtain rfl := si h
      exact ret1 hF rfl (rv_tmp hF rfl) ⟨_, rfl, rfl, (hS.keep sn sl trivial)⟩
     ·
      refine sk <| tn <| wq <| wq <| wg <| fv hF rfl pf57_0 rfl fun a hF => lv hF rfl pa3 (hS.bc (i := 0) rfl) rfl rfl rfl fun a hF => nl <| tn <| wb <| wq <| wg <| sv (v_eql hF rfl rfl) hF rfl fun a hF => av hF rfl rfl fun a hF => nl <| tn <| wi hF rfl h (fun h => ?_) fun h => ?_
      ·
       refine wq <| wg <| fv hF rfl pf57_4 rfl fun a hF => lv hF rfl pa3 (hS.bc (i := 0) rfl) rfl rfl rfl fun a hF => ?_
       obtain ⟨x25, hx26, h⟩ := bindS h
       refine cl hF pc246 rfl rfl (ok_mods_span (hS.enter trivial) hx26) hS fun W a hF hS => mv hF rfl rfl fun a hF => gandB 3 3 32 hF hS h rfl rfl rfl rfl rfl (fun r30 h => ?_) (fun x29 a W h hF hS => ?_)
       ·
        refine fv hF rfl pf57_5 rfl fun a hF => lv hF rfl pa3 (hS.bc (i := 0) rfl) rfl rfl rfl fun a hF => ?_
        obtain ⟨x31, hx32, h⟩ := bindS h
        refine cl hF pc246 rfl rfl (ok_mods_span (hS.enter trivial) hx32) hS fun W a hF hS => ?_
        obtain rfl := si h
        exact gs 3 hF hS rfl rfl rfl
       ·
        refine av hF rfl rfl fun a hF => nl <| tn <| rt <| br <| tr ?_
        obtain rfl := si h
        exact ret1 hF rfl (rv_tmp hF rfl) ⟨_, rfl, rfl, (hS.keep sn sl trivial)⟩
      ·
       refine wq <| wg <| sv (v_eql hF rfl rfl) hF rfl fun a hF => av hF rfl rfl fun a hF => nl <| tn <| wi hF rfl h (fun h => ?_) fun h => ?_
       ·
        refine wq <| wg <| sv (v_load (cs := TMod.enc u0 A0_0 c0_0) hF rfl pa57 ps57 (hS.bc (i := 0) rfl)) hF rfl fun a hF => ?_
        obtain ⟨x35, hx36, h⟩ := bindS h
        refine cl hF pc247 rfl rfl (ok_mods_plain (hS.enter ⟨⟨0, rfl⟩, trivial⟩) hx36) hS fun W a hF hS => mv hF rfl rfl fun a hF => gand 3 2 41 ((u0.Prio == 0)) hF rfl rfl rfl rfl rfl (fun _ => ?_) (fun a hF => ?_)
        ·
         exact fv hF rfl pf57_2 rfl fun a hF => lv hF rfl pa3 (hS.bc (i := 0) rfl) rfl rfl rfl fun a hF => sv (v_eql hF rfl rfl) hF rfl fun a hF => gq 3 hF rfl rfl rfl
        ·
         refine av hF rfl rfl fun a hF => nl <| tn <| rt <| br <| tr ?_
         obtain rfl := si h
         exact ret1 hF rfl (rv_tmp hF rfl) ⟨_, rfl, rfl, (hS.keep sn sl trivial)⟩
       ·
        refine wq <| wg <| sv (v_eql hF rfl rfl) hF rfl fun a hF => av hF rfl rfl fun a hF => nl <| tn <| wi hF rfl h (fun h => ?_) fun h => ?_
        ·
         refine wq <| wg <| sv (v_load (cs := TMod.enc u0 A0_0 c0_0) hF rfl pa57 ps57 (hS.bc (i := 0) rfl)) hF rfl fun a hF => ?_
         obtain ⟨x40, hx41, h⟩ := bindS h
         refine cl hF pc247 rfl rfl (ok_mods_plain (hS.enter ⟨⟨0, rfl⟩, trivial⟩) hx41) hS fun W a hF hS => mv hF rfl rfl fun a hF => gand 3 2 50 ((u0.Prio == 0)) hF rfl rfl rfl rfl rfl (fun _ => ?_) (fun a hF => ?_)
         ·
          exact fv hF rfl pf57_2 rfl fun a hF => lv hF rfl pa3 (hS.bc (i := 0) rfl) rfl rfl rfl fun a hF => sv (v_eql hF rfl rfl) hF rfl fun a hF => gq 3 hF rfl rfl rfl
         ·
          refine mv hF rfl rfl fun a hF => gand 4 7 55 (((u0.Acts.length : Int) == 0)) hF rfl rfl rfl rfl rfl (fun _ => ?_) (fun a hF => ?_)
          ·
           exact fv hF rfl pf57_3 rfl fun a hF => lv hF rfl pa49 (hS.bc (i := 0) rfl) rfl rfl rfl fun a hF => sv (v_len hF rfl pu49) hF rfl fun a hF => sv (v_eql hF rfl rfl) hF rfl fun a hF => gq 4 hF rfl rfl rfl
          ·
           refine av hF rfl rfl fun a hF => nl <| tn <| rt <| br <| tr ?_
           obtain rfl := si h
           exact ret1 hF rfl (rv_tmp hF rfl) ⟨_, rfl, rfl, (hS.keep sn sl trivial)⟩
        ·
         refine wq <| wg <| sv (v_eql hF rfl rfl) hF rfl fun a hF => av hF rfl rfl fun a hF => nl <| tn <| wi hF rfl h (fun h => ?_) fun h => ?_
         ·
          refine wq <| wg <| sv (v_load (cs := TMod.enc u0 A0_0 c0_0) hF rfl pa57 ps57 (hS.bc (i := 0) rfl)) hF rfl fun a hF => ?_
          obtain ⟨x46, hx47, h⟩ := bindS h
          refine cl hF pc247 rfl rfl (ok_mods_plain (hS.enter ⟨⟨0, rfl⟩, trivial⟩) hx47) hS fun W a hF hS => av hF rfl rfl fun a hF => nl <| tn <| rt <| br <| tr ?_
          obtain rfl := si h
          exact ret1 hF rfl (rv_tmp hF rfl) ⟨_, rfl, rfl, (hS.keep sn sl trivial)⟩
         ·
          refine wq <| wg <| sv (v_eql hF rfl rfl) hF rfl fun a hF => av hF rfl rfl fun a hF => nl <| tn <| wi hF rfl h (fun h => ?_) fun h => ?_
          ·
           refine wq <| wg <| sv (v_load (cs := TMod.enc u0 A0_0 c0_0) hF rfl pa57 ps57 (hS.bc (i := 0) rfl)) hF rfl fun a hF => ?_
           obtain ⟨x50, hx51, h⟩ := bindS h
           refine cl hF pc247 rfl rfl (ok_mods_plain (hS.enter ⟨⟨0, rfl⟩, trivial⟩) hx51) hS fun W a hF hS => mv hF rfl rfl fun a hF => gand 4 2 69 (((u0.Acts.length : Int) == 0)) hF rfl rfl rfl rfl rfl (fun _ => ?_) (fun a hF => ?_)
           ·
            exact fv hF rfl pf57_3 rfl fun a hF => lv hF rfl pa49 (hS.bc (i := 0) rfl) rfl rfl rfl fun a hF => sv (v_len hF rfl pu49) hF rfl fun a hF => sv (v_eql hF rfl rfl) hF rfl fun a hF => gq 4 hF rfl rfl rfl
           ·
            refine av hF rfl rfl fun a hF => nl <| tn <| rt <| br <| tr ?_
            obtain rfl := si h
            exact ret1 hF rfl (rv_tmp hF rfl) ⟨_, rfl, rfl, (hS.keep sn sl trivial)⟩
          ·
           refine sk <| bn <| tn <| wq <| wg <| av hF rfl rfl fun a hF => nl <| tn <| rt ?_
           obtain rfl := si h
           exact ret1 hF rfl (rv_tmp hF rfl) ⟨_, rfl, rfl, (hS.keep sn sl trivial)⟩

theorem ok_mods_Rule {M : Nat → Prop} {w0 : World} {u0 : TMod} {A0_0 : Option Addr} {c0_0 : Nat} {o : TRule} (hS : St M w0 [] [] [fSl k_TAct A0_0 c0_0 u0.Acts] w0) (h : mods_Rule u0 = some o) :
    Calls Tryz.prog 251 #[.agg (TMod.enc u0 A0_0 c0_0).toArray] w0 fun e W' => ∃ v, e = .returned v ∧ (∃ (A12 : Option Addr) (c13 : Nat), v = .agg (TRule.enc o A12 c13).toArray ∧ St M w0 [] [] [fSl k_TAct A12 c13 o.Acts] W') := by
  unfold mods_Rule at h
  refine cst Tryz.func251 rfl rfl rfl fun a hF => wq <| wg <| bv hF hS rfl rfl rfl fun b1 a W hF hS => al hF hS pz51 rfl rfl fun b2 a W hF hS => nl <| tn <| wq <| wp_drawn (fun _ => St M w0 [⟨b2, TRule.enc TRule.zero none 0, 51⟩, ⟨b1, TMod.enc u0 A0_0 c0_0, 57⟩] [] [fSl k_TAct A0_0 c0_0 u0.Acts]) (fun q => Nat.beq q 15) rfl hS (fun W hB0 hR0 => ?_)
  have hS := hR0
  refine eqc hS fun hQC => e_val' 0 rfl (by kernel_rfl) (fun W => (v_fieldAddr hF rfl pf57_1)) hF rfl fun a hF => e_valS' 1 rfl (by kernel_rfl) (fun W hC => (v_load (cs := TCube.enc u0.Match) hF rfl pa48 ps48 (cells_sub (vs := TCube.enc u0.Match) (hC.bc (i := 1) rfl) rfl rfl))) hQC (by kernel_rfl) hF rfl fun a hF => e_val' 2 rfl (by kernel_rfl) (fun W => (v_fieldAddr hF rfl pf57_2)) hF rfl fun a hF => e_valS' 3 rfl (by kernel_rfl) (fun W hC => (v_load1 hF rfl pa3 (cells_sub (vs := [.int .i64 (u0.Prio)]) (hC.bc (i := 1) rfl) rfl rfl))) hQC (by kernel_rfl) hF rfl fun a hF => e_val' 4 rfl (by kernel_rfl) (fun W => (v_fieldAddr hF rfl pf57_3)) hF rfl fun a hF => e_valS' 5 rfl (by kernel_rfl) (fun W hC => (v_load1 hF rfl pa49 (cells_sub (vs := [.slice A0_0 ((u0.Acts).length) c0_0]) (hC.bc (i := 1) rfl) rfl rfl))) hQC (by kernel_rfl) hF rfl fun a hF => e_val' 8 rfl (by kernel_rfl) (fun W => (v_fieldAddr hF rfl pf57_4)) hF rfl fun a hF => e_valS' 9 rfl (by kernel_rfl) (fun W hC => (v_load1 hF rfl pa3 (cells_sub (vs := [.int .i64 (u0.Idle)]) (hC.bc (i := 1) rfl) rfl rfl))) hQC (by kernel_rfl) hF rfl fun a hF => e_val' 10 rfl (by kernel_rfl) (fun W => (v_fieldAddr hF rfl pf57_5)) hF rfl fun a hF => e_valS' 11 rfl (by kernel_rfl) (fun W hC => (v_load1 hF rfl pa3 (cells_sub (vs := [.int .i64 (u0.Hard)]) (hC.bc (i := 1) rfl) rfl rfl))) hQC (by kernel_rfl) hF rfl fun a hF => e_val' 12 rfl (by kernel_rfl) (fun W => (v_fieldAddr hF rfl pf57_6)) hF rfl fun a hF => e_valS' 13 rfl (by kernel_rfl) (fun W hC => (v_load1 hF rfl pa3 (cells_sub (vs := [.int .i64 (u0.Owner)]) (hC.bc (i := 1) rfl) rfl rfl))) hQC (by kernel_rfl) hF rfl fun a hF => ?_
  refine e_one' 6 rfl (by kernel_rfl) ?_
  obtain ⟨x3, hx4, h⟩ := bindS h
  refine sq_call hF pc124 rfl (by decide) (ok_slices_Clone_Act (hS.enter ⟨⟨0, rfl⟩, trivial⟩) hx4) (fun v W hR a hF => ?_)
  obtain ⟨A5, c6, rfl, hT7⟩ := hR
  have hS := hS.join hT7
  refine sq_nil (then_j ⟨?_, ?_⟩)
  · exact fun _ _ => (hS.keep sl sn ⟨⟨0, rfl⟩, trivial⟩)
  ·
   refine e_one' 7 rfl (by kernel_rfl) ?_
   obtain ⟨x8, hx9, h⟩ := bindS h
   refine sq_call hF pc123 rfl (by decide) (ok_slices_Clip_Act hS hx9) (fun v W hR a hF => ?_)
   obtain ⟨A10, c11, rfl, hS⟩ := hR
   refine sq_nil (then_j ⟨?_, ?_⟩)
   · exact fun _ _ => (hS.keep sl sn ⟨⟨0, rfl⟩, trivial⟩)
   ·
    refine e_one' 14 rfl (by kernel_rfl) ?_
    have hS := hS.freeze (i := 0) rfl (posB rfl)
    refine sv (v_build (parts := [(0, .tmp 4), (1, .tmp 6), (2, .tmp 10), (3, .tmp 12), (4, .tmp 14), (5, .tmp 16)]) (out := TRule.enc ({ Match := u0.Match, Prio := u0.Prio, Acts := x8, Idle := u0.Idle, Hard := u0.Hard, Owner := u0.Owner, Hits := 0, Quiet := 0, Age := 0 } : TRule) A10 c11) hF rfl rfl pz51 rfl pp51 rfl) hF rfl fun a hF => sq_nil (then_j ⟨?_, ?_⟩)
    · exact fun _ _ => (hS.keep sl sl ⟨⟨1, rfl⟩, trivial⟩)
    ·
     refine e_one' 15 rfl (by kernel_rfl) <| sq_store (o := 0) (vs := TRule.enc ({ Match := u0.Match, Prio := u0.Prio, Acts := x8, Idle := u0.Idle, Hard := u0.Hard, Owner := u0.Owner, Hits := 0, Quiet := 0, Age := 0 } : TRule) A10 c11) (cs' := TRule.enc ({ Match := u0.Match, Prio := u0.Prio, Acts := x8, Idle := u0.Idle, Hard := u0.Hard, Owner := u0.Owner, Hits := 0, Quiet := 0, Age := 0 } : TRule) A10 c11) hF hS rfl rfl (i := 0) rfl rfl rfl ps51 (TRule.enc_one _ _ _) (bl rfl) rfl fun W hS => sq_nil (then_j ⟨?_, ?_⟩)
     · exact fun _ hE => absurd hE (by decide)
     ·
      refine e_done (by kernel_rfl) ?_ _
      refine tn <| rt ?_
      obtain rfl := si h
      exact ret1 hF rfl (rv_cell (cs := TRule.enc ({ Match := u0.Match, Prio := u0.Prio, Acts := x8, Idle := u0.Idle, Hard := u0.Hard, Owner := u0.Owner, Hits := 0, Quiet := 0, Age := 0 } : TRule) A10 c11) hF rfl pa51 ps51 (hS.bc (i := 0) rfl)) ⟨_, rfl, A10, c11, rfl, (hS.keep sn sl ⟨⟨0, rfl⟩, trivial⟩)⟩

theorem ok_rule_Key {M : Nat → Prop} {w0 : World} {u0 : TRule} {A0_0 : Option Addr} {c0_0 : Nat} {u1 : TRule} {A1_0 : Option Addr} {c1_0 : Nat} {o : Bool} (hS : St M w0 [] [] [fSl k_TAct A0_0 c0_0 u0.Acts, fSl k_TAct A1_0 c1_0 u1.Acts] w0) (h : rule_Key u0 u1 = some o) :
    Calls Tryz.prog 61 #[.agg (TRule.enc u0 A0_0 c0_0).toArray, .agg (TRule.enc u1 A1_0 c1_0).toArray] w0 fun e W' => ∃ v, e = .returned v ∧ (v = .bool (o) ∧ St M w0 [] [] [] W') := by
  unfold rule_Key at h
  refine cst Tryz.func61 rfl rfl rfl fun a hF => wq <| wg <| bv hF hS rfl rfl rfl fun b1 a W hF hS => bv hF hS rfl rfl rfl fun b2 a W hF hS => av hF rfl rfl fun a hF => nl <| tn <| wq <| wg <| fv hF rfl pf51_0 rfl fun a hF => sv (v_load (cs := TCube.enc u0.Match) hF rfl pa48 ps48 (cells_sub (vs := TCube.enc u0.Match) (hS.bc (i := 1) rfl) rfl rfl)) hF rfl fun a hF => fv hF rfl pf51_0 rfl fun a hF => sv (v_load (cs := TCube.enc u1.Match) hF rfl pa48 ps48 (cells_sub (vs := TCube.enc u1.Match) (hS.bc (i := 0) rfl) rfl rfl)) hF rfl fun a hF => sq_val (eq48 hF rfl rfl).1 hF (by decide) (fun a hF => ?_)
  refine mv hF rfl rfl fun a hF => gand 5 5 10 ((u0.Prio == u1.Prio)) hF rfl rfl rfl rfl rfl (fun _ => ?_) (fun a hF => ?_)
  ·
   exact fv hF rfl pf51_1 rfl fun a hF => lv hF rfl pa3 (hS.bc (i := 1) rfl) rfl rfl rfl fun a hF => fv hF rfl pf51_1 rfl fun a hF => lv hF rfl pa3 (hS.bc (i := 0) rfl) rfl rfl rfl fun a hF => sv (v_eql hF rfl rfl) hF rfl fun a hF => gq 5 hF rfl rfl rfl
  ·
   refine av hF rfl rfl fun a hF => nl <| tn <| rt ?_
   obtain rfl := si h
   exact ret1 hF rfl (rv_tmp hF rfl) ⟨_, rfl, rfl, (hS.keep sn sl trivial)⟩

theorem ok_mods_add_1 {M : Nat → Prop} {w0 : World} {u0 : TRule} {A0_0 : Option Addr} {c0_0 : Nat} {y0 : TRule} {b0_ : Nat} {B0_0 : Option Addr} {d0_0 : Nat} {o : Bool} (hS : St M w0 [] [] [fSl k_TAct A0_0 c0_0 u0.Acts, fSl k_TAct B0_0 d0_0 y0.Acts, fBox b0_ (TRule.enc y0 B0_0 d0_0) 51] w0) (h : mods_add_1 u0 y0 = some o) :
    Calls Tryz.prog 254 #[.agg (TRule.enc u0 A0_0 c0_0).toArray, .pointer (some (⟨b0_, 0, none⟩))] w0 fun e W' => ∃ v, e = .returned v ∧ (v = .bool (o) ∧ St M w0 [] [] [] W') := by
  unfold mods_add_1 at h
  refine cst Tryz.func254 rfl rfl rfl fun a hF => wq <| wg <| bv hF hS rfl rfl rfl fun b1 a W hF hS => av hF rfl rfl fun a hF => nl <| tn <| wq <| wg <| sv (v_load (cs := TRule.enc u0 A0_0 c0_0) hF rfl pa51 ps51 (hS.bc (i := 0) rfl)) hF rfl fun a hF => sv (v_load (cs := TRule.enc y0 B0_0 d0_0) hF rfl pa51 ps51 (hS.fbc (i := 2) rfl)) hF rfl fun a hF => ?_
  obtain ⟨x2, hx3, h⟩ := bindS h
  refine cl hF pc61 rfl rfl (ok_rule_Key (hS.enter ⟨⟨0, rfl⟩, ⟨1, rfl⟩, trivial⟩) hx3) hS fun W a hF hS => av hF rfl rfl fun a hF => nl <| tn <| rt ?_
  obtain rfl := si h
  exact ret1 hF rfl (rv_tmp hF rfl) ⟨_, rfl, rfl, (hS.keep sn sl trivial)⟩

theorem ok_slices_IndexFunc_Rule (k : Nat) {M : Nat → Prop} {w0 : World} {u0 : List TRule} {A0_0 : Option Addr} {c0_0 : Nat} {F1 : FuncId} {caps1 : List Value} {u1 : TRule → Option Bool} {o : Int} (hS : St M w0 [] [] [fSl k_TRule A0_0 c0_0 u0, fFn1 Tryz.prog F1 caps1 k_TRule true u1 (fun y => .bool y)] w0) (h : slices_IndexFunc_Rule k u0 u1 = some o) :
    Calls Tryz.prog 59 #[.slice A0_0 ((u0).length) c0_0, .func (.func F1) #[] caps1.toArray] w0 fun e W' => ∃ v, e = .returned v ∧ (v = .int .i64 (o) ∧ St M w0 [] [] [] W') := by
  unfold slices_IndexFunc_Rule at h
  refine cst Tryz.func59 rfl rfl rfl fun a hF => wq <| wg <| av hF rfl rfl fun a hF => nl <| tn <| wq <| wq <| wg <| mv hF rfl rfl fun a hF => sv (v_len hF rfl pu26) hF rfl fun a hF => mv hF rfl rfl fun a hF => nl <| tn ?_
  obtain ⟨o3, h, hk4⟩ := bindS h
  refine wp_join (fun a W => Lo.brk () = o3 ∧ FH 19 [] a ∧ St M w0 [] [] [] W) (fun a W hJ => ?_) ?_
  ·
   obtain ⟨rfl, hF, hS⟩ := hJ
   have h := hk4
   dsimp only at h
   refine tn <| wq <| wg <| av hF rfl rfl fun a hF => nl <| tn <| rt ?_
   obtain rfl := si h
   exact ret1 hF rfl (rv_tmp hF rfl) ⟨_, rfl, rfl, hS⟩
  ·
   refine wb <| wp_loop_fuel (I := fun m a W => ∃ (x2 : Int), FH 19 [(0, .slice A0_0 ((u0).length) c0_0), (1, .func (.func F1) #[] caps1.toArray), (7, .int .i64 ((u0.length : Int))), (8, .int .i64 (x2))] a ∧ St M w0 [] [] [fSl k_TRule A0_0 c0_0 u0, fFn1 Tryz.prog F1 caps1 k_TRule true u1 (fun y => .bool y)] W ∧ (slices_IndexFunc_Rule.l0 k u0 u1 m x2) = some o3) ?_ (k := k) ⟨0, (hF.keep ⟨rfl, rfl, rfl, rfl, trivial⟩), hS, h⟩
   rintro m5 a W ⟨x2, hF, hS, h⟩
   cases m5 with
   | zero => cases h
   | succ m5 =>
    rw [slices_IndexFunc_Rule.l0] at h
    refine wq <| wg <| sv (v_lss hF rfl rfl) hF rfl fun a hF => nl <| tn <| wq <| wi hF rfl h (fun h => ?_) fun h => ?_
    ·
     refine sk <| tn <| wq <| wb <| wq <| wg <| mv hF rfl rfl fun a hF => av hF rfl rfl fun a hF => nl <| tn <| wq <| wg <| mv hF rfl rfl fun a hF => mv hF rfl rfl fun a hF => mv hF rfl rfl fun a hF => ?_
     obtain ⟨x7, hx8, h⟩ := bindS h
     obtain ⟨p9, cs10, hA11, hat12⟩ := SlR.at (hS.fc (i := 0) rfl) hx8
     obtain ⟨A13, c14, rfl, hs15⟩ := hat12.2.2.2
     have hS := hS.addFact (f := fAt k_TRule (p9.add (x2.toNat * 32)) (TRule.enc x7 A13 c14) x7) hat12
     have hS := hS.addFact (f := fSl k_TAct A13 c14 x7.Acts) hs15
     refine sv (v_idx hF rfl hA11 rfl psl26 hx8) hF rfl fun a hF => sv (v_load (cs := TRule.enc x7 A13 c14) hF rfl pa51 ps51 (hS.pc (i := 1) rfl)) hF rfl fun a hF => ?_
     obtain ⟨x16, hx17, h⟩ := bindS h
     refine sq_callv hF (hS.fc (i := 3) rfl).1 rfl rfl (by decide) (call1 (hS.fc (i := 3) rfl) hS ⟨A13, c14, rfl, (hS.fc (i := 0) rfl)⟩ hx17) (fun v W hR a hF => ?_)
     obtain ⟨rfl, hT18⟩ := hR
     have hS := hS.grow hT18
     refine nl <| tn <| wi hF rfl h (fun h => ?_) fun h => ?_
     ·
      refine wq <| wg <| mv hF rfl rfl fun a hF => av hF rfl rfl fun a hF => nl <| tn <| rt <| br <| tr <| tr <| br <| tr <| tr ?_
      obtain rfl := si h
      have h := hk4
      dsimp only at h
      obtain rfl := si h
      exact ret1 hF rfl (rv_tmp hF rfl) ⟨_, rfl, rfl, (hS.keep sl sl trivial)⟩
     ·
      exact sk <| bn <| tn <| wg <| sv (v_add hF rfl rfl) hF rfl fun a hF => mv hF rfl rfl fun a hF => nl <| then_j ⟨m5, Nat.lt_succ_self _, (IntKind.i64.wrap (x2 + 1)), (hF.keep ⟨rfl, rfl, rfl, rfl, trivial⟩), (hS.keep sl sl ⟨⟨2, rfl⟩, ⟨3, rfl⟩, trivial⟩), h⟩
    ·
     refine wp_exit <| tx <| tx <| bh ?_
     obtain rfl := si h
     exact then_j ⟨rfl, (hF.keep trivial), (hS.keep sl sl trivial)⟩

theorem ok_cube_both (k : Nat) {M : Nat → Prop} {w0 : World} {u0 : TCube} {u1 : TCube} {o : Bool} (hS : St M w0 [] [] [] w0) (h : cube_both k u0 u1 = some o) :
    Calls Tryz.prog 272 #[.agg (TCube.enc u0).toArray, .agg (TCube.enc u1).toArray] w0 fun e W' => ∃ v, e = .returned v ∧ (v = .bool (o) ∧ St M w0 [] [] [] W') := by
  unfold cube_both at h
  refine cst Tryz.func272 rfl rfl rfl fun a hF => wq <| wg <| bv hF hS rfl rfl rfl fun b1 a W hF hS => bv hF hS rfl rfl rfl fun b2 a W hF hS => av hF rfl rfl fun a hF => nl <| tn <| wq <| wg <| sv (v_load (cs := TCube.enc u0) hF rfl pa48 ps48 (hS.bc (i := 1) rfl)) hF rfl fun a hF => ?_
  obtain ⟨x3, hx4, h⟩ := bindS h
  refine cl hF pc171 rfl rfl (ok_cube_Sound k (hS.enter trivial) hx4) hS fun W a hF hS => mv hF rfl rfl fun a hF => gandB 2 2 7 hF hS h rfl rfl rfl rfl rfl (fun r8 h => ?_) (fun x7 a W h hF hS => ?_)
  ·
   refine sv (v_load (cs := TCube.enc u1) hF rfl pa48 ps48 (hS.bc (i := 0) rfl)) hF rfl fun a hF => ?_
   obtain ⟨x9, hx10, h⟩ := bindS h
   refine cl hF pc171 rfl rfl (ok_cube_Sound k (hS.enter trivial) hx10) hS fun W a hF hS => ?_
   obtain rfl := si h
   exact gs 2 hF hS rfl rfl rfl
  ·
   refine av hF rfl rfl fun a hF => nl <| tn <| rt ?_
   obtain rfl := si h
   exact ret1 hF rfl (rv_tmp hF rfl) ⟨_, rfl, rfl, (hS.keep sn sl trivial)⟩

theorem ok_cube_Meet (k : Nat) {M : Nat → Prop} {w0 : World} {u0 : TCube} {u1 : TCube} {o : TCube × Bool} (hS : St M w0 [] [] [] w0) (h : cube_Meet k u0 u1 = some o) :
    Calls Tryz.prog 229 #[.agg (TCube.enc u0).toArray, .agg (TCube.enc u1).toArray] w0 fun e W' => ∃ v, e = .returned v ∧ (v = .tuple #[.agg (TCube.enc o.1).toArray, .bool (o.2)] ∧ St M w0 [] [] [] W') := by
  unfold cube_Meet at h
  refine cst Tryz.func229 rfl rfl rfl fun a hF => wq <| wg <| bv hF hS rfl rfl rfl fun b1 a W hF hS => bv hF hS rfl rfl rfl fun b2 a W hF hS => al hF hS pz48 rfl rfl fun b3 a W hF hS => av hF rfl rfl fun a hF => nl <| tn <| wq <| wq <| wg <| sv (v_load (cs := TCube.enc u0) hF rfl pa48 ps48 (hS.bc (i := 2) rfl)) hF rfl fun a hF => sv (v_load (cs := TCube.enc u1) hF rfl pa48 ps48 (hS.bc (i := 1) rfl)) hF rfl fun a hF => ?_
  obtain ⟨x4, hx5, h⟩ := bindS h
  refine cl hF pc272 rfl rfl (ok_cube_both k (hS.enter trivial) hx5) hS fun W a hF hS => sv (v_not hF rfl) hF rfl fun a hF => nl <| tn <| wi hF rfl h (fun h => ?_) fun h => ?_
  ·
   refine wq <| wg <| sv (v_build (parts := []) (out := TCube.enc TCube.zero) hF rfl rfl pz48 rfl pp48 rfl) hF rfl fun a hF => sq_store (o := 0) (vs := TCube.enc TCube.zero) (cs' := TCube.enc TCube.zero) hF hS rfl rfl (i := 0) rfl rfl rfl ps48 (TCube.enc_one _) (bl rfl) rfl fun W hS => av hF rfl rfl fun a hF => nl <| tn <| rt <| tr ?_
   obtain rfl := si h
   exact ret2 hF rfl (rv_cell (cs := TCube.enc TCube.zero) hF rfl pa48 ps48 (hS.bc (i := 0) rfl)) (rv_tmp hF rfl) ⟨_, rfl, rfl, (hS.keep sn sl trivial)⟩
  ·
   refine sk <| tn <| wq <| wq <| wg <| mv hF rfl rfl fun a hF => nl <| tn ?_
   obtain ⟨o14, h, hk15⟩ := bindS h
   refine wp_join (fun a W => ∃ (x13 : TCube), Lo.brk x13 = o14 ∧ FH 60 [(2, .pointer (some (⟨b1, 0, none⟩))), (4, .pointer (some (⟨b3, 0, none⟩)))] a ∧ St M w0 [⟨b3, TCube.enc TCube.zero, 48⟩, ⟨b1, TCube.enc x13, 48⟩] [] [] W) (fun a W hJ => ?_) ?_
   ·
    obtain ⟨x13, rfl, hF, hS⟩ := hJ
    have h := hk15
    dsimp only at h
    refine tn <| wq <| wg <| sv (v_load (cs := TCube.enc x13) hF rfl pa48 ps48 (hS.bc (i := 1) rfl)) hF rfl fun a hF => sq_store (o := 0) (vs := TCube.enc x13) (cs' := TCube.enc x13) hF hS rfl rfl (i := 0) rfl rfl rfl ps48 (TCube.enc_one _) (bl rfl) rfl fun W hS => av hF rfl rfl fun a hF => nl <| tn <| rt ?_
    obtain rfl := si h
    exact ret2 hF rfl (rv_cell (cs := TCube.enc x13) hF rfl pa48 ps48 (hS.bc (i := 0) rfl)) (rv_tmp hF rfl) ⟨_, rfl, rfl, (hS.keep sn sl trivial)⟩
   ·
    refine wb <| wp_loop_fuel (I := fun m a W => ∃ (x11 : TCube) (x12 : Int), FH 60 [(2, .pointer (some (⟨b1, 0, none⟩))), (3, .pointer (some (⟨b2, 0, none⟩))), (4, .pointer (some (⟨b3, 0, none⟩))), (12, .int .i64 (x12))] a ∧ St M w0 [⟨b3, TCube.enc TCube.zero, 48⟩, ⟨b2, TCube.enc u1, 48⟩, ⟨b1, TCube.enc x11, 48⟩] [] [] W ∧ (cube_Meet.l0 k u1 m x11 x12) = some o14) ?_ (k := k) ⟨u0, 0, (hF.keep ⟨rfl, rfl, rfl, rfl, trivial⟩), hS, h⟩
    rintro m16 a W ⟨x11, x12, hF, hS, h⟩
    cases m16 with
    | zero => cases h
    | succ m16 =>
     rw [cube_Meet.l0] at h
     refine wq <| wg <| sv (v_lss hF rfl rfl) hF rfl fun a hF => nl <| tn <| wq <| wi hF rfl h (fun h => ?_) fun h => ?_
     ·
      refine sk <| tn <| wq <| wb <| wq <| wg <| mv hF rfl rfl fun a hF => av hF rfl rfl fun a hF => nl <| tn <| wq <| wq <| wp_quiet rfl (by kernel_rfl) hS <| qv (fun W hC => (v_move hF rfl)) hF rfl fun a hF => qv (fun W hC => (v_fieldAddr hF rfl pf48_0)) hF rfl fun a hF => ?_
      obtain ⟨hb18, h⟩ := ifS h
      refine qv (fun W hC => (v_indexAddr hF rfl rfl par46 hb18.1 hb18.2)) hF rfl fun a hF => qv (fun W hC => (v_load1 hF rfl pa44 (cells_sub (vs := [.int .u64 ((x11.Value.at x12))]) (hC.2.bc (i := 2) rfl) (add_add _ _ _) (TCube.get_Value x11 x12 hb18.1 hb18.2)))) hF rfl fun a hF => qv (fun W hC => (v_move hF rfl)) hF rfl fun a hF => qv (fun W hC => (v_fieldAddr hF rfl pf48_0)) hF rfl fun a hF => qv (fun W hC => (v_indexAddr hF rfl rfl par46 hb18.1 hb18.2)) hF rfl fun a hF => qv (fun W hC => (v_load1 hF rfl pa44 (cells_sub (vs := [.int .u64 ((u1.Value.at x12))]) (hC.2.bc (i := 1) rfl) (add_add _ _ _) (TCube.get_Value u1 x12 hb18.1 hb18.2)))) hF rfl fun a hF => qv (fun W hC => (v_xor hF rfl rfl)) hF rfl fun a hF => qv (fun W hC => (v_move hF rfl)) hF rfl fun a hF => qv (fun W hC => (v_fieldAddr hF rfl pf48_1)) hF rfl fun a hF => qv (fun W hC => (v_indexAddr hF rfl rfl par46 hb18.1 hb18.2)) hF rfl fun a hF => qv (fun W hC => (v_load1 hF rfl pa44 (cells_sub (vs := [.int .u64 ((x11.Care.at x12))]) (hC.2.bc (i := 2) rfl) (add_add _ _ _) (TCube.get_Care x11 x12 hb18.1 hb18.2)))) hF rfl fun a hF => qv (fun W hC => (v_and hF rfl rfl)) hF rfl fun a hF => qv (fun W hC => (v_move hF rfl)) hF rfl fun a hF => qv (fun W hC => (v_fieldAddr hF rfl pf48_1)) hF rfl fun a hF => qv (fun W hC => (v_indexAddr hF rfl rfl par46 hb18.1 hb18.2)) hF rfl fun a hF => qv (fun W hC => (v_load1 hF rfl pa44 (cells_sub (vs := [.int .u64 ((u1.Care.at x12))]) (hC.2.bc (i := 1) rfl) (add_add _ _ _) (TCube.get_Care u1 x12 hb18.1 hb18.2)))) hF rfl fun a hF => ?_
      refine qv (fun W hC => (v_and hF rfl rfl)) hF rfl fun a hF => qv (fun W hC => (v_neq hF rfl rfl)) hF rfl fun a hF => qn ?_
      intro W hC
      have hS := hC.2
      refine tn <| wi hF rfl h (fun h => ?_) fun h => ?_
      ·
       refine wq <| wg <| sv (v_build (parts := []) (out := TCube.enc TCube.zero) hF rfl rfl pz48 rfl pp48 rfl) hF rfl fun a hF => sq_store (o := 0) (vs := TCube.enc TCube.zero) (cs' := TCube.enc TCube.zero) hF hS rfl rfl (i := 0) rfl rfl rfl ps48 (TCube.enc_one _) (bl rfl) rfl fun W hS => av hF rfl rfl fun a hF => nl <| tn <| rt <| tr <| br <| tr <| tr <| br <| tr <| tr ?_
       obtain rfl := si h
       have h := hk15
       dsimp only at h
       obtain rfl := si h
       exact ret2 hF rfl (rv_cell (cs := TCube.enc TCube.zero) hF rfl pa48 ps48 (hS.bc (i := 0) rfl)) (rv_tmp hF rfl) ⟨_, rfl, rfl, (hS.keep sn sl trivial)⟩
      ·
       refine sk <| tn <| wq <| wp_drawn (QC M w0 [⟨b3, TCube.enc TCube.zero, 48⟩, ⟨b2, TCube.enc u1, 48⟩, ⟨b1, TCube.enc x11, 48⟩] [] []) (fun q => Nat.beq q 11) rfl hS (fun W hB0 hR0 => ?_)
       have hS := hR0
       refine eqc ⟨Bl.refl _ _, hS⟩ fun hQC => e_val' 0 rfl (by kernel_rfl) (fun W => (v_move hF rfl)) hF rfl fun a hF => e_val' 1 rfl (by kernel_rfl) (fun W => (v_fieldAddr hF rfl pf48_1)) hF rfl fun a hF => e_val' 2 rfl (by kernel_rfl) (fun W => (v_indexAddr hF rfl rfl par46 hb18.1 hb18.2)) hF rfl fun a hF => e_valS' 3 rfl (by kernel_rfl) (fun W hC => (v_load1 hF rfl pa44 (cells_sub (vs := [.int .u64 ((x11.Care.at x12))]) (hC.2.bc (i := 2) rfl) (add_add _ _ _) (TCube.get_Care x11 x12 hb18.1 hb18.2)))) hQC (by kernel_rfl) hF rfl fun a hF => e_val' 4 rfl (by kernel_rfl) (fun W => (v_move hF rfl)) hF rfl fun a hF => e_val' 5 rfl (by kernel_rfl) (fun W => (v_fieldAddr hF rfl pf48_1)) hF rfl fun a hF => e_val' 6 rfl (by kernel_rfl) (fun W => (v_indexAddr hF rfl rfl par46 hb18.1 hb18.2)) hF rfl fun a hF => e_valS' 7 rfl (by kernel_rfl) (fun W hC => (v_load1 hF rfl pa44 (cells_sub (vs := [.int .u64 ((u1.Care.at x12))]) (hC.2.bc (i := 1) rfl) (add_add _ _ _) (TCube.get_Care u1 x12 hb18.1 hb18.2)))) hQC (by kernel_rfl) hF rfl fun a hF => e_val' 8 rfl (by kernel_rfl) (fun W => (v_or hF rfl rfl)) hF rfl fun a hF => e_val' 9 rfl (by kernel_rfl) (fun W => (v_fieldAddr hF rfl pf48_1)) hF rfl fun a hF => e_val' 10 rfl (by kernel_rfl) (fun W => (v_indexAddr hF rfl rfl par46 hb18.1 hb18.2)) hF rfl fun a hF => e_one' 11 rfl (by kernel_rfl) <| sq_store (o := 12 + x12.toNat * 1) (vs := [.int .u64 ((bOr .u64 (x11.Care.at x12) (u1.Care.at x12)))]) (cs' := TCube.enc (TCube.setCare x11 (x11.Care.upd x12 (bOr .u64 (x11.Care.at x12) (u1.Care.at x12))))) hF hS rfl (by simp only [add_add, add_plain, Nat.zero_add]) (i := 2) rfl rfl rfl ps44 (one1 rfl) (by have h0 := hb18.1; have h1 := hb18.2; simp only [TCube.enc, List.length_cons, List.length_nil]; omega) (TCube.set_Care x11 x12 _ hb18.1 hb18.2) (fun W hS => ?_)
       refine sq_nil (then_j ⟨?_, ?_⟩)
       · exact fun _ hE => absurd hE (by decide)
       ·
        refine e_done (by kernel_rfl) ?_ _
        refine tn <| wp_drawn (QC M w0 [⟨b3, TCube.enc TCube.zero, 48⟩, ⟨b2, TCube.enc u1, 48⟩, ⟨b1, TCube.enc (TCube.setCare x11 (x11.Care.upd x12 (bOr .u64 (x11.Care.at x12) (u1.Care.at x12)))), 48⟩] [] []) (fun q => Nat.beq q 11) rfl hS (fun W hB0 hR0 => ?_)
        have hS := hR0
        refine eqc ⟨Bl.refl _ _, hS⟩ fun hQC => e_val' 0 rfl (by kernel_rfl) (fun W => (v_move hF rfl)) hF rfl fun a hF => e_val' 1 rfl (by kernel_rfl) (fun W => (v_fieldAddr hF rfl pf48_0)) hF rfl fun a hF => e_val' 2 rfl (by kernel_rfl) (fun W => (v_indexAddr hF rfl rfl par46 hb18.1 hb18.2)) hF rfl fun a hF => e_valS' 3 rfl (by kernel_rfl) (fun W hC => (v_load1 hF rfl pa44 (cells_sub (vs := [.int .u64 ((x11.Value.at x12))]) (hC.2.bc (i := 2) rfl) (add_add _ _ _) (TCube.get_Value (TCube.setCare x11 (x11.Care.upd x12 (bOr .u64 (x11.Care.at x12) (u1.Care.at x12)))) x12 hb18.1 hb18.2)))) hQC (by kernel_rfl) hF rfl fun a hF => e_val' 4 rfl (by kernel_rfl) (fun W => (v_move hF rfl)) hF rfl fun a hF => e_val' 5 rfl (by kernel_rfl) (fun W => (v_fieldAddr hF rfl pf48_0)) hF rfl fun a hF => e_val' 6 rfl (by kernel_rfl) (fun W => (v_indexAddr hF rfl rfl par46 hb18.1 hb18.2)) hF rfl fun a hF => e_valS' 7 rfl (by kernel_rfl) (fun W hC => (v_load1 hF rfl pa44 (cells_sub (vs := [.int .u64 ((u1.Value.at x12))]) (hC.2.bc (i := 1) rfl) (add_add _ _ _) (TCube.get_Value u1 x12 hb18.1 hb18.2)))) hQC (by kernel_rfl) hF rfl fun a hF => e_val' 8 rfl (by kernel_rfl) (fun W => (v_or hF rfl rfl)) hF rfl fun a hF => e_val' 9 rfl (by kernel_rfl) (fun W => (v_fieldAddr hF rfl pf48_0)) hF rfl fun a hF => e_val' 10 rfl (by kernel_rfl) (fun W => (v_indexAddr hF rfl rfl par46 hb18.1 hb18.2)) hF rfl fun a hF => e_one' 11 rfl (by kernel_rfl) <| sq_store (o := 0 + x12.toNat * 1) (vs := [.int .u64 ((bOr .u64 (x11.Value.at x12) (u1.Value.at x12)))]) (cs' := TCube.enc ({ Value := (x11.Value.upd x12 (bOr .u64 (x11.Value.at x12) (u1.Value.at x12))), Care := (x11.Care.upd x12 (bOr .u64 (x11.Care.at x12) (u1.Care.at x12))) } : TCube)) hF hS rfl (by simp only [add_add, add_plain, Nat.zero_add]) (i := 2) rfl rfl rfl ps44 (one1 rfl) (by have h0 := hb18.1; have h1 := hb18.2; simp only [TCube.enc, List.length_cons, List.length_nil]; omega) (TCube.set_Value (TCube.setCare x11 (x11.Care.upd x12 (bOr .u64 (x11.Care.at x12) (u1.Care.at x12)))) x12 _ hb18.1 hb18.2) (fun W hS => ?_)
        refine sq_nil (then_j ⟨?_, ?_⟩)
        · exact fun _ hE => absurd hE (by decide)
        ·
         refine e_done (by kernel_rfl) ?_ _
         exact bn <| tn <| wg <| sv (v_add hF rfl rfl) hF rfl fun a hF => mv hF rfl rfl fun a hF => nl <| then_j ⟨m16, Nat.lt_succ_self _, ({ Value := (x11.Value.upd x12 (bOr .u64 (x11.Value.at x12) (u1.Value.at x12))), Care := (x11.Care.upd x12 (bOr .u64 (x11.Care.at x12) (u1.Care.at x12))) } : TCube), (IntKind.i64.wrap (x12 + 1)), (hF.keep ⟨rfl, rfl, rfl, rfl, trivial⟩), hS, h⟩
     ·
      refine wp_exit <| tx <| tx <| bh ?_
      obtain rfl := si h
      exact then_j ⟨x11, rfl, (hF.keep ⟨rfl, rfl, trivial⟩), (hS.keep (.cons_cons _ (.cons _ sl)) sl trivial)⟩

theorem ok_rule_Overlap (k : Nat) {M : Nat → Prop} {w0 : World} {u0 : TRule} {A0_0 : Option Addr} {c0_0 : Nat} {u1 : TRule} {A1_0 : Option Addr} {c1_0 : Nat} {o : Bool} (hS : St M w0 [] [] [fSl k_TAct A0_0 c0_0 u0.Acts, fSl k_TAct A1_0 c1_0 u1.Acts] w0) (h : rule_Overlap k u0 u1 = some o) :
    Calls Tryz.prog 256 #[.agg (TRule.enc u0 A0_0 c0_0).toArray, .agg (TRule.enc u1 A1_0 c1_0).toArray] w0 fun e W' => ∃ v, e = .returned v ∧ (v = .bool (o) ∧ St M w0 [] [] [] W') := by
  unfold rule_Overlap at h
  refine cst Tryz.func256 rfl rfl rfl fun a hF => wq <| wg <| bv hF hS rfl rfl rfl fun b1 a W hF hS => bv hF hS rfl rfl rfl fun b2 a W hF hS => av hF rfl rfl fun a hF => nl <| tn <| wq <| wg <| fv hF rfl pf51_0 rfl fun a hF => sv (v_load (cs := TCube.enc u0.Match) hF rfl pa48 ps48 (cells_sub (vs := TCube.enc u0.Match) (hS.bc (i := 1) rfl) rfl rfl)) hF rfl fun a hF => fv hF rfl pf51_0 rfl fun a hF => sv (v_load (cs := TCube.enc u1.Match) hF rfl pa48 ps48 (cells_sub (vs := TCube.enc u1.Match) (hS.bc (i := 0) rfl) rfl rfl)) hF rfl fun a hF => ?_
  obtain ⟨x3, hx4, h⟩ := bindS h
  refine cl hF pc229 rfl rfl (ok_cube_Meet k (hS.enter trivial) hx4) hS fun W a hF hS => mv hF rfl rfl fun a hF => sv (v_extract hF rfl rfl) hF rfl fun a hF => sv (v_extract hF rfl rfl) hF rfl fun a hF => al hF hS pz48 rfl rfl fun b6 a W hF hS => sq_store (o := 0) (vs := TCube.enc x3.1) (cs' := TCube.enc x3.1) hF hS rfl rfl (i := 0) rfl rfl rfl ps48 (TCube.enc_one _) (bl rfl) rfl fun W hS => av hF rfl rfl fun a hF => nl <| tn <| wq <| wg <| mv hF rfl rfl fun a hF => mv hF rfl rfl fun a hF => gand 5 1 16 ((u0.Prio == u1.Prio)) hF rfl rfl rfl rfl rfl (fun _ => ?_) (fun a hF => ?_)
  ·
   exact fv hF rfl pf51_1 rfl fun a hF => lv hF rfl pa3 (hS.bc (i := 2) rfl) rfl rfl rfl fun a hF => fv hF rfl pf51_1 rfl fun a hF => lv hF rfl pa3 (hS.bc (i := 1) rfl) rfl rfl rfl fun a hF => sv (v_eql hF rfl rfl) hF rfl fun a hF => gq 5 hF rfl rfl rfl
  ·
   refine av hF rfl rfl fun a hF => nl <| tn <| rt ?_
   obtain rfl := si h
   exact ret1 hF rfl (rv_tmp hF rfl) ⟨_, rfl, rfl, (hS.keep sn sl trivial)⟩

theorem ok_mods_add_2 (k : Nat) {M : Nat → Prop} {w0 : World} {u0 : TRule} {A0_0 : Option Addr} {c0_0 : Nat} {y0 : TRule} {b0_ : Nat} {B0_0 : Option Addr} {d0_0 : Nat} {o : Bool} (hS : St M w0 [] [] [fSl k_TAct A0_0 c0_0 u0.Acts, fSl k_TAct B0_0 d0_0 y0.Acts, fBox b0_ (TRule.enc y0 B0_0 d0_0) 51] w0) (h : mods_add_2 k u0 y0 = some o) :
    Calls Tryz.prog 255 #[.agg (TRule.enc u0 A0_0 c0_0).toArray, .pointer (some (⟨b0_, 0, none⟩))] w0 fun e W' => ∃ v, e = .returned v ∧ (v = .bool (o) ∧ St M w0 [] [] [] W') := by
  unfold mods_add_2 at h
  refine cst Tryz.func255 rfl rfl rfl fun a hF => wq <| wg <| bv hF hS rfl rfl rfl fun b1 a W hF hS => av hF rfl rfl fun a hF => nl <| tn <| wq <| wg <| sv (v_load (cs := TRule.enc u0 A0_0 c0_0) hF rfl pa51 ps51 (hS.bc (i := 0) rfl)) hF rfl fun a hF => sv (v_load (cs := TRule.enc y0 B0_0 d0_0) hF rfl pa51 ps51 (hS.fbc (i := 2) rfl)) hF rfl fun a hF => ?_
  obtain ⟨x2, hx3, h⟩ := bindS h
  refine cl hF pc61 rfl rfl (ok_rule_Key (hS.enter ⟨⟨0, rfl⟩, ⟨1, rfl⟩, trivial⟩) hx3) hS fun W a hF hS => sv (v_not hF rfl) hF rfl fun a hF => mv hF rfl rfl fun a hF => gandB 3 4 8 hF hS h rfl rfl rfl rfl rfl (fun r7 h => ?_) (fun x6 a W h hF hS => ?_)
  ·
   refine sv (v_load (cs := TRule.enc u0 A0_0 c0_0) hF rfl pa51 ps51 (hS.bc (i := 0) rfl)) hF rfl fun a hF => sv (v_load (cs := TRule.enc y0 B0_0 d0_0) hF rfl pa51 ps51 (hS.fbc (i := 2) rfl)) hF rfl fun a hF => ?_
   obtain ⟨x8, hx9, h⟩ := bindS h
   refine cl hF pc256 rfl rfl (ok_rule_Overlap k (hS.enter ⟨⟨0, rfl⟩, ⟨1, rfl⟩, trivial⟩) hx9) hS fun W a hF hS => ?_
   obtain rfl := si h
   exact gs 3 hF hS rfl rfl rfl
  ·
   refine av hF rfl rfl fun a hF => nl <| tn <| rt ?_
   obtain rfl := si h
   exact ret1 hF rfl (rv_tmp hF rfl) ⟨_, rfl, rfl, (hS.keep sn sl trivial)⟩

theorem ok_slices_ContainsFunc_Rule (k : Nat) {M : Nat → Prop} {w0 : World} {u0 : List TRule} {A0_0 : Option Addr} {c0_0 : Nat} {F1 : FuncId} {caps1 : List Value} {u1 : TRule → Option Bool} {o : Bool} (hS : St M w0 [] [] [fSl k_TRule A0_0 c0_0 u0, fFn1 Tryz.prog F1 caps1 k_TRule true u1 (fun y => .bool y)] w0) (h : slices_ContainsFunc_Rule k u0 u1 = some o) :
    Calls Tryz.prog 252 #[.slice A0_0 ((u0).length) c0_0, .func (.func F1) #[] caps1.toArray] w0 fun e W' => ∃ v, e = .returned v ∧ (v = .bool (o) ∧ St M w0 [] [] [] W') := by
  unfold slices_ContainsFunc_Rule at h
  refine cst Tryz.func252 rfl rfl rfl fun a hF => wq <| wg <| av hF rfl rfl fun a hF => nl <| tn <| wq <| wg <| mv hF rfl rfl fun a hF => mv hF rfl rfl fun a hF => ?_
  obtain ⟨x1, hx2, h⟩ := bindS h
  refine cl hF pc59 rfl rfl (ok_slices_IndexFunc_Rule k (hS.enter ⟨⟨0, rfl⟩, ⟨1, rfl⟩, trivial⟩) hx2) hS fun W a hF hS => sv (v_geq hF rfl rfl) hF rfl fun a hF => av hF rfl rfl fun a hF => nl <| tn <| rt ?_
  obtain rfl := si h
  exact ret1 hF rfl (rv_tmp hF rfl) ⟨_, rfl, rfl, (hS.keep sl sl trivial)⟩

theorem ok_rule_copied {M : Nat → Prop} {w0 : World} {u0 : TRule} {A0_0 : Option Addr} {c0_0 : Nat} {o : TRule} (hS : St M w0 [] [] [fSl k_TAct A0_0 c0_0 u0.Acts] w0) (h : rule_copied u0 = some o) :
    Calls Tryz.prog 125 #[.agg (TRule.enc u0 A0_0 c0_0).toArray] w0 fun e W' => ∃ v, e = .returned v ∧ (∃ (A12 : Option Addr) (c13 : Nat), v = .agg (TRule.enc o A12 c13).toArray ∧ St M w0 [] [] [fSl k_TAct A12 c13 o.Acts] W') := by
  unfold rule_copied at h
  refine cst Tryz.func125 rfl rfl rfl fun a hF => wq <| wg <| bv hF hS rfl rfl rfl fun b1 a W hF hS => al hF hS pz51 rfl rfl fun b2 a W hF hS => nl <| tn <| wq <| wg <| fv hF rfl pf51_2 rfl fun a hF => lv hF rfl pa49 (hS.bc (i := 1) rfl) rfl rfl rfl fun a hF => ?_
  obtain ⟨x3, hx4, h⟩ := bindS h
  refine sq_call hF pc124 rfl (by decide) (ok_slices_Clone_Act (hS.enter ⟨⟨0, rfl⟩, trivial⟩) hx4) (fun v W hR a hF => ?_)
  obtain ⟨A5, c6, rfl, hT7⟩ := hR
  have hS := hS.join hT7
  obtain ⟨x8, hx9, h⟩ := bindS h
  refine sq_call hF pc123 rfl (by decide) (ok_slices_Clip_Act hS hx9) (fun v W hR a hF => ?_)
  obtain ⟨A10, c11, rfl, hS⟩ := hR
  refine fv hF rfl pf51_2 rfl fun a hF => ?_
  have hS := hS.freeze (i := 0) rfl (posB rfl)
  refine sq_store (o := 25) (vs := [.slice A10 ((x8).length) c11]) (cs' := TRule.enc (TRule.setActs u0 x8) A10 c11) hF hS rfl rfl (i := 1) rfl rfl rfl ps49 (one1 rfl) (bl rfl) rfl fun W hS => nl <| tn <| wq <| wg <| sv (v_load (cs := TRule.enc (TRule.setActs u0 x8) A10 c11) hF rfl pa51 ps51 (hS.bc (i := 1) rfl)) hF rfl fun a hF => sq_store (o := 0) (vs := TRule.enc (TRule.setActs u0 x8) A10 c11) (cs' := TRule.enc (TRule.setActs u0 x8) A10 c11) hF hS rfl rfl (i := 0) rfl rfl rfl ps51 (TRule.enc_one _ _ _) (bl rfl) rfl fun W hS => nl <| tn <| rt ?_
  obtain rfl := si h
  exact ret1 hF rfl (rv_cell (cs := TRule.enc (TRule.setActs u0 x8) A10 c11) hF rfl pa51 ps51 (hS.bc (i := 0) rfl)) ⟨_, rfl, A10, c11, rfl, (hS.keep sn sl ⟨⟨0, rfl⟩, trivial⟩)⟩

theorem ok_slices_Clip_Rule {M : Nat → Prop} {w0 : World} {bs : List Box} {rs : List Row} {fs : List Fact} {W0 : World} {u0 : List TRule} {A0_0 : Option Addr} {c0_0 : Nat} {o : List TRule} (hS : St M w0 (bs) (⟨k_TRule, 51, A0_0, c0_0, u0⟩ :: rs) (fs) W0) (h : slices_Clip_Rule u0 = some o) :
    Calls Tryz.prog 126 #[.slice A0_0 ((u0).length) c0_0] W0 fun e W' => ∃ v, e = .returned v ∧ (∃ (A1 : Option Addr) (c2 : Nat), v = .slice A1 ((o).length) c2 ∧ St M w0 (bs) (⟨k_TRule, 51, A1, c2, o⟩ :: rs) (fs) W') := by
  unfold slices_Clip_Rule at h
  refine cst Tryz.func126 rfl rfl rfl fun a hF => wq <| wg <| av hF rfl rfl fun a hF => nl <| tn <| wq <| wg <| mv hF rfl rfl fun a hF => mv hF rfl rfl fun a hF => sv (v_len hF rfl pu26) hF rfl fun a hF => mv hF rfl rfl fun a hF => sv (v_len hF rfl pu26) hF rfl fun a hF => sv (v_clip hF rfl rfl rfl psl26 (hS.rw_ (i := 0) rfl).cap) hF rfl fun a hF => ?_
  have hS := hS.clipRow (i := 0) rfl
  refine av hF rfl rfl fun a hF => nl <| tn <| rt ?_
  obtain rfl := si h
  exact ret1 hF rfl (rv_tmp hF rfl) ⟨_, rfl, A0_0, ((u0).length), rfl, hS⟩

theorem ok_rule_Copy (k : Nat) {M : Nat → Prop} {w0 : World} {u0 : List TRule} {A0_0 : Option Addr} {c0_0 : Nat} {o : (List TRule)} (hS : St M w0 [] [] [fSl k_TRule A0_0 c0_0 u0] w0) (h : rule_Copy k u0 = some o) :
    Calls Tryz.prog 56 #[.slice A0_0 ((u0).length) c0_0] w0 fun e W' => ∃ v, e = .returned v ∧ (∃ (A41 : Option Addr) (c42 : Nat), v = .slice A41 ((o).length) c42 ∧ St M w0 [] [⟨k_TRule, 51, A41, c42, o⟩] [] W') := by
  unfold rule_Copy at h
  refine cst Tryz.func56 rfl rfl rfl fun a hF => wq <| wg <| av hF rfl rfl fun a hF => nl <| tn <| wq <| wg <| av hF rfl rfl fun a hF => nl <| tn <| wq <| wq <| wg <| mv hF rfl rfl fun a hF => sv (v_len hF rfl pu26) hF rfl fun a hF => mv hF rfl rfl fun a hF => nl <| tn ?_
  obtain ⟨o12, h, hk13⟩ := bindS h
  refine wp_join (fun a W => ∃ (x9 : List TRule) (A10 : Option Addr) (c11 : Nat), x9 = o12 ∧ FH 20 [(3, .slice A10 ((x9).length) c11)] a ∧ St M w0 [] [⟨k_TRule, 51, A10, c11, x9⟩] [] W) (fun a W hJ => ?_) ?_
  ·
   obtain ⟨x9, A10, c11, rfl, hF, hS⟩ := hJ
   have h := hk13
   refine tn <| wq <| wg <| mv hF rfl rfl fun a hF => ?_
   obtain ⟨x14, hx15, h⟩ := bindS h
   refine sq_call hF pc126 rfl (by decide) (ok_slices_Clip_Rule hS hx15) (fun v W hR a hF => ?_)
   obtain ⟨A16, c17, rfl, hS⟩ := hR
   refine av hF rfl rfl fun a hF => nl <| tn <| rt ?_
   obtain rfl := si h
   exact ret1 hF rfl (rv_tmp hF rfl) ⟨_, rfl, A16, c17, rfl, hS⟩
  ·
   have hS := hS.addNil k_TRule 51
   refine wb <| wp_loop_fuel (I := fun m a W => ∃ (x5 : List TRule) (x8 : Int) (A6 : Option Addr) (c7 : Nat), FH 20 [(3, .slice A6 ((x5).length) c7), (6, .slice A0_0 ((u0).length) c0_0), (7, .int .i64 ((u0.length : Int))), (8, .int .i64 (x8))] a ∧ St M w0 [] [⟨k_TRule, 51, A6, c7, x5⟩] [fSl k_TRule A0_0 c0_0 u0] W ∧ (rule_Copy.l0 k u0 m x5 x8) = some o12) ?_ (k := k) ⟨([]), 0, none, 0, (hF.keep ⟨rfl, rfl, rfl, rfl, trivial⟩), hS, h⟩
   rintro m18 a W ⟨x5, x8, A6, c7, hF, hS, h⟩
   cases m18 with
   | zero => cases h
   | succ m18 =>
    rw [rule_Copy.l0] at h
    refine wq <| wg <| sv (v_lss hF rfl rfl) hF rfl fun a hF => nl <| tn <| wq <| wi hF rfl h (fun h => ?_) fun h => ?_
    ·
     refine sk <| tn <| wq <| wb <| wq <| wg ?_
     obtain ⟨x20, hx21, h⟩ := bindS h
     obtain ⟨p22, cs23, hA24, hat25⟩ := SlR.at (hS.fc (i := 0) rfl) hx21
     obtain ⟨A26, c27, rfl, hs28⟩ := hat25.2.2.2
     have hS := hS.addFact (f := fAt k_TRule (p22.add (x8.toNat * 32)) (TRule.enc x20 A26 c27) x20) hat25
     have hS := hS.addFact (f := fSl k_TAct A26 c27 x20.Acts) hs28
     refine sv (v_idx hF rfl hA24 rfl psl26 hx21) hF rfl fun a hF => sv (v_load (cs := TRule.enc x20 A26 c27) hF rfl pa51 ps51 (hS.pc (i := 1) rfl)) hF rfl fun a hF => al hF hS pz51 rfl rfl fun b29 a W hF hS => sq_store (o := 0) (vs := TRule.enc x20 A26 c27) (cs' := TRule.enc x20 A26 c27) hF hS rfl rfl (i := 0) rfl rfl rfl ps51 (TRule.enc_one _ _ _) (bl rfl) rfl fun W hS => nl <| tn <| wg <| mv hF rfl rfl fun a hF => sv (v_load (cs := TRule.enc x20 A26 c27) hF rfl pa51 ps51 (hS.bc (i := 0) rfl)) hF rfl fun a hF => ?_
     obtain ⟨x30, hx31, h⟩ := bindS h
     refine sq_call hF pc125 rfl (by decide) (ok_rule_copied (hS.enter ⟨⟨0, rfl⟩, trivial⟩) hx31) (fun v W hR a hF => ?_)
     obtain ⟨A32, c33, rfl, hT34⟩ := hR
     have hS := hS.join hT34
     refine sq_buildSlice (κ := k_TRule) (xs := [.tmp 14]) (ys := [x30]) hF hS rfl rfl rfl (Els.cons ⟨A32, c33, rfl, (hS.fc (i := 0) rfl)⟩ (Els.nil _ _ _)) rfl psl26 pz51 rfl (by decide) (by decide) (by decide) (fun A35 c36 a W hF hS => ?_)
     obtain ⟨x39, hx40, h⟩ := bindS h
     refine sq_append (ys := ([x30])) hF hS (i := 1) rfl rfl rfl (hS.rw_ (i := 0) rfl).src psl26 pb51 pz51 rfl (by decide) (by decide) hx40 (by decide) (fun A37 c38 a W hF hS => ?_)
     exact av hF rfl rfl fun a hF => nl <| bn <| tn <| wg <| sv (v_add hF rfl rfl) hF rfl fun a hF => mv hF rfl rfl fun a hF => nl <| then_j ⟨m18, Nat.lt_succ_self _, x39, (IntKind.i64.wrap (x8 + 1)), A37, c38, (hF.keep ⟨rfl, rfl, rfl, rfl, trivial⟩), (hS.keep sn (.cons _ sl) ⟨⟨3, rfl⟩, trivial⟩), h⟩
    ·
     refine wp_exit <| tx <| tx <| bh ?_
     obtain rfl := si h
     exact then_j ⟨x5, A6, c7, rfl, (hF.keep ⟨rfl, trivial⟩), (hS.keep sl sl trivial)⟩

theorem ok_slices_BinarySearchFunc_Rule (k : Nat) {M : Nat → Prop} {w0 : World} {u0 : List TRule} {A0_0 : Option Addr} {c0_0 : Nat} {u1 : TRule} {A1_0 : Option Addr} {c1_0 : Nat} {F2 : FuncId} {caps2 : List Value} {u2 : TRule → TRule → Option Int} {o : Int × Bool} (hS : St M w0 [] [] [fSl k_TRule A0_0 c0_0 u0, fSl k_TAct A1_0 c1_0 u1.Acts, fFn2 Tryz.prog F2 caps2 k_TRule true k_TRule true u2 (fun y => .int .i64 y)] w0) (h : slices_BinarySearchFunc_Rule k u0 u1 u2 = some o) :
    Calls Tryz.prog 290 #[.slice A0_0 ((u0).length) c0_0, .agg (TRule.enc u1 A1_0 c1_0).toArray, .func (.func F2) #[] caps2.toArray] w0 fun e W' => ∃ v, e = .returned v ∧ (v = .tuple #[.int .i64 (o.1), .bool (o.2)] ∧ St M w0 [] [] [] W') := by
  unfold slices_BinarySearchFunc_Rule at h
  refine cst Tryz.func290 rfl rfl rfl fun a hF => wq <| wg <| bv hF hS rfl rfl rfl fun b1 a W hF hS => av hF rfl rfl fun a hF => av hF rfl rfl fun a hF => nl <| tn <| wq <| wg <| mv hF rfl rfl fun a hF => sv (v_len hF rfl pu26) hF rfl fun a hF => av hF rfl rfl fun a hF => nl <| tn <| wq <| wg <| mv hF rfl rfl fun a hF => av hF rfl rfl fun a hF => av hF rfl rfl fun a hF => nl <| tn <| wq ?_
  obtain ⟨o7, h, hk8⟩ := bindS h
  refine wp_join (fun a W => ∃ (x6 : Int), x6 = o7 ∧ FH 49 [(0, .slice A0_0 ((u0).length) c0_0), (2, .func (.func F2) #[] caps2.toArray), (4, .pointer (some (⟨b1, 0, none⟩))), (8, .int .i64 ((u0.length : Int))), (9, .int .i64 (x6))] a ∧ St M w0 [⟨b1, TRule.enc u1 A1_0 c1_0, 51⟩] [] [fSl k_TRule A0_0 c0_0 u0, fSl k_TAct A1_0 c1_0 u1.Acts, fFn2 Tryz.prog F2 caps2 k_TRule true k_TRule true u2 (fun y => .int .i64 y)] W) (fun a W hJ => ?_) ?_
  ·
   obtain ⟨x6, rfl, hF, hS⟩ := hJ
   have h := hk8
   refine tn <| wq <| wp_quiet rfl (by kernel_rfl) hS <| qv (fun W hC => (v_move hF rfl)) hF rfl fun a hF => qv (fun W hC => (v_move hF rfl)) hF rfl fun a hF => qv (fun W hC => (v_move hF rfl)) hF rfl fun a hF => qv (fun W hC => (v_lss hF rfl rfl)) hF rfl fun a hF => qv (fun W hC => (v_move hF rfl)) hF rfl fun a hF => ?_
   obtain ⟨x10, h, hk12⟩ := bindS h
   refine qt_cut 9 (fun a => FH 49 [(35, .int .i64 (x6)), (48, .bool x10)] a) (fun a hF => ?_) ?_
   ·
    have h := hk12
    refine qv (fun W hC => (v_assign hF rfl)) hF rfl fun a hF => qv (fun W hC => (v_assign hF rfl)) hF rfl fun a hF => qn ?_
    intro W hC
    have hS := hC.2
    refine tn <| rt ?_
    obtain rfl := si h
    exact ret2 hF rfl (rv_tmp hF rfl) (rv_tmp hF rfl) ⟨_, rfl, rfl, (hS.keep sn sl trivial)⟩
   ·
    by_cases he9 : (decide (x6 < (u0.length : Int))) = true
    ·
     replace h := ifT he9 h
     refine qt_yes hF rfl rfl he9 <| qv (fun W hC => (v_move hF rfl)) hF rfl fun a hF => qt_yes hF rfl rfl he9 <| qv (fun W hC => (v_move hF rfl)) hF rfl fun a hF => qt_yes hF rfl rfl he9 <| qv (fun W hC => (v_move hF rfl)) hF rfl fun a hF => qt_yes hF rfl rfl he9 ?_
     obtain ⟨x13, hx14, h⟩ := bindS h
     obtain ⟨p15, cs16, hA17, hat18⟩ := SlR.at (hS.fc (i := 0) rfl) hx14
     obtain ⟨A19, c20, rfl, hs21⟩ := hat18.2.2.2
     refine qv (fun W hC => (v_idx hF rfl hA17 rfl psl26 hx14)) hF rfl fun a hF => qt_yes hF rfl rfl he9 <| qv (fun W hC => (v_load (cs := TRule.enc x13 A19 c20) hF rfl pa51 ps51 (hat18.2.2.1.grow hC.1))) hF rfl fun a hF => qt_yes hF rfl rfl he9 <| qv (fun W hC => (v_load (cs := TRule.enc u1 A1_0 c1_0) hF rfl pa51 ps51 (hC.2.bc (i := 0) rfl))) hF rfl fun a hF => qt_yes hF rfl rfl he9 ?_
     obtain ⟨x22, hx23, h⟩ := bindS h
     refine qt_callv hF (hS.fc (i := 2) rfl).1 rfl rfl (by decide) (fun W hC => qcall hC (call2 (hC.2.fc (i := 2) rfl) hC.2 ⟨A19, c20, rfl, (hs21.st (Stp.below hC.1))⟩ ⟨A1_0, c1_0, rfl, (hC.2.fc (i := 1) rfl)⟩ hx23)) (fun a hF => ?_)
     refine qt_yes hF rfl rfl he9 <| qv (fun W hC => (v_eql hF rfl rfl)) hF rfl fun a hF => qv (fun W hC => (v_pick_t hF rfl he9 rfl)) hF rfl fun a hF => ?_
     obtain rfl := si h
     exact qt_nil (hF.keep ⟨rfl, rfl, trivial⟩)
    ·
     have he9 : (decide (x6 < (u0.length : Int))) = false := nB he9
     replace h := ifF he9 h
     refine qt_no hF rfl rfl he9 (by decide) (fun a hF => ?_)
     refine qt_no hF rfl rfl he9 (by decide) (fun a hF => ?_)
     refine qt_no hF rfl rfl he9 (by decide) (fun a hF => ?_)
     refine qt_no hF rfl rfl he9 (by decide) (fun a hF => ?_)
     refine qt_no hF rfl rfl he9 (by decide) (fun a hF => ?_)
     refine qt_no hF rfl rfl he9 (by decide) (fun a hF => ?_)
     refine qt_no hF rfl rfl he9 (by decide) (fun a hF => ?_)
     refine qt_no hF rfl rfl he9 (by decide) (fun a hF => ?_)
     refine qv (fun W hC => (v_pick_f hF rfl he9 rfl)) hF rfl fun a hF => ?_
     obtain rfl := si h
     exact qt_nil (hF.keep ⟨rfl, rfl, trivial⟩)
  ·
   refine wb <| wp_loop_fuel (I := fun m a W => ∃ (x4 : Int) (x5 : Int), FH 49 [(0, .slice A0_0 ((u0).length) c0_0), (2, .func (.func F2) #[] caps2.toArray), (4, .pointer (some (⟨b1, 0, none⟩))), (8, .int .i64 ((u0.length : Int))), (9, .int .i64 (x4)), (10, .int .i64 (x5))] a ∧ St M w0 [⟨b1, TRule.enc u1 A1_0 c1_0, 51⟩] [] [fSl k_TRule A0_0 c0_0 u0, fSl k_TAct A1_0 c1_0 u1.Acts, fFn2 Tryz.prog F2 caps2 k_TRule true k_TRule true u2 (fun y => .int .i64 y)] W ∧ (slices_BinarySearchFunc_Rule.l0 k u0 u1 u2 m x4 x5) = some o7) ?_ (k := k) ⟨0, (u0.length : Int), (hF.keep ⟨rfl, rfl, rfl, rfl, rfl, rfl, trivial⟩), hS, h⟩
   rintro m24 a W ⟨x4, x5, hF, hS, h⟩
   cases m24 with
   | zero => cases h
   | succ m24 =>
    rw [slices_BinarySearchFunc_Rule.l0] at h
    refine wq <| wq <| wg <| mv hF rfl rfl fun a hF => mv hF rfl rfl fun a hF => sv (v_lss hF rfl rfl) hF rfl fun a hF => nl <| tn <| wi hF rfl h (fun h => ?_) fun h => ?_
    ·
     refine sk <| tn ?_
     obtain ⟨o28, h, hk29⟩ := bindS h
     refine wp_join (fun a W => ∃ (x26 : Int) (x27 : Int), (x26, x27) = o28 ∧ FH 49 [(0, .slice A0_0 ((u0).length) c0_0), (2, .func (.func F2) #[] caps2.toArray), (4, .pointer (some (⟨b1, 0, none⟩))), (8, .int .i64 ((u0.length : Int))), (9, .int .i64 (x26)), (10, .int .i64 (x27))] a ∧ St M w0 [⟨b1, TRule.enc u1 A1_0 c1_0, 51⟩] [] [fSl k_TRule A0_0 c0_0 u0, fSl k_TAct A1_0 c1_0 u1.Acts, fFn2 Tryz.prog F2 caps2 k_TRule true k_TRule true u2 (fun y => .int .i64 y)] W) (fun a W hJ => ?_) ?_
     ·
      obtain ⟨x26, x27, rfl, hF, hS⟩ := hJ
      have h := hk29
      dsimp only at h
      exact then_j ⟨m24, Nat.lt_succ_self _, x26, x27, (hF.keep ⟨rfl, rfl, rfl, rfl, rfl, rfl, trivial⟩), hS, h⟩
     ·
      refine wb <| wq <| wg <| mv hF rfl rfl fun a hF => mv hF rfl rfl fun a hF => sv (v_add hF rfl rfl) hF rfl fun a hF => sv (v_convI hF rfl pu3 pu235) hF rfl fun a hF => sv (v_shr hF rfl rfl (by decide)) hF rfl fun a hF => sv (v_convI hF rfl pu235 pu3) hF rfl fun a hF => av hF rfl rfl fun a hF => nl <| tn <| wq <| wp_quiet rfl (by kernel_rfl) hS <| qv (fun W hC => (v_move hF rfl)) hF rfl fun a hF => qv (fun W hC => (v_move hF rfl)) hF rfl fun a hF => qv (fun W hC => (v_move hF rfl)) hF rfl fun a hF => ?_
      obtain ⟨x30, hx31, h⟩ := bindS h
      obtain ⟨p32, cs33, hA34, hat35⟩ := SlR.at (hS.fc (i := 0) rfl) hx31
      obtain ⟨A36, c37, rfl, hs38⟩ := hat35.2.2.2
      refine qv (fun W hC => (v_idx hF rfl hA34 rfl psl26 hx31)) hF rfl fun a hF => qv (fun W hC => (v_load (cs := TRule.enc x30 A36 c37) hF rfl pa51 ps51 (hat35.2.2.1.grow hC.1))) hF rfl fun a hF => qv (fun W hC => (v_load (cs := TRule.enc u1 A1_0 c1_0) hF rfl pa51 ps51 (hC.2.bc (i := 0) rfl))) hF rfl fun a hF => ?_
      obtain ⟨x39, hx40, h⟩ := bindS h
      refine qt_callv hF (hS.fc (i := 2) rfl).1 rfl rfl (by decide) (fun W hC => qcall hC (call2 (hC.2.fc (i := 2) rfl) hC.2 ⟨A36, c37, rfl, (hs38.st (Stp.below hC.1))⟩ ⟨A1_0, c1_0, rfl, (hC.2.fc (i := 1) rfl)⟩ hx40)) (fun a hF => ?_)
      refine qv (fun W hC => (v_lss hF rfl rfl)) hF rfl fun a hF => qn ?_
      intro W hC
      have hS := hC.2
      refine tn ?_
      obtain ⟨o43, h, hk44⟩ := bindS h
      refine wp_join (fun a W => ∃ (x41 : Int) (x42 : Int), (x41, x42) = o43 ∧ FH 49 [(0, .slice A0_0 ((u0).length) c0_0), (2, .func (.func F2) #[] caps2.toArray), (4, .pointer (some (⟨b1, 0, none⟩))), (8, .int .i64 ((u0.length : Int))), (9, .int .i64 (x41)), (10, .int .i64 (x42))] a ∧ St M w0 [⟨b1, TRule.enc u1 A1_0 c1_0, 51⟩] [] [fSl k_TRule A0_0 c0_0 u0, fSl k_TAct A1_0 c1_0 u1.Acts, fFn2 Tryz.prog F2 caps2 k_TRule true k_TRule true u2 (fun y => .int .i64 y)] W) (fun a W hJ => ?_) ?_
      ·
       obtain ⟨x41, x42, rfl, hF, hS⟩ := hJ
       have h := hk44
       dsimp only at h
       refine bn ?_
       obtain rfl := si h
       exact then_j ⟨x41, x42, rfl, (hF.keep ⟨rfl, rfl, rfl, rfl, rfl, rfl, trivial⟩), hS⟩
      ·
       refine wi hF rfl h (fun h => ?_) fun h => ?_
       ·
        refine wg <| mv hF rfl rfl fun a hF => sv (v_add hF rfl rfl) hF rfl fun a hF => av hF rfl rfl fun a hF => nl ?_
        obtain rfl := si h
        exact then_j ⟨(IntKind.i64.wrap ((IntKind.i64.wrap (bShr .u64 (IntKind.u64.wrap (IntKind.i64.wrap (x4 + x5))) 1)) + 1)), x5, rfl, (hF.keep ⟨rfl, rfl, rfl, rfl, rfl, rfl, trivial⟩), hS⟩
       ·
        refine wg <| mv hF rfl rfl fun a hF => av hF rfl rfl fun a hF => nl ?_
        obtain rfl := si h
        exact then_j ⟨x4, (IntKind.i64.wrap (bShr .u64 (IntKind.u64.wrap (IntKind.i64.wrap (x4 + x5))) 1)), rfl, (hF.keep ⟨rfl, rfl, rfl, rfl, rfl, rfl, trivial⟩), hS⟩
    ·
     refine wp_exit <| tx <| tx <| bh ?_
     obtain rfl := si h
     exact then_j ⟨x4, rfl, (hF.keep ⟨rfl, rfl, rfl, rfl, rfl, trivial⟩), hS⟩

theorem ok_slices_Insert_Rule {M : Nat → Prop} {w0 : World} {bs : List Box} {rs : List Row} {fs : List Fact} {W0 : World} {u0 : List TRule} {A0_0 : Option Addr} {c0_0 : Nat} {u1 : Int} {u2 : List TRule} {A2_0 : Option Addr} {c2_0 : Nat} {o : List TRule} (hS : St M w0 bs (⟨k_TRule, 51, A0_0, c0_0, u0⟩ :: ⟨k_TRule, 51, A2_0, c2_0, u2⟩ :: rs) fs W0) (h : slices_Insert_Rule u0 u1 u2 = some o) :
    Calls Tryz.prog 291 #[.slice A0_0 (u0).length c0_0, .int .i64 u1, .slice A2_0 (u2).length c2_0] W0 fun e W' => ∃ v, e = .returned v ∧ ∃ (A : Option Addr) (c : Nat), v = .slice A (o).length c ∧ St M w0 bs (⟨k_TRule, 51, A, c, o⟩ :: rs) fs W' :=
  ins_ok rfl hS h

theorem ok_rule_Sort (k : Nat) {M : Nat → Prop} {w0 : World} {u0 : List TRule} {A0_0 : Option Addr} {c0_0 : Nat} {o : (List TRule)} (hS : St M w0 [] [] [fSl k_TRule A0_0 c0_0 u0] w0) (h : rule_Sort k u0 = some o) :
    Calls Tryz.prog 257 #[.slice A0_0 ((u0).length) c0_0] w0 fun e W' => ∃ v, e = .returned v ∧ (∃ (A75 : Option Addr) (c76 : Nat), v = .slice A75 ((o).length) c76 ∧ St M w0 [] [⟨k_TRule, 51, A75, c76, o⟩] [] W') := by
  unfold rule_Sort at h
  refine cst Tryz.func257 rfl rfl rfl fun a hF => wq <| wg <| av hF rfl rfl fun a hF => nl <| tn <| wq <| wg <| av hF rfl rfl fun a hF => nl <| tn <| wq <| wq <| wg <| mv hF rfl rfl fun a hF => sv (v_len hF rfl pu26) hF rfl fun a hF => mv hF rfl rfl fun a hF => nl <| tn ?_
  obtain ⟨o12, h, hk13⟩ := bindS h
  refine wp_join (fun a W => ∃ (x9 : List TRule) (A10 : Option Addr) (c11 : Nat), x9 = o12 ∧ FH 38 [(3, .slice A10 ((x9).length) c11)] a ∧ St M w0 [] [⟨k_TRule, 51, A10, c11, x9⟩] [] W) (fun a W hJ => ?_) ?_
  ·
   obtain ⟨x9, A10, c11, rfl, hF, hS⟩ := hJ
   have h := hk13
   refine tn <| wq <| wg <| mv hF rfl rfl fun a hF => ?_
   obtain ⟨x14, hx15, h⟩ := bindS h
   refine sq_call hF pc126 rfl (by decide) (ok_slices_Clip_Rule hS hx15) (fun v W hR a hF => ?_)
   obtain ⟨A16, c17, rfl, hS⟩ := hR
   refine av hF rfl rfl fun a hF => nl <| tn <| rt ?_
   obtain rfl := si h
   exact ret1 hF rfl (rv_tmp hF rfl) ⟨_, rfl, A16, c17, rfl, hS⟩
  ·
   have hS := hS.addNil k_TRule 51
   refine wb <| wp_loop_fuel (I := fun m a W => ∃ (x5 : List TRule) (x8 : Int) (A6 : Option Addr) (c7 : Nat), FH 38 [(3, .slice A6 ((x5).length) c7), (8, .slice A0_0 ((u0).length) c0_0), (9, .int .i64 ((u0.length : Int))), (10, .int .i64 (x8))] a ∧ St M w0 [] [⟨k_TRule, 51, A6, c7, x5⟩] [fSl k_TRule A0_0 c0_0 u0] W ∧ (rule_Sort.l0 k u0 m x5 x8) = some o12) ?_ (k := k) ⟨([]), 0, none, 0, (hF.keep ⟨rfl, rfl, rfl, rfl, trivial⟩), hS, h⟩
   rintro m18 a W ⟨x5, x8, A6, c7, hF, hS, h⟩
   cases m18 with
   | zero => cases h
   | succ m18 =>
    rw [rule_Sort.l0] at h
    refine wq <| wg <| sv (v_lss hF rfl rfl) hF rfl fun a hF => nl <| tn <| wq <| wi hF rfl h (fun h => ?_) fun h => ?_
    ·
     refine sk <| tn <| wq ?_
     obtain ⟨o23, h, hk24⟩ := bindS h
     refine wp_join (fun a W => ∃ (x20 : List TRule) (A21 : Option Addr) (c22 : Nat), x20 = o23 ∧ FH 38 [(3, .slice A21 ((x20).length) c22), (8, .slice A0_0 ((u0).length) c0_0), (9, .int .i64 ((u0.length : Int))), (10, .int .i64 (x8))] a ∧ St M w0 [] [⟨k_TRule, 51, A21, c22, x20⟩] [fSl k_TRule A0_0 c0_0 u0] W) (fun a W hJ => ?_) ?_
     ·
      obtain ⟨x20, A21, c22, rfl, hF, hS⟩ := hJ
      have h := hk24
      exact tn <| wg <| sv (v_add hF rfl rfl) hF rfl fun a hF => mv hF rfl rfl fun a hF => nl <| then_j ⟨m18, Nat.lt_succ_self _, x20, (IntKind.i64.wrap (x8 + 1)), A21, c22, (hF.keep ⟨rfl, rfl, rfl, rfl, trivial⟩), hS, h⟩
     ·
      refine wb <| wq <| wg ?_
      obtain ⟨x25, hx26, h⟩ := bindS h
      obtain ⟨p27, cs28, hA29, hat30⟩ := SlR.at (hS.fc (i := 0) rfl) hx26
      obtain ⟨A31, c32, rfl, hs33⟩ := hat30.2.2.2
      have hS := hS.addFact (f := fAt k_TRule (p27.add (x8.toNat * 32)) (TRule.enc x25 A31 c32) x25) hat30
      have hS := hS.addFact (f := fSl k_TAct A31 c32 x25.Acts) hs33
      refine sv (v_idx hF rfl hA29 rfl psl26 hx26) hF rfl fun a hF => sv (v_load (cs := TRule.enc x25 A31 c32) hF rfl pa51 ps51 (hS.pc (i := 1) rfl)) hF rfl fun a hF => al hF hS pz51 rfl rfl fun b34 a W hF hS => sq_store (o := 0) (vs := TRule.enc x25 A31 c32) (cs' := TRule.enc x25 A31 c32) hF hS rfl rfl (i := 0) rfl rfl rfl ps51 (TRule.enc_one _ _ _) (bl rfl) rfl fun W hS => nl <| tn <| wq <| wq <| wg <| sv (v_load (cs := TRule.enc x25 A31 c32) hF rfl pa51 ps51 (hS.bc (i := 0) rfl)) hF rfl fun a hF => ?_
      obtain ⟨x35, hx36, h⟩ := bindS h
      refine cl hF pc248 rfl rfl (ok_rule_Sound k (hS.enter ⟨⟨0, rfl⟩, trivial⟩) hx36) hS fun W a hF hS => sv (v_not hF rfl) hF rfl fun a hF => nl <| tn <| wi hF rfl h (fun h => ?_) fun h => ?_
      ·
       refine wp_exit <| tx <| bh ?_
       obtain rfl := si h
       exact then_j ⟨x5, A6, c7, rfl, (hF.keep ⟨rfl, rfl, rfl, rfl, trivial⟩), (hS.keep sn sl ⟨⟨2, rfl⟩, trivial⟩)⟩
      ·
       refine sk <| tn <| wq <| wg <| mv hF rfl rfl fun a hF => sv (v_load (cs := TRule.enc x25 A31 c32) hF rfl pa51 ps51 (hS.bc (i := 0) rfl)) hF rfl fun a hF => ?_
       have hS := hS.addFact (f := fFn2 Tryz.prog 289 ([]) k_TRule true k_TRule true (fun (a0 : TRule) (a1 : TRule) => rule_compare k a0 a1) (fun y => .int .i64 y)) ⟨pc289, fun M' W' hs hv cs a0 cs2 a1 y hR hR2 hp => by obtain ⟨P0_0, q0_0, rfl, z0_0⟩ := hR; obtain ⟨P1_0, q1_0, rfl, z1_0⟩ := hR2; exact fromSt (ok_rule_compare k (St.ofAll hv ⟨z0_0, z1_0, trivial⟩) hp)⟩
       obtain ⟨x39, hx40, h⟩ := bindS h
       refine cl hF pc290 rfl rfl (ok_slices_BinarySearchFunc_Rule k ((hS.freeze (i := 0) rfl (posB rfl)).enter ⟨⟨0, rfl⟩, ⟨2, rfl⟩, ⟨1, rfl⟩, trivial⟩) hx40) hS fun W a hF hS => mv hF rfl rfl fun a hF => sv (v_extract hF rfl rfl) hF rfl fun a hF => sv (v_extract hF rfl rfl) hF rfl fun a hF => av hF rfl rfl fun a hF => av hF rfl rfl fun a hF => nl <| tn <| wq <| wg <| mv hF rfl rfl fun a hF => nl <| tn ?_
       obtain ⟨o45, h, hk46⟩ := bindS h
       refine wp_join (fun a W => ∃ (x42 : List TRule) (A43 : Option Addr) (c44 : Nat), x42 = o45 ∧ FH 38 [(3, .slice A43 ((x42).length) c44), (8, .slice A0_0 ((u0).length) c0_0), (9, .int .i64 ((u0.length : Int))), (10, .int .i64 (x8))] a ∧ St M w0 [] [⟨k_TRule, 51, A43, c44, x42⟩] [fSl k_TRule A0_0 c0_0 u0] W) (fun a W hJ => ?_) ?_
       ·
        obtain ⟨x42, A43, c44, rfl, hF, hS⟩ := hJ
        have h := hk46
        refine bn ?_
        obtain rfl := si h
        exact then_j ⟨x42, A43, c44, rfl, (hF.keep ⟨rfl, rfl, rfl, rfl, trivial⟩), hS⟩
       ·
        refine wi hF rfl h (fun h => ?_) fun h => ?_
        ·
         refine wg <| mv hF rfl rfl fun a hF => mv hF rfl rfl fun a hF => sv (v_load (cs := TRule.enc x25 A31 c32) hF rfl pa51 ps51 (hS.bc (i := 0) rfl)) hF rfl fun a hF => ?_
         obtain ⟨x48, hx49, h⟩ := bindS h
         refine sq_call hF pc125 rfl (by decide) (ok_rule_copied (hS.enter ⟨⟨1, rfl⟩, trivial⟩) hx49) (fun v W hR a hF => ?_)
         obtain ⟨A50, c51, rfl, hT52⟩ := hR
         have hS := hS.join hT52
         obtain ⟨x53, hx54, h⟩ := bindS h
         obtain ⟨p55, cs56, hA57, hc59, hr60⟩ := Row.ok.at (hS.rw_ (i := 0) rfl) hx54
         obtain ⟨A61, c62, rfl, hs63⟩ := hr60
         have hS := hS.addFact (f := fSl k_TAct A61 c62 x53.Acts) hs63
         refine sv (v_idx hF rfl hA57 rfl psl26 hx54) hF rfl fun a hF => sq_storeEl hF hS (i := 0) rfl hA57 rfl hx54 rfl rfl ps51 ⟨A50, c51, rfl, (hS.fc (i := 1) rfl)⟩ (fun W hS => ?_)
         have hF : FH 38 [(3, .slice A6 (((x5.set x39.1.toNat x48)).length) c7), (5, .pointer (some (⟨b34, 0, none⟩))), (6, .int .i64 (x39.1)), (7, .bool (x39.2)), (8, .slice A0_0 ((u0).length) c0_0), (9, .int .i64 ((u0.length : Int))), (10, .int .i64 (x8)), (11, .bool ((decide (x8 < (u0.length : Int))))), (12, .pointer (some (p27.add (x8.toNat * 32)))), (13, .agg (TRule.enc x25 A31 c32).toArray), (14, .agg (TRule.enc x25 A31 c32).toArray), (15, .bool (x35)), (16, .bool ((!x35))), (17, .tuple #[.int .i64 (x39.1), .bool (x39.2)]), (18, .slice A6 (((x5.set x39.1.toNat x48)).length) c7), (19, .agg (TRule.enc x25 A31 c32).toArray), (20, .tuple #[.int .i64 (x39.1), .bool (x39.2)]), (21, .int .i64 (x39.1)), (22, .bool (x39.2)), (23, .bool (x39.2)), (24, .slice A6 (((x5.set x39.1.toNat x48)).length) c7), (25, .int .i64 (x39.1)), (26, .agg (TRule.enc x25 A31 c32).toArray), (27, .agg (TRule.enc x48 A50 c51).toArray)] a := (hF.keep ⟨(by simp only [List.length_set] <;> rfl), rfl, rfl, rfl, rfl, rfl, rfl, rfl, rfl, rfl, rfl, rfl, rfl, rfl, (by simp only [List.length_set] <;> rfl), rfl, rfl, rfl, rfl, rfl, (by simp only [List.length_set] <;> rfl), rfl, rfl, rfl, trivial⟩)
         refine nl ?_
         obtain rfl := si h
         exact then_j ⟨(x5.set x39.1.toNat x48), A6, c7, rfl, (hF.keep ⟨rfl, rfl, rfl, rfl, trivial⟩), (hS.keep sn sl ⟨⟨5, rfl⟩, trivial⟩)⟩
        ·
         refine wg <| mv hF rfl rfl fun a hF => mv hF rfl rfl fun a hF => sv (v_load (cs := TRule.enc x25 A31 c32) hF rfl pa51 ps51 (hS.bc (i := 0) rfl)) hF rfl fun a hF => ?_
         obtain ⟨x64, hx65, h⟩ := bindS h
         refine sq_call hF pc125 rfl (by decide) (ok_rule_copied (hS.enter ⟨⟨1, rfl⟩, trivial⟩) hx65) (fun v W hR a hF => ?_)
         obtain ⟨A66, c67, rfl, hT68⟩ := hR
         have hS := hS.join hT68
         refine sq_buildSlice (κ := k_TRule) (xs := [.tmp 32]) (ys := [x64]) hF hS rfl rfl rfl (Els.cons ⟨A66, c67, rfl, (hS.fc (i := 0) rfl)⟩ (Els.nil _ _ _)) rfl psl26 pz51 rfl (by decide) (by decide) (by decide) (fun A69 c70 a W hF hS => ?_)
         have hS := hS.perm (List.Perm.refl _) (.trans (.swap _ _ _) (List.Perm.refl _))
         obtain ⟨x71, hx72, h⟩ := bindS h
         refine sq_call hF pc291 rfl (by decide) (ok_slices_Insert_Rule hS hx72) (fun v W hR a hF => ?_)
         obtain ⟨A73, c74, rfl, hS⟩ := hR
         refine av hF rfl rfl fun a hF => nl ?_
         obtain rfl := si h
         exact then_j ⟨x71, A73, c74, rfl, (hF.keep ⟨rfl, rfl, rfl, rfl, trivial⟩), (hS.keep sn sl ⟨⟨4, rfl⟩, trivial⟩)⟩
    ·
     refine wp_exit <| tx <| tx <| bh ?_
     obtain rfl := si h
     exact then_j ⟨x5, A6, c7, rfl, (hF.keep ⟨rfl, trivial⟩), (hS.keep sl sl trivial)⟩

theorem ok_mods_add (k : Nat) {M : Nat → Prop} {w0 : World} {u0 : List TRule} {A0_0 : Option Addr} {c0_0 : Nat} {u1 : TMod} {A1_0 : Option Addr} {c1_0 : Nat} {u2 : Int} {o : (List TRule) × Int} (hS : St M w0 [] [] [fSl k_TRule A0_0 c0_0 u0, fSl k_TAct A1_0 c1_0 u1.Acts] w0) (h : mods_add k u0 u1 u2 = some o) :
    Calls Tryz.prog 207 #[.slice A0_0 ((u0).length) c0_0, .agg (TMod.enc u1 A1_0 c1_0).toArray, .int .i64 (u2)] w0 fun e W' => ∃ v, e = .returned v ∧ (∃ (A66 : Option Addr) (c67 : Nat), v = .tuple #[.slice A66 ((o.1).length) c67, .int .i64 (o.2)] ∧ St M w0 [] [⟨k_TRule, 51, A66, c67, o.1⟩] [] W') := by
  unfold mods_add at h
  refine cst Tryz.func207 rfl rfl rfl fun a hF => wq <| wg <| bv hF hS rfl rfl rfl fun b1 a W hF hS => av hF rfl rfl fun a hF => av hF rfl rfl fun a hF => nl <| tn <| wq <| wg <| sv (v_load (cs := TMod.enc u1 A1_0 c1_0) hF rfl pa57 ps57 (hS.bc (i := 0) rfl)) hF rfl fun a hF => ?_
  obtain ⟨x2, hx3, h⟩ := bindS h
  refine sq_call hF pc251 rfl (by decide) (ok_mods_Rule (hS.enter ⟨⟨1, rfl⟩, trivial⟩) hx3) (fun v W hR a hF => ?_)
  obtain ⟨A4, c5, rfl, hT6⟩ := hR
  have hS := hS.join hT6
  refine al hF hS pz51 rfl rfl fun b7 a W hF hS => sq_store (o := 0) (vs := TRule.enc x2 A4 c5) (cs' := TRule.enc x2 A4 c5) hF hS rfl rfl (i := 0) rfl rfl rfl ps51 (TRule.enc_one _ _ _) (bl rfl) rfl fun W hS => nl <| tn <| wq <| wg <| mv hF rfl rfl fun a hF => ?_
  have hS := hS.freezeBox (i := 0) rfl
  have hS := hS.addFact (f := fFn1 Tryz.prog 254 ([.pointer (some (⟨b7, 0, none⟩))]) k_TRule true (fun (a0 : TRule) => mods_add_1 a0 x2) (fun y => .bool y)) ⟨pc254, fun M' W' hs hv cs a0 y hR hp => by obtain ⟨P0_0, q0_0, rfl, z0_0⟩ := hR; exact fromSt (ok_mods_add_1 (St.ofAll hv ⟨z0_0, ((fSl k_TAct A4 c5 x2.Acts).st (hS.fc (i := 1) rfl) hs), ((fBox b7 (TRule.enc x2 A4 c5) 51).st (hS.fc (i := 0) rfl) hs), trivial⟩) hp)⟩
  refine sv (v_makeFunc (xs := [.tmp 8]) (vs := [.pointer (some (⟨b7, 0, none⟩))]) hF rfl) hF rfl fun a hF => ?_
  obtain ⟨x8, hx9, h⟩ := bindS h
  refine cl hF pc59 rfl rfl (ok_slices_IndexFunc_Rule k (hS.enter ⟨⟨3, rfl⟩, ⟨0, rfl⟩, trivial⟩) hx9) hS fun W a hF hS => av hF rfl rfl fun a hF => nl <| tn <| wq <| wg ?_
  have hS := hS.addFact (f := fFn1 Tryz.prog 255 ([.pointer (some (⟨b7, 0, none⟩))]) k_TRule true (fun (a0 : TRule) => mods_add_2 k a0 x2) (fun y => .bool y)) ⟨pc255, fun M' W' hs hv cs a0 y hR hp => by obtain ⟨P0_0, q0_0, rfl, z0_0⟩ := hR; exact fromSt (ok_mods_add_2 k (St.ofAll hv ⟨z0_0, ((fSl k_TAct A4 c5 x2.Acts).st (hS.fc (i := 2) rfl) hs), ((fBox b7 (TRule.enc x2 A4 c5) 51).st (hS.fc (i := 1) rfl) hs), trivial⟩) hp)⟩
  refine sv (v_makeFunc (xs := [.tmp 8]) (vs := [.pointer (some (⟨b7, 0, none⟩))]) hF rfl) hF rfl fun a hF => av hF rfl rfl fun a hF => nl <| tn <| wq <| wb <| wq <| wp_quiet rfl (by kernel_rfl) hS <| qv (fun W hC => (v_move hF rfl)) hF rfl fun a hF => qv (fun W hC => (v_geq hF rfl rfl)) hF rfl fun a hF => qv (fun W hC => (v_move hF rfl)) hF rfl fun a hF => ?_
  obtain ⟨x12, h, hk14⟩ := bindS h
  refine qt_cut 9 (fun a => FH 53 [(0, .slice A0_0 ((u0).length) c0_0), (2, .int .i64 (u2)), (4, .pointer (some (⟨b1, 0, none⟩))), (8, .pointer (some (⟨b7, 0, none⟩))), (9, .int .i64 (x8)), (10, .func (.func 255) #[] #[.pointer (some (⟨b7, 0, none⟩))]), (29, .bool x12)] a) (fun a hF => ?_) ?_
  ·
   have h := hk14
   refine qv (fun W hC => (v_assign hF rfl)) hF rfl fun a hF => qn ?_
   intro W hC
   have hS := hC.2
   refine tn <| wi hF rfl h (fun h => ?_) fun h => ?_
   ·
    refine wq <| wg <| av hF rfl rfl fun a hF => av hF rfl rfl fun a hF => nl <| tn <| rt <| br <| tr ?_
    have hS := hS.addNil k_TRule 51
    obtain rfl := si h
    exact ret2 hF rfl (rv_tmp hF rfl) (rv_tmp hF rfl) ⟨_, rfl, none, 0, rfl, (hS.keep sn sl trivial)⟩
   ·
    refine wq <| wg <| fv hF rfl pf57_7 rfl fun a hF => lv hF rfl pa4 (hS.bc (i := 0) rfl) rfl rfl rfl fun a hF => mv hF rfl rfl fun a hF => gandB 3 2 33 hF hS h rfl rfl rfl rfl rfl (fun r27 h => ?_) (fun x26 a W h hF hS => ?_)
    ·
     refine mv hF rfl rfl fun a hF => mv hF rfl rfl fun a hF => ?_
     obtain ⟨x28, hx29, h⟩ := bindS h
     refine cl hF pc252 rfl rfl (ok_slices_ContainsFunc_Rule k (hS.enter ⟨⟨4, rfl⟩, ⟨0, rfl⟩, trivial⟩) hx29) hS fun W a hF hS => ?_
     obtain rfl := si h
     exact gs 3 hF hS rfl rfl rfl
    ·
     refine av hF rfl rfl fun a hF => nl <| tn <| wi hF rfl h (fun h => ?_) fun h => ?_
     ·
      refine wq <| wg <| av hF rfl rfl fun a hF => av hF rfl rfl fun a hF => nl <| tn <| rt <| br <| tr ?_
      have hS := hS.addNil k_TRule 51
      obtain rfl := si h
      exact ret2 hF rfl (rv_tmp hF rfl) (rv_tmp hF rfl) ⟨_, rfl, none, 0, rfl, (hS.keep sn sl trivial)⟩
     ·
      refine wq <| wg <| mv hF rfl rfl fun a hF => sv (v_lss hF rfl rfl) hF rfl fun a hF => mv hF rfl rfl fun a hF => gand 4 2 41 ((decide (u2 ≤ (u0.length : Int)))) hF rfl rfl rfl rfl rfl (fun _ => ?_) (fun a hF => ?_)
      ·
       exact mv hF rfl rfl fun a hF => sv (v_len hF rfl pu26) hF rfl fun a hF => mv hF rfl rfl fun a hF => sv (v_geq hF rfl rfl) hF rfl fun a hF => gq 4 hF rfl rfl rfl
      ·
       refine av hF rfl rfl fun a hF => nl <| tn <| wi hF rfl h (fun h => ?_) fun h => ?_
       ·
        refine wq <| wg <| av hF rfl rfl fun a hF => av hF rfl rfl fun a hF => nl <| tn <| rt <| br <| tr ?_
        have hS := hS.addNil k_TRule 51
        obtain rfl := si h
        exact ret2 hF rfl (rv_tmp hF rfl) (rv_tmp hF rfl) ⟨_, rfl, none, 0, rfl, (hS.keep sn sl trivial)⟩
       ·
        refine sk <| bn <| tn <| wq ?_
        obtain ⟨o38, h, hk39⟩ := bindS h
        refine wp_join (fun a W => ∃ (x34 : List TRule) (x37 : Int) (A35 : Option Addr) (c36 : Nat), (x34, x37) = o38 ∧ FH 53 [(6, .slice A35 ((x34).length) c36), (7, .int .i64 (x37))] a ∧ St M w0 [] [⟨k_TRule, 51, A35, c36, x34⟩] [] W) (fun a W hJ => ?_) ?_
        ·
         obtain ⟨x34, x37, A35, c36, rfl, hF, hS⟩ := hJ
         have h := hk39
         dsimp only at h
         refine tn <| rt ?_
         obtain rfl := si h
         exact ret2 hF rfl (rv_tmp hF rfl) (rv_tmp hF rfl) ⟨_, rfl, A35, c36, rfl, hS⟩
        ·
         refine wp_drawn (fun _ => St M w0 [⟨b1, TMod.enc u1 A1_0 c1_0, 57⟩] [] [fFn1 Tryz.prog 255 ([.pointer (some (⟨b7, 0, none⟩))]) k_TRule true (fun (a0 : TRule) => mods_add_2 k a0 x2) (fun y => .bool y), fFn1 Tryz.prog 254 ([.pointer (some (⟨b7, 0, none⟩))]) k_TRule true (fun (a0 : TRule) => mods_add_1 a0 x2) (fun y => .bool y), fBox b7 (TRule.enc x2 A4 c5) 51, fSl k_TAct A4 c5 x2.Acts, fSl k_TRule A0_0 c0_0 u0, fSl k_TAct A1_0 c1_0 u1.Acts]) (fun _ => false) rfl hS (fun W hB0 hR0 => ?_)
         have hS := hR0
         refine eqc hS fun hQC => ?_
         obtain ⟨x40, hx41, h⟩ := bindS h
         obtain ⟨x42, hx43, h⟩ := bindS h
         obtain ⟨x44, hx45, h⟩ := bindS h
         refine e_val' 0 rfl (by kernel_rfl) (fun W => (v_move hF rfl)) hF rfl fun a hF => e_valS' 2 rfl (by kernel_rfl) (fun W hC => (v_load (cs := TRule.enc x2 A4 c5) hF rfl pa51 ps51 (hC.fbc (i := 2) rfl))) hQC (by kernel_rfl) hF rfl fun a hF => e_many [1, 3] (by kernel_rfl) (by decide) ⟨⟨_, rfl, ?_⟩, ⟨_, rfl, ?_⟩, trivial⟩
         ·
          refine sq_call hF pc56 rfl (by decide) (ok_rule_Copy k (hS.enter ⟨⟨4, rfl⟩, trivial⟩) hx41) (fun v W hR a hF => ?_)
          obtain ⟨A46, c47, rfl, hT48⟩ := hR
          have hS := hS.join hT48
          refine sq_nil (then_j ⟨?_, ?_⟩)
          · exact fun _ _ => (hS.keep sl sn ⟨⟨0, rfl⟩, ⟨1, rfl⟩, ⟨2, rfl⟩, ⟨3, rfl⟩, ⟨4, rfl⟩, ⟨5, rfl⟩, trivial⟩)
          ·
           refine e_one' 3 rfl (by kernel_rfl) <| sq_buildSlice (κ := k_TRule) (xs := [.tmp 49]) (ys := [x2]) hF hS rfl rfl rfl (Els.cons ⟨A4, c5, rfl, (hS.fc (i := 3) rfl)⟩ (Els.nil _ _ _)) rfl psl26 pz51 rfl (by decide) (by decide) (by decide) (fun A49 c50 a W hF hS => ?_)
           refine sq_nil (then_j ⟨?_, ?_⟩)
           · exact fun _ _ => (hS.keep sl sn ⟨⟨0, rfl⟩, ⟨1, rfl⟩, ⟨2, rfl⟩, ⟨3, rfl⟩, ⟨4, rfl⟩, ⟨5, rfl⟩, trivial⟩)
           ·
            refine e_one' 4 rfl (by kernel_rfl) <| sq_append (ys := ([x2])) hF hS (i := 1) rfl rfl rfl (hS.rw_ (i := 0) rfl).src psl26 pb51 pz51 rfl (by decide) (by decide) hx43 (by decide) (fun A51 c52 a W hF hS => ?_)
            refine sq_nil (then_j ⟨?_, ?_⟩)
            · exact fun _ _ => (hS.keep sl sn ⟨⟨0, rfl⟩, ⟨1, rfl⟩, ⟨2, rfl⟩, ⟨3, rfl⟩, ⟨4, rfl⟩, ⟨5, rfl⟩, trivial⟩)
            ·
             refine e_one' 5 rfl (by kernel_rfl) ?_
             have hS := hS.freeze (i := 1) rfl (posB rfl)
             refine sq_call hF pc257 rfl (by decide) (ok_rule_Sort k (hS.enter ⟨⟨0, rfl⟩, trivial⟩) hx45) (fun v W hR a hF => ?_)
             obtain ⟨A53, c54, rfl, hT55⟩ := hR
             have hS := hS.join hT55
             refine sq_nil (then_j ⟨?_, ?_⟩)
             · exact fun _ _ => (hS.keep sl sn ⟨⟨1, rfl⟩, ⟨2, rfl⟩, ⟨3, rfl⟩, ⟨4, rfl⟩, ⟨5, rfl⟩, ⟨6, rfl⟩, trivial⟩)
             ·
              refine e_val' 6 rfl (by kernel_rfl) (fun W => (v_assign hF rfl)) hF rfl fun a hF => e_val' 7 rfl (by kernel_rfl) (fun W => (v_assign hF rfl)) hF rfl fun a hF => e_done (by kernel_rfl) ?_ _
              obtain rfl := si h
              exact then_j ⟨x44, 0, A53, c54, rfl, (hF.keep ⟨rfl, rfl, trivial⟩), (hS.keep sn (.cons_cons _ sn) trivial)⟩
         ·
          refine sq_buildSlice (κ := k_TRule) (xs := [.tmp 49]) (ys := [x2]) hF hS rfl rfl rfl (Els.cons ⟨A4, c5, rfl, (hS.fc (i := 3) rfl)⟩ (Els.nil _ _ _)) rfl psl26 pz51 rfl (by decide) (by decide) (by decide) (fun A56 c57 a W hF hS => ?_)
          refine sq_nil (then_j ⟨?_, ?_⟩)
          · exact fun _ _ => (hS.keep sl sn ⟨⟨0, rfl⟩, ⟨1, rfl⟩, ⟨2, rfl⟩, ⟨3, rfl⟩, ⟨4, rfl⟩, ⟨5, rfl⟩, trivial⟩)
          ·
           refine e_one' 1 rfl (by kernel_rfl) <| sq_call hF pc56 rfl (by decide) (ok_rule_Copy k (hS.enter ⟨⟨4, rfl⟩, trivial⟩) hx41) (fun v W hR a hF => ?_)
           obtain ⟨A58, c59, rfl, hT60⟩ := hR
           have hS := hS.join hT60
           refine sq_nil (then_j ⟨?_, ?_⟩)
           · exact fun _ _ => (hS.keep sl sn ⟨⟨0, rfl⟩, ⟨1, rfl⟩, ⟨2, rfl⟩, ⟨3, rfl⟩, ⟨4, rfl⟩, ⟨5, rfl⟩, trivial⟩)
           ·
            refine e_one' 4 rfl (by kernel_rfl) <| sq_append (ys := ([x2])) hF hS (i := 0) rfl rfl rfl (hS.rw_ (i := 1) rfl).src psl26 pb51 pz51 rfl (by decide) (by decide) hx43 (by decide) (fun A61 c62 a W hF hS => ?_)
            refine sq_nil (then_j ⟨?_, ?_⟩)
            · exact fun _ _ => (hS.keep sl sn ⟨⟨0, rfl⟩, ⟨1, rfl⟩, ⟨2, rfl⟩, ⟨3, rfl⟩, ⟨4, rfl⟩, ⟨5, rfl⟩, trivial⟩)
            ·
             refine e_one' 5 rfl (by kernel_rfl) ?_
             have hS := hS.freeze (i := 0) rfl (posB rfl)
             refine sq_call hF pc257 rfl (by decide) (ok_rule_Sort k (hS.enter ⟨⟨0, rfl⟩, trivial⟩) hx45) (fun v W hR a hF => ?_)
             obtain ⟨A63, c64, rfl, hT65⟩ := hR
             have hS := hS.join hT65
             refine sq_nil (then_j ⟨?_, ?_⟩)
             · exact fun _ _ => (hS.keep sl sn ⟨⟨1, rfl⟩, ⟨2, rfl⟩, ⟨3, rfl⟩, ⟨4, rfl⟩, ⟨5, rfl⟩, ⟨6, rfl⟩, trivial⟩)
             ·
              refine e_val' 6 rfl (by kernel_rfl) (fun W => (v_assign hF rfl)) hF rfl fun a hF => e_val' 7 rfl (by kernel_rfl) (fun W => (v_assign hF rfl)) hF rfl fun a hF => e_done (by kernel_rfl) ?_ _
              obtain rfl := si h
              exact then_j ⟨x44, 0, A63, c64, rfl, (hF.keep ⟨rfl, rfl, trivial⟩), (hS.keep sn (.cons_cons _ sn) trivial)⟩
  ·
   by_cases he11 : (decide (0 ≤ x8)) = true
   ·
    replace h := ifT he11 h
    refine qt_yes hF rfl rfl he11 <| qv (fun W hC => (v_move hF rfl)) hF rfl fun a hF => qt_yes hF rfl rfl he11 <| qv (fun W hC => (v_move hF rfl)) hF rfl fun a hF => qt_yes hF rfl rfl he11 ?_
    obtain ⟨x15, hx16, h⟩ := bindS h
    obtain ⟨p17, cs18, hA19, hat20⟩ := SlR.at (hS.fc (i := 4) rfl) hx16
    obtain ⟨A21, c22, rfl, hs23⟩ := hat20.2.2.2
    refine qv (fun W hC => (v_idx hF rfl hA19 rfl psl26 hx16)) hF rfl fun a hF => qt_yes hF rfl rfl he11 <| qv (fun W hC => (v_fieldAddr hF rfl pf51_5)) hF rfl fun a hF => qt_yes hF rfl rfl he11 <| qv (fun W hC => (v_load1 hF rfl pa3 (cells_sub (vs := [.int .i64 (x15.Owner)]) (hat20.2.2.1.grow hC.1) rfl rfl))) hF rfl fun a hF => qt_yes hF rfl rfl he11 <| qv (fun W hC => (v_fieldAddr hF rfl pf57_6)) hF rfl fun a hF => qt_yes hF rfl rfl he11 <| qv (fun W hC => (v_load1 hF rfl pa3 (cells_sub (vs := [.int .i64 (u1.Owner)]) (hC.2.bc (i := 0) rfl) rfl rfl))) hF rfl fun a hF => qt_yes hF rfl rfl he11 <| qv (fun W hC => (v_neq hF rfl rfl)) hF rfl fun a hF => qv (fun W hC => (v_pick_t hF rfl he11 rfl)) hF rfl fun a hF => ?_
    obtain rfl := si h
    exact qt_nil (hF.keep ⟨rfl, rfl, rfl, rfl, rfl, rfl, rfl, trivial⟩)
   ·
    have he11 : (decide (0 ≤ x8)) = false := nB he11
    replace h := ifF he11 h
    refine qt_no hF rfl rfl he11 (by decide) (fun a hF => ?_)
    refine qt_no hF rfl rfl he11 (by decide) (fun a hF => ?_)
    refine qt_no hF rfl rfl he11 (by decide) (fun a hF => ?_)
    refine qt_no hF rfl rfl he11 (by decide) (fun a hF => ?_)
    refine qt_no hF rfl rfl he11 (by decide) (fun a hF => ?_)
    refine qt_no hF rfl rfl he11 (by decide) (fun a hF => ?_)
    refine qt_no hF rfl rfl he11 (by decide) (fun a hF => ?_)
    refine qt_no hF rfl rfl he11 (by decide) (fun a hF => ?_)
    refine qv (fun W hC => (v_pick_f hF rfl he11 rfl)) hF rfl fun a hF => ?_
    obtain rfl := si h
    exact qt_nil (hF.keep ⟨rfl, rfl, rfl, rfl, rfl, rfl, rfl, trivial⟩)

theorem ok_cube_Within (k : Nat) {M : Nat → Prop} {w0 : World} {u0 : TCube} {u1 : TCube} {o : Bool} (hS : St M w0 [] [] [] w0) (h : cube_Within k u0 u1 = some o) :
    Calls Tryz.prog 176 #[.agg (TCube.enc u0).toArray, .agg (TCube.enc u1).toArray] w0 fun e W' => ∃ v, e = .returned v ∧ (v = .bool (o) ∧ St M w0 [] [] [] W') := by
  unfold cube_Within at h
  refine cst Tryz.func176 rfl rfl rfl fun a hF => wq <| wg <| bv hF hS rfl rfl rfl fun b1 a W hF hS => bv hF hS rfl rfl rfl fun b2 a W hF hS => av hF rfl rfl fun a hF => nl <| tn <| wq <| wg <| sv (v_load (cs := TCube.enc u0) hF rfl pa48 ps48 (hS.bc (i := 1) rfl)) hF rfl fun a hF => sv (v_load (cs := TCube.enc u1) hF rfl pa48 ps48 (hS.bc (i := 0) rfl)) hF rfl fun a hF => ?_
  obtain ⟨x3, hx4, h⟩ := bindS h
  refine cl hF pc229 rfl rfl (ok_cube_Meet k (hS.enter trivial) hx4) hS fun W a hF hS => mv hF rfl rfl fun a hF => sv (v_extract hF rfl rfl) hF rfl fun a hF => sv (v_extract hF rfl rfl) hF rfl fun a hF => al hF hS pz48 rfl rfl fun b6 a W hF hS => sq_store (o := 0) (vs := TCube.enc x3.1) (cs' := TCube.enc x3.1) hF hS rfl rfl (i := 0) rfl rfl rfl ps48 (TCube.enc_one _) (bl rfl) rfl fun W hS => av hF rfl rfl fun a hF => nl <| tn <| wq <| wg <| mv hF rfl rfl fun a hF => mv hF rfl rfl fun a hF => gand 3 1 14 ((cellsEq (TCube.enc x3.1) (TCube.enc u0))) hF rfl rfl rfl rfl rfl (fun _ => ?_) (fun a hF => ?_)
  ·
   refine sv (v_load (cs := TCube.enc x3.1) hF rfl pa48 ps48 (hS.bc (i := 0) rfl)) hF rfl fun a hF => sv (v_load (cs := TCube.enc u0) hF rfl pa48 ps48 (hS.bc (i := 2) rfl)) hF rfl fun a hF => sq_val (eq48 hF rfl rfl).1 hF (by decide) (fun a hF => ?_)
   exact gq 3 hF rfl rfl rfl
  ·
   refine av hF rfl rfl fun a hF => nl <| tn <| rt ?_
   obtain rfl := si h
   exact ret1 hF rfl (rv_tmp hF rfl) ⟨_, rfl, rfl, (hS.keep sn sl trivial)⟩
end Go.Proofs.YtgfnkigoaajllaaGreat
