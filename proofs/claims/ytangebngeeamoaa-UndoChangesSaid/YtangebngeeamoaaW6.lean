/- What calls of the Go functions come to. -/
import Derived.Test.YtangebngeeamoaaW5
set_option linter.unusedVariables false
set_option linter.unusedSimpArgs false
set_option maxRecDepth 100000
set_option maxHeartbeats 4000000
namespace Go.Proofs.Ytangebngeeamoaa
open Go.RowKit Go.Pod
theorem ok_rule_Equal (k : Nat) {M : Nat → Prop} {w0 : World} {u0 : TRule} {A0_0 : Option Addr} {c0_0 : Nat} {u1 : TRule} {A1_0 : Option Addr} {c1_0 : Nat} {o : Bool} (hS : St M w0 [] [] [fSl k_TAct A0_0 c0_0 u0.Acts, fSl k_TAct A1_0 c1_0 u1.Acts] w0) (h : rule_Equal k u0 u1 = some o) :
    Calls Try.prog 152 #[.agg (TRule.enc u0 A0_0 c0_0).toArray, .agg (TRule.enc u1 A1_0 c1_0).toArray] w0 fun e W' => ∃ v, e = .returned v ∧ (v = .bool (o) ∧ St M w0 [] [] [] W') := by
  unfold rule_Equal at h
  refine calls_start (args := [.agg (TRule.enc u0 A0_0 c0_0).toArray, .agg (TRule.enc u1 A1_0 c1_0).toArray]) Try.func152 rfl rfl (Nat.le_of_ble_eq_true rfl) (fun a hF => ?_)
  refine wp_seq ?_
  refine wp_reg ?_
  refine sq_box hF hS rfl rfl (by decide) (fun b1 a W hF hS => ?_)
  refine sq_box hF hS rfl rfl (by decide) (fun b2 a W hF hS => ?_)
  refine sq_val (v_assign hF rfl) hF (by decide) (fun a hF => ?_)
  refine sq_nil ?_
  refine then_n ?_
  refine wp_seq ?_
  refine wp_drawn (fun _ => St M w0 [⟨b2, TRule.enc u1 A1_0 c1_0, 65⟩, ⟨b1, TRule.enc u0 A0_0 c0_0, 65⟩] [] [fSl k_TAct A0_0 c0_0 u0.Acts, fSl k_TAct A1_0 c1_0 u1.Acts]) (fun _ => false) rfl hS (fun W hB0 hR0 => ?_)
  have hS := hR0
  have hQC : (fun _ => St M w0 [⟨b2, TRule.enc u1 A1_0 c1_0, 65⟩, ⟨b1, TRule.enc u0 A0_0 c0_0, 65⟩] [] [fSl k_TAct A0_0 c0_0 u0.Acts, fSl k_TAct A1_0 c1_0 u1.Acts]) W W := hS
  obtain ⟨x3, hx4, h⟩ := bindS h
  obtain ⟨x5, hx6, h⟩ := bindS h
  refine e_valS (listed' := #[true, false, false, false, false, false]) 0 rfl (by kernel_rfl) (by kernel_rfl) (fun _ _ _ h => h) (fun W hC => (v_load (cs := TRule.enc u0 A0_0 c0_0) hF rfl pa65 ps65 (hC.bc (i := 1) rfl))) hQC (by kernel_rfl) hF (by decide) (fun a hF => ?_)
  refine e_valS (listed' := #[true, true, false, false, false, false]) 1 rfl (by kernel_rfl) (by kernel_rfl) (fun _ _ _ h => h) (fun W hC => (v_load (cs := TRule.enc u1 A1_0 c1_0) hF rfl pa65 ps65 (hC.bc (i := 0) rfl))) hQC (by kernel_rfl) hF (by decide) (fun a hF => ?_)
  refine e_many [2, 3] (by kernel_rfl) (by decide) ⟨⟨_, rfl, ?_⟩, ⟨_, rfl, ?_⟩, trivial⟩
  ·
   refine sq_alloc hF hS pz65 rfl (by decide) (fun b7 a W hF hS => ?_)
   refine sq_nil (then_j ⟨?_, ?_⟩)
   · exact fun _ _ => (hS.keep (.cons _ (List.Sublist.refl _)) (List.Sublist.refl _) ⟨⟨0, rfl⟩, ⟨1, rfl⟩, trivial⟩)
   ·
    have hQC : (fun _ => St M w0 [⟨b2, TRule.enc u1 A1_0 c1_0, 65⟩, ⟨b1, TRule.enc u0 A0_0 c0_0, 65⟩] [] [fSl k_TAct A0_0 c0_0 u0.Acts, fSl k_TAct A1_0 c1_0 u1.Acts]) W W := (hS.keep (.cons _ (List.Sublist.refl _)) (List.Sublist.refl _) ⟨⟨0, rfl⟩, ⟨1, rfl⟩, trivial⟩)
    refine e_listed (listed' := #[true, true, true, false, false, false]) (by kernel_rfl) ?_
    refine e_one (listed' := #[true, true, true, true, false, false]) 3 rfl (by kernel_rfl) (by kernel_rfl) ?_
    refine sq_alloc hF hS pz65 rfl (by decide) (fun b8 a W hF hS => ?_)
    refine sq_nil (then_j ⟨?_, ?_⟩)
    · exact fun _ _ => (hS.keep (.cons _ (.cons _ (List.Sublist.refl _))) (List.Sublist.refl _) ⟨⟨0, rfl⟩, ⟨1, rfl⟩, trivial⟩)
    ·
     have hQC : (fun _ => St M w0 [⟨b2, TRule.enc u1 A1_0 c1_0, 65⟩, ⟨b1, TRule.enc u0 A0_0 c0_0, 65⟩] [] [fSl k_TAct A0_0 c0_0 u0.Acts, fSl k_TAct A1_0 c1_0 u1.Acts]) W W := (hS.keep (.cons _ (.cons _ (List.Sublist.refl _))) (List.Sublist.refl _) ⟨⟨0, rfl⟩, ⟨1, rfl⟩, trivial⟩)
     refine e_one (listed' := #[true, true, true, true, true, false]) 4 rfl (by kernel_rfl) (by kernel_rfl) ?_
     refine sq_store (o := 0) (vs := TRule.enc u0 A0_0 c0_0) (cs' := TRule.enc u0 A0_0 c0_0) hF hS rfl rfl (i := 1) rfl rfl rfl ps65 (TRule.enc_one _ _ _) (Nat.le_of_ble_eq_true rfl) rfl (fun W hS => ?_)
     refine sq_nil (then_j ⟨?_, ?_⟩)
     · exact fun _ _ => (hS.keep (.cons _ (.cons _ (List.Sublist.refl _))) (List.Sublist.refl _) ⟨⟨0, rfl⟩, ⟨1, rfl⟩, trivial⟩)
     ·
      have hQC : (fun _ => St M w0 [⟨b2, TRule.enc u1 A1_0 c1_0, 65⟩, ⟨b1, TRule.enc u0 A0_0 c0_0, 65⟩] [] [fSl k_TAct A0_0 c0_0 u0.Acts, fSl k_TAct A1_0 c1_0 u1.Acts]) W W := (hS.keep (.cons _ (.cons _ (List.Sublist.refl _))) (List.Sublist.refl _) ⟨⟨0, rfl⟩, ⟨1, rfl⟩, trivial⟩)
      refine e_one (listed' := #[true, true, true, true, true, true]) 5 rfl (by kernel_rfl) (by kernel_rfl) ?_
      refine sq_store (o := 0) (vs := TRule.enc u1 A1_0 c1_0) (cs' := TRule.enc u1 A1_0 c1_0) hF hS rfl rfl (i := 0) rfl rfl rfl ps65 (TRule.enc_one _ _ _) (Nat.le_of_ble_eq_true rfl) rfl (fun W hS => ?_)
      refine sq_nil (then_j ⟨?_, ?_⟩)
      · exact fun _ _ => (hS.keep (.cons _ (.cons _ (List.Sublist.refl _))) (List.Sublist.refl _) ⟨⟨0, rfl⟩, ⟨1, rfl⟩, trivial⟩)
      ·
       have hQC : (fun _ => St M w0 [⟨b2, TRule.enc u1 A1_0 c1_0, 65⟩, ⟨b1, TRule.enc u0 A0_0 c0_0, 65⟩] [] [fSl k_TAct A0_0 c0_0 u0.Acts, fSl k_TAct A1_0 c1_0 u1.Acts]) W W := (hS.keep (.cons _ (.cons _ (List.Sublist.refl _))) (List.Sublist.refl _) ⟨⟨0, rfl⟩, ⟨1, rfl⟩, trivial⟩)
       refine e_done (by kernel_rfl) ?_ _
       refine then_n ?_
       refine wp_seq ?_
       refine wp_reg ?_
       refine sq_val (v_fieldAddr hF rfl pf65_2) hF (by decide) (fun a hF => ?_)
       refine sq_store (o := 25) (vs := [.slice none 0 0]) (cs' := TRule.enc (TRule.setActs u0 ([])) none 0) hF hS rfl rfl (i := 1) rfl rfl rfl ps38 (one1 rfl) (Nat.le_of_ble_eq_true rfl) rfl (fun W hS => ?_)
       refine sq_val (v_fieldAddr hF rfl pf65_2) hF (by decide) (fun a hF => ?_)
       refine sq_store (o := 25) (vs := [.slice none 0 0]) (cs' := TRule.enc (TRule.setActs u1 ([])) none 0) hF hS rfl rfl (i := 0) rfl rfl rfl ps38 (one1 rfl) (Nat.le_of_ble_eq_true rfl) rfl (fun W hS => ?_)
       refine sq_nil ?_
       refine then_n ?_
       refine wp_seq ?_
       refine wp_reg ?_
       refine sq_val (v_fieldAddr hF rfl pf65_2) hF (by decide) (fun a hF => ?_)
       refine sq_val (v_load1 hF rfl pa38 (cells_sub (vs := [.slice A0_0 ((u0.Acts).length) c0_0]) (hS.bc (i := 3) rfl) rfl rfl)) hF (by decide) (fun a hF => ?_)
       refine sq_val (v_fieldAddr hF rfl pf65_2) hF (by decide) (fun a hF => ?_)
       refine sq_val (v_load1 hF rfl pa38 (cells_sub (vs := [.slice A1_0 ((u1.Acts).length) c1_0]) (hS.bc (i := 2) rfl) rfl rfl)) hF (by decide) (fun a hF => ?_)
       refine sq_call hF pc185 rfl (by decide) (ok_act_Same k (hS.enter ⟨⟨0, rfl⟩, ⟨1, rfl⟩, trivial⟩) hx4) (fun v W hR a hF => ?_)
       obtain ⟨rfl, hT9⟩ := hR
       have hS := hS.grow hT9.below
       refine sq_val (v_move hF rfl) hF (by decide) (fun a hF => ?_)
       refine sq_cut 4 (fun a W => FH 63 [(5, .pointer (some (⟨b7, 0, none⟩))), (6, .pointer (some (⟨b8, 0, none⟩))), (20, .bool (x3 && x5))] a ∧ St M w0 [⟨b8, TRule.enc (TRule.setActs u1 ([])) none 0, 65⟩, ⟨b7, TRule.enc (TRule.setActs u0 ([])) none 0, 65⟩, ⟨b2, TRule.enc u1 A1_0 c1_0, 65⟩, ⟨b1, TRule.enc u0 A0_0 c0_0, 65⟩] [] [fSl k_TAct A0_0 c0_0 u0.Acts, fSl k_TAct A1_0 c1_0 u1.Acts] W) (fun a W hJ => ?_) ?_
       ·
        obtain ⟨hF, hS⟩ := hJ
        refine sq_val (v_move hF rfl) hF (by decide) (fun a hF => ?_)
        refine sq_cut 6 (fun a W => FH 63 [(5, .pointer (some (⟨b7, 0, none⟩))), (6, .pointer (some (⟨b8, 0, none⟩))), (27, .bool ((x3 && x5) && (u0.Idle == u1.Idle)))] a ∧ St M w0 [⟨b8, TRule.enc (TRule.setActs u1 ([])) none 0, 65⟩, ⟨b7, TRule.enc (TRule.setActs u0 ([])) none 0, 65⟩, ⟨b2, TRule.enc u1 A1_0 c1_0, 65⟩, ⟨b1, TRule.enc u0 A0_0 c0_0, 65⟩] [] [fSl k_TAct A0_0 c0_0 u0.Acts, fSl k_TAct A1_0 c1_0 u1.Acts] W) (fun a W hJ => ?_) ?_
        ·
         obtain ⟨hF, hS⟩ := hJ
         refine sq_val (v_move hF rfl) hF (by decide) (fun a hF => ?_)
         refine sq_cut 6 (fun a W => FH 63 [(5, .pointer (some (⟨b7, 0, none⟩))), (6, .pointer (some (⟨b8, 0, none⟩))), (34, .bool (((x3 && x5) && (u0.Idle == u1.Idle)) && (u0.Hard == u1.Hard)))] a ∧ St M w0 [⟨b8, TRule.enc (TRule.setActs u1 ([])) none 0, 65⟩, ⟨b7, TRule.enc (TRule.setActs u0 ([])) none 0, 65⟩, ⟨b2, TRule.enc u1 A1_0 c1_0, 65⟩, ⟨b1, TRule.enc u0 A0_0 c0_0, 65⟩] [] [fSl k_TAct A0_0 c0_0 u0.Acts, fSl k_TAct A1_0 c1_0 u1.Acts] W) (fun a W hJ => ?_) ?_
         ·
          obtain ⟨hF, hS⟩ := hJ
          refine sq_val (v_move hF rfl) hF (by decide) (fun a hF => ?_)
          refine sq_cut 6 (fun a W => FH 63 [(5, .pointer (some (⟨b7, 0, none⟩))), (6, .pointer (some (⟨b8, 0, none⟩))), (41, .bool ((((x3 && x5) && (u0.Idle == u1.Idle)) && (u0.Hard == u1.Hard)) && (u0.Owner == u1.Owner)))] a ∧ St M w0 [⟨b8, TRule.enc (TRule.setActs u1 ([])) none 0, 65⟩, ⟨b7, TRule.enc (TRule.setActs u0 ([])) none 0, 65⟩, ⟨b2, TRule.enc u1 A1_0 c1_0, 65⟩, ⟨b1, TRule.enc u0 A0_0 c0_0, 65⟩] [] [fSl k_TAct A0_0 c0_0 u0.Acts, fSl k_TAct A1_0 c1_0 u1.Acts] W) (fun a W hJ => ?_) ?_
          ·
           obtain ⟨hF, hS⟩ := hJ
           refine sq_val (v_move hF rfl) hF (by decide) (fun a hF => ?_)
           refine sq_cut 6 (fun a W => FH 63 [(5, .pointer (some (⟨b7, 0, none⟩))), (6, .pointer (some (⟨b8, 0, none⟩))), (48, .bool (((((x3 && x5) && (u0.Idle == u1.Idle)) && (u0.Hard == u1.Hard)) && (u0.Owner == u1.Owner)) && (u0.Hits == u1.Hits)))] a ∧ St M w0 [⟨b8, TRule.enc (TRule.setActs u1 ([])) none 0, 65⟩, ⟨b7, TRule.enc (TRule.setActs u0 ([])) none 0, 65⟩, ⟨b2, TRule.enc u1 A1_0 c1_0, 65⟩, ⟨b1, TRule.enc u0 A0_0 c0_0, 65⟩] [] [fSl k_TAct A0_0 c0_0 u0.Acts, fSl k_TAct A1_0 c1_0 u1.Acts] W) (fun a W hJ => ?_) ?_
           ·
            obtain ⟨hF, hS⟩ := hJ
            refine sq_val (v_move hF rfl) hF (by decide) (fun a hF => ?_)
            refine sq_cut 6 (fun a W => FH 63 [(5, .pointer (some (⟨b7, 0, none⟩))), (6, .pointer (some (⟨b8, 0, none⟩))), (55, .bool ((((((x3 && x5) && (u0.Idle == u1.Idle)) && (u0.Hard == u1.Hard)) && (u0.Owner == u1.Owner)) && (u0.Hits == u1.Hits)) && (u0.Quiet == u1.Quiet)))] a ∧ St M w0 [⟨b8, TRule.enc (TRule.setActs u1 ([])) none 0, 65⟩, ⟨b7, TRule.enc (TRule.setActs u0 ([])) none 0, 65⟩, ⟨b2, TRule.enc u1 A1_0 c1_0, 65⟩, ⟨b1, TRule.enc u0 A0_0 c0_0, 65⟩] [] [fSl k_TAct A0_0 c0_0 u0.Acts, fSl k_TAct A1_0 c1_0 u1.Acts] W) (fun a W hJ => ?_) ?_
            ·
             obtain ⟨hF, hS⟩ := hJ
             refine sq_val (v_move hF rfl) hF (by decide) (fun a hF => ?_)
             refine sq_cut 6 (fun a W => FH 63 [(62, .bool (((((((x3 && x5) && (u0.Idle == u1.Idle)) && (u0.Hard == u1.Hard)) && (u0.Owner == u1.Owner)) && (u0.Hits == u1.Hits)) && (u0.Quiet == u1.Quiet)) && (u0.Age == u1.Age)))] a ∧ St M w0 [⟨b8, TRule.enc (TRule.setActs u1 ([])) none 0, 65⟩, ⟨b7, TRule.enc (TRule.setActs u0 ([])) none 0, 65⟩, ⟨b2, TRule.enc u1 A1_0 c1_0, 65⟩, ⟨b1, TRule.enc u0 A0_0 c0_0, 65⟩] [] [fSl k_TAct A0_0 c0_0 u0.Acts, fSl k_TAct A1_0 c1_0 u1.Acts] W) (fun a W hJ => ?_) ?_
             ·
              obtain ⟨hF, hS⟩ := hJ
              refine sq_val (v_assign hF rfl) hF (by decide) (fun a hF => ?_)
              refine sq_nil ?_
              refine then_n ?_
              refine wp_ret ?_
              obtain rfl := Option.some.inj h
              exact ret1 hF rfl (rv_tmp hF rfl) ⟨_, rfl, rfl, (hS.keep (List.nil_sublist _) (List.Sublist.refl _) trivial)⟩
             ·
              by_cases he17 : ((((((x3 && x5) && (u0.Idle == u1.Idle)) && (u0.Hard == u1.Hard)) && (u0.Owner == u1.Owner)) && (u0.Hits == u1.Hits)) && (u0.Quiet == u1.Quiet)) = true
              ·
               refine sq_yes hF rfl rfl he17 ?_
               refine sq_val (v_fieldAddr hF rfl pf65_8) hF (by decide) (fun a hF => ?_)
               refine sq_yes hF rfl rfl he17 ?_
               refine sq_val (v_load1 hF rfl pa3 (cells_sub (vs := [.int .i64 (u0.Age)]) (hS.bc (i := 1) rfl) rfl rfl)) hF (by decide) (fun a hF => ?_)
               refine sq_yes hF rfl rfl he17 ?_
               refine sq_val (v_fieldAddr hF rfl pf65_8) hF (by decide) (fun a hF => ?_)
               refine sq_yes hF rfl rfl he17 ?_
               refine sq_val (v_load1 hF rfl pa3 (cells_sub (vs := [.int .i64 (u1.Age)]) (hS.bc (i := 0) rfl) rfl rfl)) hF (by decide) (fun a hF => ?_)
               refine sq_yes hF rfl rfl he17 ?_
               refine sq_val (v_eql hF rfl rfl) hF (by decide) (fun a hF => ?_)
               refine sq_val (v_pick_t hF rfl he17 rfl) hF (by decide) (fun a hF => ?_)
               exact sq_nil (then_j ⟨(hF.keep ⟨(boolV (and_t he17)), trivial⟩), hS⟩)
              ·
               have he17 : ((((((x3 && x5) && (u0.Idle == u1.Idle)) && (u0.Hard == u1.Hard)) && (u0.Owner == u1.Owner)) && (u0.Hits == u1.Hits)) && (u0.Quiet == u1.Quiet)) = false := nB he17
               refine sq_no hF rfl rfl he17 (by rintro x ⟨⟩; decide) (fun a hF => ?_)
               refine sq_no hF rfl rfl he17 (by rintro x ⟨⟩; decide) (fun a hF => ?_)
               refine sq_no hF rfl rfl he17 (by rintro x ⟨⟩; decide) (fun a hF => ?_)
               refine sq_no hF rfl rfl he17 (by rintro x ⟨⟩; decide) (fun a hF => ?_)
               refine sq_no hF rfl rfl he17 (by rintro x ⟨⟩; decide) (fun a hF => ?_)
               refine sq_val (v_pick_f hF rfl he17 rfl) hF (by decide) (fun a hF => ?_)
               exact sq_nil (then_j ⟨(hF.keep ⟨(boolV (and_f he17)), trivial⟩), hS⟩)
            ·
             by_cases he16 : (((((x3 && x5) && (u0.Idle == u1.Idle)) && (u0.Hard == u1.Hard)) && (u0.Owner == u1.Owner)) && (u0.Hits == u1.Hits)) = true
             ·
              refine sq_yes hF rfl rfl he16 ?_
              refine sq_val (v_fieldAddr hF rfl pf65_7) hF (by decide) (fun a hF => ?_)
              refine sq_yes hF rfl rfl he16 ?_
              refine sq_val (v_load1 hF rfl pa3 (cells_sub (vs := [.int .i64 (u0.Quiet)]) (hS.bc (i := 1) rfl) rfl rfl)) hF (by decide) (fun a hF => ?_)
              refine sq_yes hF rfl rfl he16 ?_
              refine sq_val (v_fieldAddr hF rfl pf65_7) hF (by decide) (fun a hF => ?_)
              refine sq_yes hF rfl rfl he16 ?_
              refine sq_val (v_load1 hF rfl pa3 (cells_sub (vs := [.int .i64 (u1.Quiet)]) (hS.bc (i := 0) rfl) rfl rfl)) hF (by decide) (fun a hF => ?_)
              refine sq_yes hF rfl rfl he16 ?_
              refine sq_val (v_eql hF rfl rfl) hF (by decide) (fun a hF => ?_)
              refine sq_val (v_pick_t hF rfl he16 rfl) hF (by decide) (fun a hF => ?_)
              exact sq_nil (then_j ⟨(hF.keep ⟨rfl, rfl, (boolV (and_t he16)), trivial⟩), hS⟩)
             ·
              have he16 : (((((x3 && x5) && (u0.Idle == u1.Idle)) && (u0.Hard == u1.Hard)) && (u0.Owner == u1.Owner)) && (u0.Hits == u1.Hits)) = false := nB he16
              refine sq_no hF rfl rfl he16 (by rintro x ⟨⟩; decide) (fun a hF => ?_)
              refine sq_no hF rfl rfl he16 (by rintro x ⟨⟩; decide) (fun a hF => ?_)
              refine sq_no hF rfl rfl he16 (by rintro x ⟨⟩; decide) (fun a hF => ?_)
              refine sq_no hF rfl rfl he16 (by rintro x ⟨⟩; decide) (fun a hF => ?_)
              refine sq_no hF rfl rfl he16 (by rintro x ⟨⟩; decide) (fun a hF => ?_)
              refine sq_val (v_pick_f hF rfl he16 rfl) hF (by decide) (fun a hF => ?_)
              exact sq_nil (then_j ⟨(hF.keep ⟨rfl, rfl, (boolV (and_f he16)), trivial⟩), hS⟩)
           ·
            by_cases he15 : ((((x3 && x5) && (u0.Idle == u1.Idle)) && (u0.Hard == u1.Hard)) && (u0.Owner == u1.Owner)) = true
            ·
             refine sq_yes hF rfl rfl he15 ?_
             refine sq_val (v_fieldAddr hF rfl pf65_6) hF (by decide) (fun a hF => ?_)
             refine sq_yes hF rfl rfl he15 ?_
             refine sq_val (v_load1 hF rfl pa3 (cells_sub (vs := [.int .i64 (u0.Hits)]) (hS.bc (i := 1) rfl) rfl rfl)) hF (by decide) (fun a hF => ?_)
             refine sq_yes hF rfl rfl he15 ?_
             refine sq_val (v_fieldAddr hF rfl pf65_6) hF (by decide) (fun a hF => ?_)
             refine sq_yes hF rfl rfl he15 ?_
             refine sq_val (v_load1 hF rfl pa3 (cells_sub (vs := [.int .i64 (u1.Hits)]) (hS.bc (i := 0) rfl) rfl rfl)) hF (by decide) (fun a hF => ?_)
             refine sq_yes hF rfl rfl he15 ?_
             refine sq_val (v_eql hF rfl rfl) hF (by decide) (fun a hF => ?_)
             refine sq_val (v_pick_t hF rfl he15 rfl) hF (by decide) (fun a hF => ?_)
             exact sq_nil (then_j ⟨(hF.keep ⟨rfl, rfl, (boolV (and_t he15)), trivial⟩), hS⟩)
            ·
             have he15 : ((((x3 && x5) && (u0.Idle == u1.Idle)) && (u0.Hard == u1.Hard)) && (u0.Owner == u1.Owner)) = false := nB he15
             refine sq_no hF rfl rfl he15 (by rintro x ⟨⟩; decide) (fun a hF => ?_)
             refine sq_no hF rfl rfl he15 (by rintro x ⟨⟩; decide) (fun a hF => ?_)
             refine sq_no hF rfl rfl he15 (by rintro x ⟨⟩; decide) (fun a hF => ?_)
             refine sq_no hF rfl rfl he15 (by rintro x ⟨⟩; decide) (fun a hF => ?_)
             refine sq_no hF rfl rfl he15 (by rintro x ⟨⟩; decide) (fun a hF => ?_)
             refine sq_val (v_pick_f hF rfl he15 rfl) hF (by decide) (fun a hF => ?_)
             exact sq_nil (then_j ⟨(hF.keep ⟨rfl, rfl, (boolV (and_f he15)), trivial⟩), hS⟩)
          ·
           by_cases he14 : (((x3 && x5) && (u0.Idle == u1.Idle)) && (u0.Hard == u1.Hard)) = true
           ·
            refine sq_yes hF rfl rfl he14 ?_
            refine sq_val (v_fieldAddr hF rfl pf65_5) hF (by decide) (fun a hF => ?_)
            refine sq_yes hF rfl rfl he14 ?_
            refine sq_val (v_load1 hF rfl pa3 (cells_sub (vs := [.int .i64 (u0.Owner)]) (hS.bc (i := 1) rfl) rfl rfl)) hF (by decide) (fun a hF => ?_)
            refine sq_yes hF rfl rfl he14 ?_
            refine sq_val (v_fieldAddr hF rfl pf65_5) hF (by decide) (fun a hF => ?_)
            refine sq_yes hF rfl rfl he14 ?_
            refine sq_val (v_load1 hF rfl pa3 (cells_sub (vs := [.int .i64 (u1.Owner)]) (hS.bc (i := 0) rfl) rfl rfl)) hF (by decide) (fun a hF => ?_)
            refine sq_yes hF rfl rfl he14 ?_
            refine sq_val (v_eql hF rfl rfl) hF (by decide) (fun a hF => ?_)
            refine sq_val (v_pick_t hF rfl he14 rfl) hF (by decide) (fun a hF => ?_)
            exact sq_nil (then_j ⟨(hF.keep ⟨rfl, rfl, (boolV (and_t he14)), trivial⟩), hS⟩)
           ·
            have he14 : (((x3 && x5) && (u0.Idle == u1.Idle)) && (u0.Hard == u1.Hard)) = false := nB he14
            refine sq_no hF rfl rfl he14 (by rintro x ⟨⟩; decide) (fun a hF => ?_)
            refine sq_no hF rfl rfl he14 (by rintro x ⟨⟩; decide) (fun a hF => ?_)
            refine sq_no hF rfl rfl he14 (by rintro x ⟨⟩; decide) (fun a hF => ?_)
            refine sq_no hF rfl rfl he14 (by rintro x ⟨⟩; decide) (fun a hF => ?_)
            refine sq_no hF rfl rfl he14 (by rintro x ⟨⟩; decide) (fun a hF => ?_)
            refine sq_val (v_pick_f hF rfl he14 rfl) hF (by decide) (fun a hF => ?_)
            exact sq_nil (then_j ⟨(hF.keep ⟨rfl, rfl, (boolV (and_f he14)), trivial⟩), hS⟩)
         ·
          by_cases he13 : ((x3 && x5) && (u0.Idle == u1.Idle)) = true
          ·
           refine sq_yes hF rfl rfl he13 ?_
           refine sq_val (v_fieldAddr hF rfl pf65_4) hF (by decide) (fun a hF => ?_)
           refine sq_yes hF rfl rfl he13 ?_
           refine sq_val (v_load1 hF rfl pa3 (cells_sub (vs := [.int .i64 (u0.Hard)]) (hS.bc (i := 1) rfl) rfl rfl)) hF (by decide) (fun a hF => ?_)
           refine sq_yes hF rfl rfl he13 ?_
           refine sq_val (v_fieldAddr hF rfl pf65_4) hF (by decide) (fun a hF => ?_)
           refine sq_yes hF rfl rfl he13 ?_
           refine sq_val (v_load1 hF rfl pa3 (cells_sub (vs := [.int .i64 (u1.Hard)]) (hS.bc (i := 0) rfl) rfl rfl)) hF (by decide) (fun a hF => ?_)
           refine sq_yes hF rfl rfl he13 ?_
           refine sq_val (v_eql hF rfl rfl) hF (by decide) (fun a hF => ?_)
           refine sq_val (v_pick_t hF rfl he13 rfl) hF (by decide) (fun a hF => ?_)
           exact sq_nil (then_j ⟨(hF.keep ⟨rfl, rfl, (boolV (and_t he13)), trivial⟩), hS⟩)
          ·
           have he13 : ((x3 && x5) && (u0.Idle == u1.Idle)) = false := nB he13
           refine sq_no hF rfl rfl he13 (by rintro x ⟨⟩; decide) (fun a hF => ?_)
           refine sq_no hF rfl rfl he13 (by rintro x ⟨⟩; decide) (fun a hF => ?_)
           refine sq_no hF rfl rfl he13 (by rintro x ⟨⟩; decide) (fun a hF => ?_)
           refine sq_no hF rfl rfl he13 (by rintro x ⟨⟩; decide) (fun a hF => ?_)
           refine sq_no hF rfl rfl he13 (by rintro x ⟨⟩; decide) (fun a hF => ?_)
           refine sq_val (v_pick_f hF rfl he13 rfl) hF (by decide) (fun a hF => ?_)
           exact sq_nil (then_j ⟨(hF.keep ⟨rfl, rfl, (boolV (and_f he13)), trivial⟩), hS⟩)
        ·
         by_cases he12 : (x3 && x5) = true
         ·
          refine sq_yes hF rfl rfl he12 ?_
          refine sq_val (v_fieldAddr hF rfl pf65_3) hF (by decide) (fun a hF => ?_)
          refine sq_yes hF rfl rfl he12 ?_
          refine sq_val (v_load1 hF rfl pa3 (cells_sub (vs := [.int .i64 (u0.Idle)]) (hS.bc (i := 1) rfl) rfl rfl)) hF (by decide) (fun a hF => ?_)
          refine sq_yes hF rfl rfl he12 ?_
          refine sq_val (v_fieldAddr hF rfl pf65_3) hF (by decide) (fun a hF => ?_)
          refine sq_yes hF rfl rfl he12 ?_
          refine sq_val (v_load1 hF rfl pa3 (cells_sub (vs := [.int .i64 (u1.Idle)]) (hS.bc (i := 0) rfl) rfl rfl)) hF (by decide) (fun a hF => ?_)
          refine sq_yes hF rfl rfl he12 ?_
          refine sq_val (v_eql hF rfl rfl) hF (by decide) (fun a hF => ?_)
          refine sq_val (v_pick_t hF rfl he12 rfl) hF (by decide) (fun a hF => ?_)
          exact sq_nil (then_j ⟨(hF.keep ⟨rfl, rfl, (boolV (and_t he12)), trivial⟩), hS⟩)
         ·
          have he12 : (x3 && x5) = false := nB he12
          refine sq_no hF rfl rfl he12 (by rintro x ⟨⟩; decide) (fun a hF => ?_)
          refine sq_no hF rfl rfl he12 (by rintro x ⟨⟩; decide) (fun a hF => ?_)
          refine sq_no hF rfl rfl he12 (by rintro x ⟨⟩; decide) (fun a hF => ?_)
          refine sq_no hF rfl rfl he12 (by rintro x ⟨⟩; decide) (fun a hF => ?_)
          refine sq_no hF rfl rfl he12 (by rintro x ⟨⟩; decide) (fun a hF => ?_)
          refine sq_val (v_pick_f hF rfl he12 rfl) hF (by decide) (fun a hF => ?_)
          exact sq_nil (then_j ⟨(hF.keep ⟨rfl, rfl, (boolV (and_f he12)), trivial⟩), hS⟩)
       ·
        by_cases he10 : x3 = true
        ·
         refine sq_yes hF rfl rfl he10 ?_
         refine sq_val (v_load (cs := TRule.enc (TRule.setActs u0 ([])) none 0) hF rfl pa65 ps65 (hS.bc (i := 1) rfl)) hF (by decide) (fun a hF => ?_)
         refine sq_yes hF rfl rfl he10 ?_
         refine sq_val (v_load (cs := TRule.enc (TRule.setActs u1 ([])) none 0) hF rfl pa65 ps65 (hS.bc (i := 0) rfl)) hF (by decide) (fun a hF => ?_)
         refine sq_yes hF rfl rfl he10 ?_
         have hS := hS.addFact (f := fSl k_TAct none 0 []) (SlR.nil _ _ _)
         have hS := hS.addFact (f := fSl k_TAct none 0 []) (SlR.nil _ _ _)
         refine sq_call hF pc122 rfl (by decide) (ok_rule_Key (hS.enter ⟨⟨1, rfl⟩, ⟨0, rfl⟩, trivial⟩) hx6) (fun v W hR a hF => ?_)
         obtain ⟨rfl, hT11⟩ := hR
         have hS := hS.grow hT11.below
         refine sq_val (v_pick_t hF rfl he10 rfl) hF (by decide) (fun a hF => ?_)
         exact sq_nil (then_j ⟨(hF.keep ⟨rfl, rfl, (boolV (and_t he10)), trivial⟩), (hS.keep (List.Sublist.refl _) (List.Sublist.refl _) ⟨⟨2, rfl⟩, ⟨3, rfl⟩, trivial⟩)⟩)
        ·
         have he10 : x3 = false := nB he10
         refine sq_no hF rfl rfl he10 (by rintro x ⟨⟩; decide) (fun a hF => ?_)
         refine sq_no hF rfl rfl he10 (by rintro x ⟨⟩; decide) (fun a hF => ?_)
         refine sq_no hF rfl rfl he10 (by rintro x ⟨⟩; decide) (fun a hF => ?_)
         refine sq_val (v_pick_f hF rfl he10 rfl) hF (by decide) (fun a hF => ?_)
         exact sq_nil (then_j ⟨(hF.keep ⟨rfl, rfl, (boolV (and_f he10)), trivial⟩), hS⟩)
  ·
   refine sq_alloc hF hS pz65 rfl (by decide) (fun b18 a W hF hS => ?_)
   refine sq_nil (then_j ⟨?_, ?_⟩)
   · exact fun _ _ => (hS.keep (.cons _ (List.Sublist.refl _)) (List.Sublist.refl _) ⟨⟨0, rfl⟩, ⟨1, rfl⟩, trivial⟩)
   ·
    have hQC : (fun _ => St M w0 [⟨b2, TRule.enc u1 A1_0 c1_0, 65⟩, ⟨b1, TRule.enc u0 A0_0 c0_0, 65⟩] [] [fSl k_TAct A0_0 c0_0 u0.Acts, fSl k_TAct A1_0 c1_0 u1.Acts]) W W := (hS.keep (.cons _ (List.Sublist.refl _)) (List.Sublist.refl _) ⟨⟨0, rfl⟩, ⟨1, rfl⟩, trivial⟩)
    refine e_listed (listed' := #[true, true, false, true, false, false]) (by kernel_rfl) ?_
    refine e_one (listed' := #[true, true, true, true, false, false]) 2 rfl (by kernel_rfl) (by kernel_rfl) ?_
    refine sq_alloc hF hS pz65 rfl (by decide) (fun b19 a W hF hS => ?_)
    refine sq_nil (then_j ⟨?_, ?_⟩)
    · exact fun _ _ => (hS.keep (.cons _ (.cons _ (List.Sublist.refl _))) (List.Sublist.refl _) ⟨⟨0, rfl⟩, ⟨1, rfl⟩, trivial⟩)
    ·
     have hQC : (fun _ => St M w0 [⟨b2, TRule.enc u1 A1_0 c1_0, 65⟩, ⟨b1, TRule.enc u0 A0_0 c0_0, 65⟩] [] [fSl k_TAct A0_0 c0_0 u0.Acts, fSl k_TAct A1_0 c1_0 u1.Acts]) W W := (hS.keep (.cons _ (.cons _ (List.Sublist.refl _))) (List.Sublist.refl _) ⟨⟨0, rfl⟩, ⟨1, rfl⟩, trivial⟩)
     refine e_one (listed' := #[true, true, true, true, true, false]) 4 rfl (by kernel_rfl) (by kernel_rfl) ?_
     refine sq_store (o := 0) (vs := TRule.enc u0 A0_0 c0_0) (cs' := TRule.enc u0 A0_0 c0_0) hF hS rfl rfl (i := 0) rfl rfl rfl ps65 (TRule.enc_one _ _ _) (Nat.le_of_ble_eq_true rfl) rfl (fun W hS => ?_)
     refine sq_nil (then_j ⟨?_, ?_⟩)
     · exact fun _ _ => (hS.keep (.cons _ (.cons _ (List.Sublist.refl _))) (List.Sublist.refl _) ⟨⟨0, rfl⟩, ⟨1, rfl⟩, trivial⟩)
     ·
      have hQC : (fun _ => St M w0 [⟨b2, TRule.enc u1 A1_0 c1_0, 65⟩, ⟨b1, TRule.enc u0 A0_0 c0_0, 65⟩] [] [fSl k_TAct A0_0 c0_0 u0.Acts, fSl k_TAct A1_0 c1_0 u1.Acts]) W W := (hS.keep (.cons _ (.cons _ (List.Sublist.refl _))) (List.Sublist.refl _) ⟨⟨0, rfl⟩, ⟨1, rfl⟩, trivial⟩)
      refine e_one (listed' := #[true, true, true, true, true, true]) 5 rfl (by kernel_rfl) (by kernel_rfl) ?_
      refine sq_store (o := 0) (vs := TRule.enc u1 A1_0 c1_0) (cs' := TRule.enc u1 A1_0 c1_0) hF hS rfl rfl (i := 1) rfl rfl rfl ps65 (TRule.enc_one _ _ _) (Nat.le_of_ble_eq_true rfl) rfl (fun W hS => ?_)
      refine sq_nil (then_j ⟨?_, ?_⟩)
      · exact fun _ _ => (hS.keep (.cons _ (.cons _ (List.Sublist.refl _))) (List.Sublist.refl _) ⟨⟨0, rfl⟩, ⟨1, rfl⟩, trivial⟩)
      ·
       have hQC : (fun _ => St M w0 [⟨b2, TRule.enc u1 A1_0 c1_0, 65⟩, ⟨b1, TRule.enc u0 A0_0 c0_0, 65⟩] [] [fSl k_TAct A0_0 c0_0 u0.Acts, fSl k_TAct A1_0 c1_0 u1.Acts]) W W := (hS.keep (.cons _ (.cons _ (List.Sublist.refl _))) (List.Sublist.refl _) ⟨⟨0, rfl⟩, ⟨1, rfl⟩, trivial⟩)
       refine e_done (by kernel_rfl) ?_ _
       refine then_n ?_
       refine wp_seq ?_
       refine wp_reg ?_
       refine sq_val (v_fieldAddr hF rfl pf65_2) hF (by decide) (fun a hF => ?_)
       refine sq_store (o := 25) (vs := [.slice none 0 0]) (cs' := TRule.enc (TRule.setActs u0 ([])) none 0) hF hS rfl rfl (i := 0) rfl rfl rfl ps38 (one1 rfl) (Nat.le_of_ble_eq_true rfl) rfl (fun W hS => ?_)
       refine sq_val (v_fieldAddr hF rfl pf65_2) hF (by decide) (fun a hF => ?_)
       refine sq_store (o := 25) (vs := [.slice none 0 0]) (cs' := TRule.enc (TRule.setActs u1 ([])) none 0) hF hS rfl rfl (i := 1) rfl rfl rfl ps38 (one1 rfl) (Nat.le_of_ble_eq_true rfl) rfl (fun W hS => ?_)
       refine sq_nil ?_
       refine then_n ?_
       refine wp_seq ?_
       refine wp_reg ?_
       refine sq_val (v_fieldAddr hF rfl pf65_2) hF (by decide) (fun a hF => ?_)
       refine sq_val (v_load1 hF rfl pa38 (cells_sub (vs := [.slice A0_0 ((u0.Acts).length) c0_0]) (hS.bc (i := 3) rfl) rfl rfl)) hF (by decide) (fun a hF => ?_)
       refine sq_val (v_fieldAddr hF rfl pf65_2) hF (by decide) (fun a hF => ?_)
       refine sq_val (v_load1 hF rfl pa38 (cells_sub (vs := [.slice A1_0 ((u1.Acts).length) c1_0]) (hS.bc (i := 2) rfl) rfl rfl)) hF (by decide) (fun a hF => ?_)
       refine sq_call hF pc185 rfl (by decide) (ok_act_Same k (hS.enter ⟨⟨0, rfl⟩, ⟨1, rfl⟩, trivial⟩) hx4) (fun v W hR a hF => ?_)
       obtain ⟨rfl, hT20⟩ := hR
       have hS := hS.grow hT20.below
       refine sq_val (v_move hF rfl) hF (by decide) (fun a hF => ?_)
       refine sq_cut 4 (fun a W => FH 63 [(5, .pointer (some (⟨b19, 0, none⟩))), (6, .pointer (some (⟨b18, 0, none⟩))), (20, .bool (x3 && x5))] a ∧ St M w0 [⟨b19, TRule.enc (TRule.setActs u0 ([])) none 0, 65⟩, ⟨b18, TRule.enc (TRule.setActs u1 ([])) none 0, 65⟩, ⟨b2, TRule.enc u1 A1_0 c1_0, 65⟩, ⟨b1, TRule.enc u0 A0_0 c0_0, 65⟩] [] [fSl k_TAct A0_0 c0_0 u0.Acts, fSl k_TAct A1_0 c1_0 u1.Acts] W) (fun a W hJ => ?_) ?_
       ·
        obtain ⟨hF, hS⟩ := hJ
        refine sq_val (v_move hF rfl) hF (by decide) (fun a hF => ?_)
        refine sq_cut 6 (fun a W => FH 63 [(5, .pointer (some (⟨b19, 0, none⟩))), (6, .pointer (some (⟨b18, 0, none⟩))), (27, .bool ((x3 && x5) && (u0.Idle == u1.Idle)))] a ∧ St M w0 [⟨b19, TRule.enc (TRule.setActs u0 ([])) none 0, 65⟩, ⟨b18, TRule.enc (TRule.setActs u1 ([])) none 0, 65⟩, ⟨b2, TRule.enc u1 A1_0 c1_0, 65⟩, ⟨b1, TRule.enc u0 A0_0 c0_0, 65⟩] [] [fSl k_TAct A0_0 c0_0 u0.Acts, fSl k_TAct A1_0 c1_0 u1.Acts] W) (fun a W hJ => ?_) ?_
        ·
         obtain ⟨hF, hS⟩ := hJ
         refine sq_val (v_move hF rfl) hF (by decide) (fun a hF => ?_)
         refine sq_cut 6 (fun a W => FH 63 [(5, .pointer (some (⟨b19, 0, none⟩))), (6, .pointer (some (⟨b18, 0, none⟩))), (34, .bool (((x3 && x5) && (u0.Idle == u1.Idle)) && (u0.Hard == u1.Hard)))] a ∧ St M w0 [⟨b19, TRule.enc (TRule.setActs u0 ([])) none 0, 65⟩, ⟨b18, TRule.enc (TRule.setActs u1 ([])) none 0, 65⟩, ⟨b2, TRule.enc u1 A1_0 c1_0, 65⟩, ⟨b1, TRule.enc u0 A0_0 c0_0, 65⟩] [] [fSl k_TAct A0_0 c0_0 u0.Acts, fSl k_TAct A1_0 c1_0 u1.Acts] W) (fun a W hJ => ?_) ?_
         ·
          obtain ⟨hF, hS⟩ := hJ
          refine sq_val (v_move hF rfl) hF (by decide) (fun a hF => ?_)
          refine sq_cut 6 (fun a W => FH 63 [(5, .pointer (some (⟨b19, 0, none⟩))), (6, .pointer (some (⟨b18, 0, none⟩))), (41, .bool ((((x3 && x5) && (u0.Idle == u1.Idle)) && (u0.Hard == u1.Hard)) && (u0.Owner == u1.Owner)))] a ∧ St M w0 [⟨b19, TRule.enc (TRule.setActs u0 ([])) none 0, 65⟩, ⟨b18, TRule.enc (TRule.setActs u1 ([])) none 0, 65⟩, ⟨b2, TRule.enc u1 A1_0 c1_0, 65⟩, ⟨b1, TRule.enc u0 A0_0 c0_0, 65⟩] [] [fSl k_TAct A0_0 c0_0 u0.Acts, fSl k_TAct A1_0 c1_0 u1.Acts] W) (fun a W hJ => ?_) ?_
          ·
           obtain ⟨hF, hS⟩ := hJ
           refine sq_val (v_move hF rfl) hF (by decide) (fun a hF => ?_)
           refine sq_cut 6 (fun a W => FH 63 [(5, .pointer (some (⟨b19, 0, none⟩))), (6, .pointer (some (⟨b18, 0, none⟩))), (48, .bool (((((x3 && x5) && (u0.Idle == u1.Idle)) && (u0.Hard == u1.Hard)) && (u0.Owner == u1.Owner)) && (u0.Hits == u1.Hits)))] a ∧ St M w0 [⟨b19, TRule.enc (TRule.setActs u0 ([])) none 0, 65⟩, ⟨b18, TRule.enc (TRule.setActs u1 ([])) none 0, 65⟩, ⟨b2, TRule.enc u1 A1_0 c1_0, 65⟩, ⟨b1, TRule.enc u0 A0_0 c0_0, 65⟩] [] [fSl k_TAct A0_0 c0_0 u0.Acts, fSl k_TAct A1_0 c1_0 u1.Acts] W) (fun a W hJ => ?_) ?_
           ·
            obtain ⟨hF, hS⟩ := hJ
            refine sq_val (v_move hF rfl) hF (by decide) (fun a hF => ?_)
            refine sq_cut 6 (fun a W => FH 63 [(5, .pointer (some (⟨b19, 0, none⟩))), (6, .pointer (some (⟨b18, 0, none⟩))), (55, .bool ((((((x3 && x5) && (u0.Idle == u1.Idle)) && (u0.Hard == u1.Hard)) && (u0.Owner == u1.Owner)) && (u0.Hits == u1.Hits)) && (u0.Quiet == u1.Quiet)))] a ∧ St M w0 [⟨b19, TRule.enc (TRule.setActs u0 ([])) none 0, 65⟩, ⟨b18, TRule.enc (TRule.setActs u1 ([])) none 0, 65⟩, ⟨b2, TRule.enc u1 A1_0 c1_0, 65⟩, ⟨b1, TRule.enc u0 A0_0 c0_0, 65⟩] [] [fSl k_TAct A0_0 c0_0 u0.Acts, fSl k_TAct A1_0 c1_0 u1.Acts] W) (fun a W hJ => ?_) ?_
            ·
             obtain ⟨hF, hS⟩ := hJ
             refine sq_val (v_move hF rfl) hF (by decide) (fun a hF => ?_)
             refine sq_cut 6 (fun a W => FH 63 [(62, .bool (((((((x3 && x5) && (u0.Idle == u1.Idle)) && (u0.Hard == u1.Hard)) && (u0.Owner == u1.Owner)) && (u0.Hits == u1.Hits)) && (u0.Quiet == u1.Quiet)) && (u0.Age == u1.Age)))] a ∧ St M w0 [⟨b19, TRule.enc (TRule.setActs u0 ([])) none 0, 65⟩, ⟨b18, TRule.enc (TRule.setActs u1 ([])) none 0, 65⟩, ⟨b2, TRule.enc u1 A1_0 c1_0, 65⟩, ⟨b1, TRule.enc u0 A0_0 c0_0, 65⟩] [] [fSl k_TAct A0_0 c0_0 u0.Acts, fSl k_TAct A1_0 c1_0 u1.Acts] W) (fun a W hJ => ?_) ?_
             ·
              obtain ⟨hF, hS⟩ := hJ
              refine sq_val (v_assign hF rfl) hF (by decide) (fun a hF => ?_)
              refine sq_nil ?_
              refine then_n ?_
              refine wp_ret ?_
              obtain rfl := Option.some.inj h
              exact ret1 hF rfl (rv_tmp hF rfl) ⟨_, rfl, rfl, (hS.keep (List.nil_sublist _) (List.Sublist.refl _) trivial)⟩
             ·
              by_cases he28 : ((((((x3 && x5) && (u0.Idle == u1.Idle)) && (u0.Hard == u1.Hard)) && (u0.Owner == u1.Owner)) && (u0.Hits == u1.Hits)) && (u0.Quiet == u1.Quiet)) = true
              ·
               refine sq_yes hF rfl rfl he28 ?_
               refine sq_val (v_fieldAddr hF rfl pf65_8) hF (by decide) (fun a hF => ?_)
               refine sq_yes hF rfl rfl he28 ?_
               refine sq_val (v_load1 hF rfl pa3 (cells_sub (vs := [.int .i64 (u0.Age)]) (hS.bc (i := 0) rfl) rfl rfl)) hF (by decide) (fun a hF => ?_)
               refine sq_yes hF rfl rfl he28 ?_
               refine sq_val (v_fieldAddr hF rfl pf65_8) hF (by decide) (fun a hF => ?_)
               refine sq_yes hF rfl rfl he28 ?_
               refine sq_val (v_load1 hF rfl pa3 (cells_sub (vs := [.int .i64 (u1.Age)]) (hS.bc (i := 1) rfl) rfl rfl)) hF (by decide) (fun a hF => ?_)
               refine sq_yes hF rfl rfl he28 ?_
               refine sq_val (v_eql hF rfl rfl) hF (by decide) (fun a hF => ?_)
               refine sq_val (v_pick_t hF rfl he28 rfl) hF (by decide) (fun a hF => ?_)
               exact sq_nil (then_j ⟨(hF.keep ⟨(boolV (and_t he28)), trivial⟩), hS⟩)
              ·
               have he28 : ((((((x3 && x5) && (u0.Idle == u1.Idle)) && (u0.Hard == u1.Hard)) && (u0.Owner == u1.Owner)) && (u0.Hits == u1.Hits)) && (u0.Quiet == u1.Quiet)) = false := nB he28
               refine sq_no hF rfl rfl he28 (by rintro x ⟨⟩; decide) (fun a hF => ?_)
               refine sq_no hF rfl rfl he28 (by rintro x ⟨⟩; decide) (fun a hF => ?_)
               refine sq_no hF rfl rfl he28 (by rintro x ⟨⟩; decide) (fun a hF => ?_)
               refine sq_no hF rfl rfl he28 (by rintro x ⟨⟩; decide) (fun a hF => ?_)
               refine sq_no hF rfl rfl he28 (by rintro x ⟨⟩; decide) (fun a hF => ?_)
               refine sq_val (v_pick_f hF rfl he28 rfl) hF (by decide) (fun a hF => ?_)
               exact sq_nil (then_j ⟨(hF.keep ⟨(boolV (and_f he28)), trivial⟩), hS⟩)
            ·
             by_cases he27 : (((((x3 && x5) && (u0.Idle == u1.Idle)) && (u0.Hard == u1.Hard)) && (u0.Owner == u1.Owner)) && (u0.Hits == u1.Hits)) = true
             ·
              refine sq_yes hF rfl rfl he27 ?_
              refine sq_val (v_fieldAddr hF rfl pf65_7) hF (by decide) (fun a hF => ?_)
              refine sq_yes hF rfl rfl he27 ?_
              refine sq_val (v_load1 hF rfl pa3 (cells_sub (vs := [.int .i64 (u0.Quiet)]) (hS.bc (i := 0) rfl) rfl rfl)) hF (by decide) (fun a hF => ?_)
              refine sq_yes hF rfl rfl he27 ?_
              refine sq_val (v_fieldAddr hF rfl pf65_7) hF (by decide) (fun a hF => ?_)
              refine sq_yes hF rfl rfl he27 ?_
              refine sq_val (v_load1 hF rfl pa3 (cells_sub (vs := [.int .i64 (u1.Quiet)]) (hS.bc (i := 1) rfl) rfl rfl)) hF (by decide) (fun a hF => ?_)
              refine sq_yes hF rfl rfl he27 ?_
              refine sq_val (v_eql hF rfl rfl) hF (by decide) (fun a hF => ?_)
              refine sq_val (v_pick_t hF rfl he27 rfl) hF (by decide) (fun a hF => ?_)
              exact sq_nil (then_j ⟨(hF.keep ⟨rfl, rfl, (boolV (and_t he27)), trivial⟩), hS⟩)
             ·
              have he27 : (((((x3 && x5) && (u0.Idle == u1.Idle)) && (u0.Hard == u1.Hard)) && (u0.Owner == u1.Owner)) && (u0.Hits == u1.Hits)) = false := nB he27
              refine sq_no hF rfl rfl he27 (by rintro x ⟨⟩; decide) (fun a hF => ?_)
              refine sq_no hF rfl rfl he27 (by rintro x ⟨⟩; decide) (fun a hF => ?_)
              refine sq_no hF rfl rfl he27 (by rintro x ⟨⟩; decide) (fun a hF => ?_)
              refine sq_no hF rfl rfl he27 (by rintro x ⟨⟩; decide) (fun a hF => ?_)
              refine sq_no hF rfl rfl he27 (by rintro x ⟨⟩; decide) (fun a hF => ?_)
              refine sq_val (v_pick_f hF rfl he27 rfl) hF (by decide) (fun a hF => ?_)
              exact sq_nil (then_j ⟨(hF.keep ⟨rfl, rfl, (boolV (and_f he27)), trivial⟩), hS⟩)
           ·
            by_cases he26 : ((((x3 && x5) && (u0.Idle == u1.Idle)) && (u0.Hard == u1.Hard)) && (u0.Owner == u1.Owner)) = true
            ·
             refine sq_yes hF rfl rfl he26 ?_
             refine sq_val (v_fieldAddr hF rfl pf65_6) hF (by decide) (fun a hF => ?_)
             refine sq_yes hF rfl rfl he26 ?_
             refine sq_val (v_load1 hF rfl pa3 (cells_sub (vs := [.int .i64 (u0.Hits)]) (hS.bc (i := 0) rfl) rfl rfl)) hF (by decide) (fun a hF => ?_)
             refine sq_yes hF rfl rfl he26 ?_
             refine sq_val (v_fieldAddr hF rfl pf65_6) hF (by decide) (fun a hF => ?_)
             refine sq_yes hF rfl rfl he26 ?_
             refine sq_val (v_load1 hF rfl pa3 (cells_sub (vs := [.int .i64 (u1.Hits)]) (hS.bc (i := 1) rfl) rfl rfl)) hF (by decide) (fun a hF => ?_)
             refine sq_yes hF rfl rfl he26 ?_
             refine sq_val (v_eql hF rfl rfl) hF (by decide) (fun a hF => ?_)
             refine sq_val (v_pick_t hF rfl he26 rfl) hF (by decide) (fun a hF => ?_)
             exact sq_nil (then_j ⟨(hF.keep ⟨rfl, rfl, (boolV (and_t he26)), trivial⟩), hS⟩)
            ·
             have he26 : ((((x3 && x5) && (u0.Idle == u1.Idle)) && (u0.Hard == u1.Hard)) && (u0.Owner == u1.Owner)) = false := nB he26
             refine sq_no hF rfl rfl he26 (by rintro x ⟨⟩; decide) (fun a hF => ?_)
             refine sq_no hF rfl rfl he26 (by rintro x ⟨⟩; decide) (fun a hF => ?_)
             refine sq_no hF rfl rfl he26 (by rintro x ⟨⟩; decide) (fun a hF => ?_)
             refine sq_no hF rfl rfl he26 (by rintro x ⟨⟩; decide) (fun a hF => ?_)
             refine sq_no hF rfl rfl he26 (by rintro x ⟨⟩; decide) (fun a hF => ?_)
             refine sq_val (v_pick_f hF rfl he26 rfl) hF (by decide) (fun a hF => ?_)
             exact sq_nil (then_j ⟨(hF.keep ⟨rfl, rfl, (boolV (and_f he26)), trivial⟩), hS⟩)
          ·
           by_cases he25 : (((x3 && x5) && (u0.Idle == u1.Idle)) && (u0.Hard == u1.Hard)) = true
           ·
            refine sq_yes hF rfl rfl he25 ?_
            refine sq_val (v_fieldAddr hF rfl pf65_5) hF (by decide) (fun a hF => ?_)
            refine sq_yes hF rfl rfl he25 ?_
            refine sq_val (v_load1 hF rfl pa3 (cells_sub (vs := [.int .i64 (u0.Owner)]) (hS.bc (i := 0) rfl) rfl rfl)) hF (by decide) (fun a hF => ?_)
            refine sq_yes hF rfl rfl he25 ?_
            refine sq_val (v_fieldAddr hF rfl pf65_5) hF (by decide) (fun a hF => ?_)
            refine sq_yes hF rfl rfl he25 ?_
            refine sq_val (v_load1 hF rfl pa3 (cells_sub (vs := [.int .i64 (u1.Owner)]) (hS.bc (i := 1) rfl) rfl rfl)) hF (by decide) (fun a hF => ?_)
            refine sq_yes hF rfl rfl he25 ?_
            refine sq_val (v_eql hF rfl rfl) hF (by decide) (fun a hF => ?_)
            refine sq_val (v_pick_t hF rfl he25 rfl) hF (by decide) (fun a hF => ?_)
            exact sq_nil (then_j ⟨(hF.keep ⟨rfl, rfl, (boolV (and_t he25)), trivial⟩), hS⟩)
           ·
            have he25 : (((x3 && x5) && (u0.Idle == u1.Idle)) && (u0.Hard == u1.Hard)) = false := nB he25
            refine sq_no hF rfl rfl he25 (by rintro x ⟨⟩; decide) (fun a hF => ?_)
            refine sq_no hF rfl rfl he25 (by rintro x ⟨⟩; decide) (fun a hF => ?_)
            refine sq_no hF rfl rfl he25 (by rintro x ⟨⟩; decide) (fun a hF => ?_)
            refine sq_no hF rfl rfl he25 (by rintro x ⟨⟩; decide) (fun a hF => ?_)
            refine sq_no hF rfl rfl he25 (by rintro x ⟨⟩; decide) (fun a hF => ?_)
            refine sq_val (v_pick_f hF rfl he25 rfl) hF (by decide) (fun a hF => ?_)
            exact sq_nil (then_j ⟨(hF.keep ⟨rfl, rfl, (boolV (and_f he25)), trivial⟩), hS⟩)
         ·
          by_cases he24 : ((x3 && x5) && (u0.Idle == u1.Idle)) = true
          ·
           refine sq_yes hF rfl rfl he24 ?_
           refine sq_val (v_fieldAddr hF rfl pf65_4) hF (by decide) (fun a hF => ?_)
           refine sq_yes hF rfl rfl he24 ?_
           refine sq_val (v_load1 hF rfl pa3 (cells_sub (vs := [.int .i64 (u0.Hard)]) (hS.bc (i := 0) rfl) rfl rfl)) hF (by decide) (fun a hF => ?_)
           refine sq_yes hF rfl rfl he24 ?_
           refine sq_val (v_fieldAddr hF rfl pf65_4) hF (by decide) (fun a hF => ?_)
           refine sq_yes hF rfl rfl he24 ?_
           refine sq_val (v_load1 hF rfl pa3 (cells_sub (vs := [.int .i64 (u1.Hard)]) (hS.bc (i := 1) rfl) rfl rfl)) hF (by decide) (fun a hF => ?_)
           refine sq_yes hF rfl rfl he24 ?_
           refine sq_val (v_eql hF rfl rfl) hF (by decide) (fun a hF => ?_)
           refine sq_val (v_pick_t hF rfl he24 rfl) hF (by decide) (fun a hF => ?_)
           exact sq_nil (then_j ⟨(hF.keep ⟨rfl, rfl, (boolV (and_t he24)), trivial⟩), hS⟩)
          ·
           have he24 : ((x3 && x5) && (u0.Idle == u1.Idle)) = false := nB he24
           refine sq_no hF rfl rfl he24 (by rintro x ⟨⟩; decide) (fun a hF => ?_)
           refine sq_no hF rfl rfl he24 (by rintro x ⟨⟩; decide) (fun a hF => ?_)
           refine sq_no hF rfl rfl he24 (by rintro x ⟨⟩; decide) (fun a hF => ?_)
           refine sq_no hF rfl rfl he24 (by rintro x ⟨⟩; decide) (fun a hF => ?_)
           refine sq_no hF rfl rfl he24 (by rintro x ⟨⟩; decide) (fun a hF => ?_)
           refine sq_val (v_pick_f hF rfl he24 rfl) hF (by decide) (fun a hF => ?_)
           exact sq_nil (then_j ⟨(hF.keep ⟨rfl, rfl, (boolV (and_f he24)), trivial⟩), hS⟩)
        ·
         by_cases he23 : (x3 && x5) = true
         ·
          refine sq_yes hF rfl rfl he23 ?_
          refine sq_val (v_fieldAddr hF rfl pf65_3) hF (by decide) (fun a hF => ?_)
          refine sq_yes hF rfl rfl he23 ?_
          refine sq_val (v_load1 hF rfl pa3 (cells_sub (vs := [.int .i64 (u0.Idle)]) (hS.bc (i := 0) rfl) rfl rfl)) hF (by decide) (fun a hF => ?_)
          refine sq_yes hF rfl rfl he23 ?_
          refine sq_val (v_fieldAddr hF rfl pf65_3) hF (by decide) (fun a hF => ?_)
          refine sq_yes hF rfl rfl he23 ?_
          refine sq_val (v_load1 hF rfl pa3 (cells_sub (vs := [.int .i64 (u1.Idle)]) (hS.bc (i := 1) rfl) rfl rfl)) hF (by decide) (fun a hF => ?_)
          refine sq_yes hF rfl rfl he23 ?_
          refine sq_val (v_eql hF rfl rfl) hF (by decide) (fun a hF => ?_)
          refine sq_val (v_pick_t hF rfl he23 rfl) hF (by decide) (fun a hF => ?_)
          exact sq_nil (then_j ⟨(hF.keep ⟨rfl, rfl, (boolV (and_t he23)), trivial⟩), hS⟩)
         ·
          have he23 : (x3 && x5) = false := nB he23
          refine sq_no hF rfl rfl he23 (by rintro x ⟨⟩; decide) (fun a hF => ?_)
          refine sq_no hF rfl rfl he23 (by rintro x ⟨⟩; decide) (fun a hF => ?_)
          refine sq_no hF rfl rfl he23 (by rintro x ⟨⟩; decide) (fun a hF => ?_)
          refine sq_no hF rfl rfl he23 (by rintro x ⟨⟩; decide) (fun a hF => ?_)
          refine sq_no hF rfl rfl he23 (by rintro x ⟨⟩; decide) (fun a hF => ?_)
          refine sq_val (v_pick_f hF rfl he23 rfl) hF (by decide) (fun a hF => ?_)
          exact sq_nil (then_j ⟨(hF.keep ⟨rfl, rfl, (boolV (and_f he23)), trivial⟩), hS⟩)
       ·
        by_cases he21 : x3 = true
        ·
         refine sq_yes hF rfl rfl he21 ?_
         refine sq_val (v_load (cs := TRule.enc (TRule.setActs u0 ([])) none 0) hF rfl pa65 ps65 (hS.bc (i := 0) rfl)) hF (by decide) (fun a hF => ?_)
         refine sq_yes hF rfl rfl he21 ?_
         refine sq_val (v_load (cs := TRule.enc (TRule.setActs u1 ([])) none 0) hF rfl pa65 ps65 (hS.bc (i := 1) rfl)) hF (by decide) (fun a hF => ?_)
         refine sq_yes hF rfl rfl he21 ?_
         have hS := hS.addFact (f := fSl k_TAct none 0 []) (SlR.nil _ _ _)
         have hS := hS.addFact (f := fSl k_TAct none 0 []) (SlR.nil _ _ _)
         refine sq_call hF pc122 rfl (by decide) (ok_rule_Key (hS.enter ⟨⟨1, rfl⟩, ⟨0, rfl⟩, trivial⟩) hx6) (fun v W hR a hF => ?_)
         obtain ⟨rfl, hT22⟩ := hR
         have hS := hS.grow hT22.below
         refine sq_val (v_pick_t hF rfl he21 rfl) hF (by decide) (fun a hF => ?_)
         exact sq_nil (then_j ⟨(hF.keep ⟨rfl, rfl, (boolV (and_t he21)), trivial⟩), (hS.keep (List.Sublist.refl _) (List.Sublist.refl _) ⟨⟨2, rfl⟩, ⟨3, rfl⟩, trivial⟩)⟩)
        ·
         have he21 : x3 = false := nB he21
         refine sq_no hF rfl rfl he21 (by rintro x ⟨⟩; decide) (fun a hF => ?_)
         refine sq_no hF rfl rfl he21 (by rintro x ⟨⟩; decide) (fun a hF => ?_)
         refine sq_no hF rfl rfl he21 (by rintro x ⟨⟩; decide) (fun a hF => ?_)
         refine sq_val (v_pick_f hF rfl he21 rfl) hF (by decide) (fun a hF => ?_)
         exact sq_nil (then_j ⟨(hF.keep ⟨rfl, rfl, (boolV (and_f he21)), trivial⟩), hS⟩)

theorem ok_undo_alone_1 (k : Nat) {M : Nat → Prop} {w0 : World} {u0 : TRule} {A0_0 : Option Addr} {c0_0 : Nat} {y0 : TRule} {b0_ : Nat} {B0_0 : Option Addr} {d0_0 : Nat} {o : Bool} (hS : St M w0 [] [] [fSl k_TAct A0_0 c0_0 u0.Acts, fSl k_TAct B0_0 d0_0 y0.Acts, fBox b0_ (TRule.enc y0 B0_0 d0_0) 65] w0) (h : undo_alone_1 k u0 y0 = some o) :
    Calls Try.prog 151 #[.agg (TRule.enc u0 A0_0 c0_0).toArray, .pointer (some (⟨b0_, 0, none⟩))] w0 fun e W' => ∃ v, e = .returned v ∧ (v = .bool (o) ∧ St M w0 [] [] [] W') := by
  unfold undo_alone_1 at h
  refine calls_start (args := [.agg (TRule.enc u0 A0_0 c0_0).toArray, .pointer (some (⟨b0_, 0, none⟩))]) Try.func151 rfl rfl (Nat.le_of_ble_eq_true rfl) (fun a hF => ?_)
  refine wp_seq ?_
  refine wp_reg ?_
  refine sq_box hF hS rfl rfl (by decide) (fun b1 a W hF hS => ?_)
  refine sq_val (v_assign hF rfl) hF (by decide) (fun a hF => ?_)
  refine sq_nil ?_
  refine then_n ?_
  refine wp_seq ?_
  refine wp_reg ?_
  refine sq_val (v_load (cs := TRule.enc y0 B0_0 d0_0) hF rfl pa65 ps65 (hS.fbc (i := 2) rfl)) hF (by decide) (fun a hF => ?_)
  refine sq_val (v_load (cs := TRule.enc u0 A0_0 c0_0) hF rfl pa65 ps65 (hS.bc (i := 0) rfl)) hF (by decide) (fun a hF => ?_)
  obtain ⟨x2, hx3, h⟩ := bindS h
  refine sq_call hF pc152 rfl (by decide) (ok_rule_Equal k (hS.enter ⟨⟨1, rfl⟩, ⟨0, rfl⟩, trivial⟩) hx3) (fun v W hR a hF => ?_)
  obtain ⟨rfl, hT4⟩ := hR
  have hS := hS.grow hT4.below
  refine sq_val (v_assign hF rfl) hF (by decide) (fun a hF => ?_)
  refine sq_nil ?_
  refine then_n ?_
  refine wp_ret ?_
  obtain rfl := Option.some.inj h
  exact ret1 hF rfl (rv_tmp hF rfl) ⟨_, rfl, rfl, (hS.keep (List.nil_sublist _) (List.Sublist.refl _) trivial)⟩

theorem ok_undo_alone (k : Nat) {M : Nat → Prop} {w0 : World} {u0 : List TRule} {A0_0 : Option Addr} {c0_0 : Nat} {u1 : List TRule} {A1_0 : Option Addr} {c1_0 : Nat} {o : (List TRule)} (hS : St M w0 [] [] [fSl k_TRule A0_0 c0_0 u0, fSl k_TRule A1_0 c1_0 u1] w0) (h : undo_alone k u0 u1 = some o) :
    Calls Try.prog 132 #[.slice A0_0 ((u0).length) c0_0, .slice A1_0 ((u1).length) c1_0] w0 fun e W' => ∃ v, e = .returned v ∧ (∃ (A51 : Option Addr) (c52 : Nat), v = .slice A51 ((o).length) c52 ∧ St M w0 [] [⟨k_TRule, 65, A51, c52, o⟩] [] W') := by
  unfold undo_alone at h
  refine calls_start (args := [.slice A0_0 ((u0).length) c0_0, .slice A1_0 ((u1).length) c1_0]) Try.func132 rfl rfl (Nat.le_of_ble_eq_true rfl) (fun a hF => ?_)
  refine wp_seq ?_
  refine wp_reg ?_
  refine sq_val (v_assign hF rfl) hF (by decide) (fun a hF => ?_)
  refine sq_nil ?_
  refine then_n ?_
  refine wp_seq ?_
  refine wp_reg ?_
  refine sq_val (v_assign hF rfl) hF (by decide) (fun a hF => ?_)
  refine sq_nil ?_
  refine then_n ?_
  refine wp_seq ?_
  refine wp_seq ?_
  refine wp_reg ?_
  refine sq_val (v_move hF rfl) hF (by decide) (fun a hF => ?_)
  refine sq_val (v_len hF rfl pu37) hF (by decide) (fun a hF => ?_)
  refine sq_val (v_move hF rfl) hF (by decide) (fun a hF => ?_)
  refine sq_nil ?_
  refine then_n ?_
  obtain ⟨o12, h, hk13⟩ := bindS h
  refine wp_join (fun a W => ∃ (x9 : List TRule) (A10 : Option Addr) (c11 : Nat), x9 = o12 ∧ FH 25 [(5, .slice A10 ((x9).length) c11)] a ∧ St M w0 [] [⟨k_TRule, 65, A10, c11, x9⟩] [] W) (fun a W hJ => ?_) ?_
  ·
   obtain ⟨x9, A10, c11, rfl, hF, hS⟩ := hJ
   have h := hk13
   refine then_n ?_
   refine wp_seq ?_
   refine wp_reg ?_
   refine sq_val (v_move hF rfl) hF (by decide) (fun a hF => ?_)
   have hS := hS.freeze (i := 0) rfl (posB rfl)
   obtain ⟨x14, hx15, h⟩ := bindS h
   refine sq_call hF pc67 rfl (by decide) (ok_rule_Copy k (hS.enter ⟨⟨0, rfl⟩, trivial⟩) hx15) (fun v W hR a hF => ?_)
   obtain ⟨A16, c17, rfl, hT18⟩ := hR
   have hS := hS.join hT18
   refine sq_val (v_assign hF rfl) hF (by decide) (fun a hF => ?_)
   refine sq_nil ?_
   refine then_n ?_
   refine wp_ret ?_
   obtain rfl := Option.some.inj h
   exact ret1 hF rfl (rv_tmp hF rfl) ⟨_, rfl, A16, c17, rfl, (hS.keep (List.Sublist.refl _) (List.Sublist.refl _) trivial)⟩
  ·
   have hS := hS.addNil k_TRule 65
   refine wp_block ?_
   refine wp_loop_fuel (I := fun m a W => ∃ (x5 : List TRule) (x8 : Int) (A6 : Option Addr) (c7 : Nat), FH 25 [(1, .slice A1_0 ((u1).length) c1_0), (5, .slice A6 ((x5).length) c7), (8, .slice A0_0 ((u0).length) c0_0), (9, .int .i64 ((u0.length : Int))), (10, .int .i64 (x8))] a ∧ St M w0 [] [⟨k_TRule, 65, A6, c7, x5⟩] [fSl k_TRule A0_0 c0_0 u0, fSl k_TRule A1_0 c1_0 u1] W ∧ (undo_alone.l0 k u0 u1 m x5 x8) = some o12) ?_ (k := k) ⟨([]), 0, none, 0, (hF.keep ⟨rfl, rfl, rfl, rfl, rfl, trivial⟩), hS, h⟩
   rintro m19 a W ⟨x5, x8, A6, c7, hF, hS, h⟩
   cases m19 with
   | zero => cases h
   | succ m19 =>
    rw [undo_alone.l0] at h
    refine wp_seq ?_
    refine wp_reg ?_
    refine sq_val (v_lss hF rfl rfl) hF (by decide) (fun a hF => ?_)
    refine sq_nil ?_
    refine then_n ?_
    refine wp_seq ?_
    refine wp_if hF rfl (fun he20 => ?_) (fun he20 => ?_)
    ·
     replace h := ifT he20 h
     refine wp_skip ?_
     refine then_n ?_
     refine wp_seq ?_
     obtain ⟨o24, h, hk25⟩ := bindS h
     refine wp_join (fun a W => ∃ (x21 : List TRule) (A22 : Option Addr) (c23 : Nat), x21 = o24 ∧ FH 25 [(1, .slice A1_0 ((u1).length) c1_0), (5, .slice A22 ((x21).length) c23), (8, .slice A0_0 ((u0).length) c0_0), (9, .int .i64 ((u0.length : Int))), (10, .int .i64 (x8))] a ∧ St M w0 [] [⟨k_TRule, 65, A22, c23, x21⟩] [fSl k_TRule A0_0 c0_0 u0, fSl k_TRule A1_0 c1_0 u1] W) (fun a W hJ => ?_) ?_
     ·
      obtain ⟨x21, A22, c23, rfl, hF, hS⟩ := hJ
      have h := hk25
      refine then_n ?_
      refine wp_reg ?_
      refine sq_val (v_add hF rfl rfl) hF (by decide) (fun a hF => ?_)
      refine sq_val (v_move hF rfl) hF (by decide) (fun a hF => ?_)
      refine sq_nil ?_
      exact then_j ⟨m19, Nat.lt_succ_self _, x21, (IntKind.i64.wrap (x8 + 1)), A22, c23, (hF.keep ⟨rfl, rfl, rfl, rfl, rfl, trivial⟩), hS, h⟩
     ·
      refine wp_block ?_
      refine wp_seq ?_
      refine wp_reg ?_
      obtain ⟨x26, hx27, h⟩ := bindS h
      obtain ⟨p28, cs29, hA30, hat31⟩ := SlR.at (hS.fc (i := 0) rfl) hx27
      obtain ⟨A32, c33, rfl, hs34⟩ := hat31.2.2.2
      have hS := hS.addFact (f := fAt k_TRule (p28.add (x8.toNat * 32)) (TRule.enc x26 A32 c33) x26) hat31
      have hS := hS.addFact (f := fSl k_TAct A32 c33 x26.Acts) hs34
      refine sq_val (v_idx hF rfl hA30 rfl psl37 hx27) hF (by decide) (fun a hF => ?_)
      refine sq_val (v_load (cs := TRule.enc x26 A32 c33) hF rfl pa65 ps65 (hS.pc (i := 1) rfl)) hF (by decide) (fun a hF => ?_)
      refine sq_alloc hF hS pz65 rfl (by decide) (fun b35 a W hF hS => ?_)
      refine sq_store (o := 0) (vs := TRule.enc x26 A32 c33) (cs' := TRule.enc x26 A32 c33) hF hS rfl rfl (i := 0) rfl rfl rfl ps65 (TRule.enc_one _ _ _) (Nat.le_of_ble_eq_true rfl) rfl (fun W hS => ?_)
      refine sq_nil ?_
      refine then_n ?_
      refine wp_seq ?_
      refine wp_reg ?_
      refine sq_val (v_move hF rfl) hF (by decide) (fun a hF => ?_)
      have hS := hS.freezeBox (i := 0) rfl
      have hS := hS.addFact (f := fFn1 Try.prog 151 ([.pointer (some (⟨b35, 0, none⟩))]) k_TRule true (fun (a0 : TRule) => undo_alone_1 k a0 x26) (fun y => .bool y)) ⟨pc151, fun M' W' hs hv cs a0 y hR hp => by obtain ⟨P0_0, q0_0, rfl, z0_0⟩ := hR; exact fromSt (ok_undo_alone_1 k (St.ofAll hv ⟨z0_0, ((fSl k_TAct A32 c33 x26.Acts).st (hS.fc (i := 1) rfl) hs), ((fBox b35 (TRule.enc x26 A32 c33) 65).st (hS.fc (i := 0) rfl) hs), trivial⟩) hp)⟩
      refine sq_val (v_makeFunc (xs := [.tmp 7]) (vs := [.pointer (some (⟨b35, 0, none⟩))]) hF rfl) hF (by decide) (fun a hF => ?_)
      obtain ⟨x36, hx37, h⟩ := bindS h
      refine sq_call hF pc125 rfl (by decide) (ok_slices_ContainsFunc_Rule k (hS.enter ⟨⟨5, rfl⟩, ⟨0, rfl⟩, trivial⟩) hx37) (fun v W hR a hF => ?_)
      obtain ⟨rfl, hT38⟩ := hR
      have hS := hS.grow hT38.below
      refine sq_val (v_not hF rfl) hF (by decide) (fun a hF => ?_)
      refine sq_nil ?_
      refine then_n ?_
      obtain ⟨o42, h, hk43⟩ := bindS h
      refine wp_join (fun a W => ∃ (x39 : List TRule) (A40 : Option Addr) (c41 : Nat), x39 = o42 ∧ FH 25 [(1, .slice A1_0 ((u1).length) c1_0), (5, .slice A40 ((x39).length) c41), (8, .slice A0_0 ((u0).length) c0_0), (9, .int .i64 ((u0.length : Int))), (10, .int .i64 (x8))] a ∧ St M w0 [] [⟨k_TRule, 65, A40, c41, x39⟩] [fSl k_TRule A0_0 c0_0 u0, fSl k_TRule A1_0 c1_0 u1] W) (fun a W hJ => ?_) ?_
      ·
       obtain ⟨x39, A40, c41, rfl, hF, hS⟩ := hJ
       have h := hk43
       refine blk_n ?_
       obtain rfl := Option.some.inj h
       exact then_j ⟨x39, A40, c41, rfl, (hF.keep ⟨rfl, rfl, rfl, rfl, rfl, trivial⟩), hS⟩
      ·
       refine wp_if hF rfl (fun he44 => ?_) (fun he44 => ?_)
       ·
        replace h := ifT he44 h
        refine wp_reg ?_
        refine sq_val (v_move hF rfl) hF (by decide) (fun a hF => ?_)
        refine sq_val (v_load (cs := TRule.enc x26 A32 c33) hF rfl pa65 ps65 (hS.fbc (i := 1) rfl)) hF (by decide) (fun a hF => ?_)
        refine sq_buildSlice (κ := k_TRule) (xs := [.tmp 19]) (ys := [x26]) hF hS rfl rfl rfl (Els.cons ⟨A32, c33, rfl, (hS.fc (i := 2) rfl)⟩ (Els.nil _ _ _)) rfl psl37 pz65 rfl (by decide) (by decide) (by decide) (fun A45 c46 a W hF hS => ?_)
        obtain ⟨x49, hx50, h⟩ := bindS h
        refine sq_append (ys := ([x26])) hF hS (i := 1) rfl rfl rfl (hS.rw_ (i := 0) rfl).src psl37 pb65 pz65 rfl (by decide) (by decide) hx50 (by decide) (fun A47 c48 a W hF hS => ?_)
        refine sq_val (v_assign hF rfl) hF (by decide) (fun a hF => ?_)
        refine sq_nil ?_
        obtain rfl := Option.some.inj h
        exact then_j ⟨x49, A47, c48, rfl, (hF.keep ⟨rfl, rfl, rfl, rfl, rfl, trivial⟩), (hS.keep (List.Sublist.refl _) (.cons _ (List.Sublist.refl _)) ⟨⟨4, rfl⟩, ⟨5, rfl⟩, trivial⟩)⟩
       ·
        replace h := ifF he44 h
        refine wp_skip ?_
        obtain rfl := Option.some.inj h
        exact then_j ⟨x5, A6, c7, rfl, (hF.keep ⟨rfl, rfl, rfl, rfl, rfl, trivial⟩), (hS.keep (List.Sublist.refl _) (List.Sublist.refl _) ⟨⟨4, rfl⟩, ⟨5, rfl⟩, trivial⟩)⟩
    ·
     replace h := ifF he20 h
     refine wp_exit ?_
     refine then_x ?_
     refine then_x ?_
     refine blk_hit ?_
     obtain rfl := Option.some.inj h
     exact then_j ⟨x5, A6, c7, rfl, (hF.keep ⟨rfl, trivial⟩), (hS.keep (List.Sublist.refl _) (List.Sublist.refl _) trivial)⟩
end Go.Proofs.Ytangebngeeamoaa
