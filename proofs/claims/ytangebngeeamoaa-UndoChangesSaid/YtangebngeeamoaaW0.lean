/- What calls of the Go functions come to. -/
import Derived.Test.YtangebngeeamoaaT
import Derived.Test.YtangebngeeamoaaF
import Derived.Test.YtangebngeeamoaaIN
set_option linter.unusedVariables false
set_option linter.unusedSimpArgs false
set_option maxRecDepth 100000
set_option maxHeartbeats 4000000
namespace Go.Proofs.Ytangebngeeamoaa
open Go.RowKit Go.Pod
theorem ok_head_there {M : Nat → Prop} {w0 : World} {u0 : Int} {o : Bool} (hS : St M w0 [] [] [] w0) (h : head_there u0 = some o) :
    Calls Try.prog 111 #[.int .i64 (u0)] w0 fun e W' => ∃ v, e = .returned v ∧ (v = .bool (o) ∧ St M w0 [] [] [] W') := by
  unfold head_there at h
  refine calls_start (args := [.int .i64 (u0)]) Try.func111 rfl rfl (Nat.le_of_ble_eq_true rfl) (fun a hF => ?_)
  refine wp_seq ?_
  refine wp_reg ?_
  refine sq_val (v_assign hF rfl) hF (by decide) (fun a hF => ?_)
  refine sq_nil ?_
  refine then_n ?_
  refine wp_seq ?_
  refine wp_reg ?_
  refine sq_val (v_move hF rfl) hF (by decide) (fun a hF => ?_)
  refine sq_val (v_geq hF rfl rfl) hF (by decide) (fun a hF => ?_)
  refine sq_val (v_move hF rfl) hF (by decide) (fun a hF => ?_)
  refine sq_cut 3 (fun a W => FH 9 [(8, .bool ((decide (0 ≤ u0)) && (decide (u0 < 12))))] a ∧ St M w0 [] [] [] W) (fun a W hJ => ?_) ?_
  ·
   obtain ⟨hF, hS⟩ := hJ
   refine sq_val (v_assign hF rfl) hF (by decide) (fun a hF => ?_)
   refine sq_nil ?_
   refine then_n ?_
   refine wp_ret ?_
   obtain rfl := Option.some.inj h
   exact ret1 hF rfl (rv_tmp hF rfl) ⟨_, rfl, rfl, hS⟩
  ·
   by_cases he1 : (decide (0 ≤ u0)) = true
   ·
    refine sq_yes hF rfl rfl he1 ?_
    refine sq_val (v_move hF rfl) hF (by decide) (fun a hF => ?_)
    refine sq_yes hF rfl rfl he1 ?_
    refine sq_val (v_lss hF rfl rfl) hF (by decide) (fun a hF => ?_)
    refine sq_val (v_pick_t hF rfl he1 rfl) hF (by decide) (fun a hF => ?_)
    exact sq_nil (then_j ⟨(hF.keep ⟨(boolV (and_t he1)), trivial⟩), hS⟩)
   ·
    have he1 : (decide (0 ≤ u0)) = false := nB he1
    refine sq_no hF rfl rfl he1 (by rintro x ⟨⟩; decide) (fun a hF => ?_)
    refine sq_no hF rfl rfl he1 (by rintro x ⟨⟩; decide) (fun a hF => ?_)
    refine sq_val (v_pick_f hF rfl he1 rfl) hF (by decide) (fun a hF => ?_)
    exact sq_nil (then_j ⟨(hF.keep ⟨(boolV (and_f he1)), trivial⟩), hS⟩)

theorem ok_head_fields {M : Nat → Prop} {w0 : World}  {o : (Fin 12 → Thead_field)} (hS : St M w0 [] [] [] w0) (h : head_fields = some o) :
    Calls Try.prog 112 #[] w0 fun e W' => ∃ v, e = .returned v ∧ (v = .agg (A12Thead_field.enc o).toArray ∧ St M w0 [] [] [] W') := by
  unfold head_fields at h
  refine calls_start (args := []) Try.func112 rfl rfl (Nat.le_of_ble_eq_true rfl) (fun a hF => ?_)
  refine wp_seq ?_
  refine wp_reg ?_
  refine sq_alloc hF hS pz121 rfl (by decide) (fun b1 a W hF hS => ?_)
  refine sq_nil ?_
  refine then_n ?_
  refine wp_seq ?_
  refine wp_reg ?_
  refine sq_val (v_build (parts := [(0, .const (.string ((ByteArray.mk #[105, 110])))), (1, .const (.int .i64 16))]) (out := Thead_field.enc ({ name_ := (ByteArray.mk #[105, 110]), size_ := 16 } : Thead_field)) hF rfl rfl pz120 rfl pp120 rfl) hF (by decide) (fun a hF => ?_)
  refine sq_val (v_build (parts := [(0, .const (.string ((ByteArray.mk #[101, 115, 114, 99])))), (1, .const (.int .i64 48))]) (out := Thead_field.enc ({ name_ := (ByteArray.mk #[101, 115, 114, 99]), size_ := 48 } : Thead_field)) hF rfl rfl pz120 rfl pp120 rfl) hF (by decide) (fun a hF => ?_)
  refine sq_val (v_build (parts := [(0, .const (.string ((ByteArray.mk #[101, 100, 115, 116])))), (1, .const (.int .i64 48))]) (out := Thead_field.enc ({ name_ := (ByteArray.mk #[101, 100, 115, 116]), size_ := 48 } : Thead_field)) hF rfl rfl pz120 rfl pp120 rfl) hF (by decide) (fun a hF => ?_)
  refine sq_val (v_build (parts := [(0, .const (.string ((ByteArray.mk #[101, 116, 121, 112, 101])))), (1, .const (.int .i64 16))]) (out := Thead_field.enc ({ name_ := (ByteArray.mk #[101, 116, 121, 112, 101]), size_ := 16 } : Thead_field)) hF rfl rfl pz120 rfl pp120 rfl) hF (by decide) (fun a hF => ?_)
  refine sq_val (v_build (parts := [(0, .const (.string ((ByteArray.mk #[118, 108, 97, 110])))), (1, .const (.int .i64 12))]) (out := Thead_field.enc ({ name_ := (ByteArray.mk #[118, 108, 97, 110]), size_ := 12 } : Thead_field)) hF rfl rfl pz120 rfl pp120 rfl) hF (by decide) (fun a hF => ?_)
  refine sq_val (v_build (parts := [(0, .const (.string ((ByteArray.mk #[112, 99, 112])))), (1, .const (.int .i64 4))]) (out := Thead_field.enc ({ name_ := (ByteArray.mk #[112, 99, 112]), size_ := 4 } : Thead_field)) hF rfl rfl pz120 rfl pp120 rfl) hF (by decide) (fun a hF => ?_)
  refine sq_val (v_build (parts := [(0, .const (.string ((ByteArray.mk #[115, 114, 99])))), (1, .const (.int .i64 32))]) (out := Thead_field.enc ({ name_ := (ByteArray.mk #[115, 114, 99]), size_ := 32 } : Thead_field)) hF rfl rfl pz120 rfl pp120 rfl) hF (by decide) (fun a hF => ?_)
  refine sq_val (v_build (parts := [(0, .const (.string ((ByteArray.mk #[100, 115, 116])))), (1, .const (.int .i64 32))]) (out := Thead_field.enc ({ name_ := (ByteArray.mk #[100, 115, 116]), size_ := 32 } : Thead_field)) hF rfl rfl pz120 rfl pp120 rfl) hF (by decide) (fun a hF => ?_)
  refine sq_val (v_build (parts := [(0, .const (.string ((ByteArray.mk #[112, 114, 111, 116, 111])))), (1, .const (.int .i64 8))]) (out := Thead_field.enc ({ name_ := (ByteArray.mk #[112, 114, 111, 116, 111]), size_ := 8 } : Thead_field)) hF rfl rfl pz120 rfl pp120 rfl) hF (by decide) (fun a hF => ?_)
  refine sq_val (v_build (parts := [(0, .const (.string ((ByteArray.mk #[116, 111, 115])))), (1, .const (.int .i64 8))]) (out := Thead_field.enc ({ name_ := (ByteArray.mk #[116, 111, 115]), size_ := 8 } : Thead_field)) hF rfl rfl pz120 rfl pp120 rfl) hF (by decide) (fun a hF => ?_)
  refine sq_val (v_build (parts := [(0, .const (.string ((ByteArray.mk #[115, 112, 111, 114, 116])))), (1, .const (.int .i64 12))]) (out := Thead_field.enc ({ name_ := (ByteArray.mk #[115, 112, 111, 114, 116]), size_ := 12 } : Thead_field)) hF rfl rfl pz120 rfl pp120 rfl) hF (by decide) (fun a hF => ?_)
  refine sq_val (v_build (parts := [(0, .const (.string ((ByteArray.mk #[100, 112, 111, 114, 116])))), (1, .const (.int .i64 12))]) (out := Thead_field.enc ({ name_ := (ByteArray.mk #[100, 112, 111, 114, 116]), size_ := 12 } : Thead_field)) hF rfl rfl pz120 rfl pp120 rfl) hF (by decide) (fun a hF => ?_)
  refine sq_val (v_buildA (parts := [(0, .tmp 1), (1, .tmp 2), (2, .tmp 3), (3, .tmp 4), (4, .tmp 5), (5, .tmp 6), (6, .tmp 7), (7, .tmp 8), (8, .tmp 9), (9, .tmp 10), (10, .tmp 11), (11, .tmp 12)]) (out := A12Thead_field.enc ((fun q => bif Nat.beq q.val 0 then ({ name_ := (ByteArray.mk #[105, 110]), size_ := 16 } : Thead_field) else bif Nat.beq q.val 1 then ({ name_ := (ByteArray.mk #[101, 115, 114, 99]), size_ := 48 } : Thead_field) else bif Nat.beq q.val 2 then ({ name_ := (ByteArray.mk #[101, 100, 115, 116]), size_ := 48 } : Thead_field) else bif Nat.beq q.val 3 then ({ name_ := (ByteArray.mk #[101, 116, 121, 112, 101]), size_ := 16 } : Thead_field) else bif Nat.beq q.val 4 then ({ name_ := (ByteArray.mk #[118, 108, 97, 110]), size_ := 12 } : Thead_field) else bif Nat.beq q.val 5 then ({ name_ := (ByteArray.mk #[112, 99, 112]), size_ := 4 } : Thead_field) else bif Nat.beq q.val 6 then ({ name_ := (ByteArray.mk #[115, 114, 99]), size_ := 32 } : Thead_field) else bif Nat.beq q.val 7 then ({ name_ := (ByteArray.mk #[100, 115, 116]), size_ := 32 } : Thead_field) else bif Nat.beq q.val 8 then ({ name_ := (ByteArray.mk #[112, 114, 111, 116, 111]), size_ := 8 } : Thead_field) else bif Nat.beq q.val 9 then ({ name_ := (ByteArray.mk #[116, 111, 115]), size_ := 8 } : Thead_field) else bif Nat.beq q.val 10 then ({ name_ := (ByteArray.mk #[115, 112, 111, 114, 116]), size_ := 12 } : Thead_field) else bif Nat.beq q.val 11 then ({ name_ := (ByteArray.mk #[100, 112, 111, 114, 116]), size_ := 12 } : Thead_field) else Thead_field.zero) : Fin 12 → Thead_field)) hF rfl rfl pz121 rfl par121 rfl) hF (by decide) (fun a hF => ?_)
  refine sq_store (o := 0) (vs := A12Thead_field.enc ((fun q => bif Nat.beq q.val 0 then ({ name_ := (ByteArray.mk #[105, 110]), size_ := 16 } : Thead_field) else bif Nat.beq q.val 1 then ({ name_ := (ByteArray.mk #[101, 115, 114, 99]), size_ := 48 } : Thead_field) else bif Nat.beq q.val 2 then ({ name_ := (ByteArray.mk #[101, 100, 115, 116]), size_ := 48 } : Thead_field) else bif Nat.beq q.val 3 then ({ name_ := (ByteArray.mk #[101, 116, 121, 112, 101]), size_ := 16 } : Thead_field) else bif Nat.beq q.val 4 then ({ name_ := (ByteArray.mk #[118, 108, 97, 110]), size_ := 12 } : Thead_field) else bif Nat.beq q.val 5 then ({ name_ := (ByteArray.mk #[112, 99, 112]), size_ := 4 } : Thead_field) else bif Nat.beq q.val 6 then ({ name_ := (ByteArray.mk #[115, 114, 99]), size_ := 32 } : Thead_field) else bif Nat.beq q.val 7 then ({ name_ := (ByteArray.mk #[100, 115, 116]), size_ := 32 } : Thead_field) else bif Nat.beq q.val 8 then ({ name_ := (ByteArray.mk #[112, 114, 111, 116, 111]), size_ := 8 } : Thead_field) else bif Nat.beq q.val 9 then ({ name_ := (ByteArray.mk #[116, 111, 115]), size_ := 8 } : Thead_field) else bif Nat.beq q.val 10 then ({ name_ := (ByteArray.mk #[115, 112, 111, 114, 116]), size_ := 12 } : Thead_field) else bif Nat.beq q.val 11 then ({ name_ := (ByteArray.mk #[100, 112, 111, 114, 116]), size_ := 12 } : Thead_field) else Thead_field.zero) : Fin 12 → Thead_field)) (cs' := A12Thead_field.enc ((fun q => bif Nat.beq q.val 0 then ({ name_ := (ByteArray.mk #[105, 110]), size_ := 16 } : Thead_field) else bif Nat.beq q.val 1 then ({ name_ := (ByteArray.mk #[101, 115, 114, 99]), size_ := 48 } : Thead_field) else bif Nat.beq q.val 2 then ({ name_ := (ByteArray.mk #[101, 100, 115, 116]), size_ := 48 } : Thead_field) else bif Nat.beq q.val 3 then ({ name_ := (ByteArray.mk #[101, 116, 121, 112, 101]), size_ := 16 } : Thead_field) else bif Nat.beq q.val 4 then ({ name_ := (ByteArray.mk #[118, 108, 97, 110]), size_ := 12 } : Thead_field) else bif Nat.beq q.val 5 then ({ name_ := (ByteArray.mk #[112, 99, 112]), size_ := 4 } : Thead_field) else bif Nat.beq q.val 6 then ({ name_ := (ByteArray.mk #[115, 114, 99]), size_ := 32 } : Thead_field) else bif Nat.beq q.val 7 then ({ name_ := (ByteArray.mk #[100, 115, 116]), size_ := 32 } : Thead_field) else bif Nat.beq q.val 8 then ({ name_ := (ByteArray.mk #[112, 114, 111, 116, 111]), size_ := 8 } : Thead_field) else bif Nat.beq q.val 9 then ({ name_ := (ByteArray.mk #[116, 111, 115]), size_ := 8 } : Thead_field) else bif Nat.beq q.val 10 then ({ name_ := (ByteArray.mk #[115, 112, 111, 114, 116]), size_ := 12 } : Thead_field) else bif Nat.beq q.val 11 then ({ name_ := (ByteArray.mk #[100, 112, 111, 114, 116]), size_ := 12 } : Thead_field) else Thead_field.zero) : Fin 12 → Thead_field)) hF hS rfl rfl (i := 0) rfl rfl rfl ps121 (A12Thead_field.enc_one _) (Nat.le_of_ble_eq_true rfl) rfl (fun W hS => ?_)
  refine sq_nil ?_
  refine then_n ?_
  refine wp_ret ?_
  obtain rfl := Option.some.inj h
  exact ret1 hF rfl (rv_cell (cs := A12Thead_field.enc ((fun q => bif Nat.beq q.val 0 then ({ name_ := (ByteArray.mk #[105, 110]), size_ := 16 } : Thead_field) else bif Nat.beq q.val 1 then ({ name_ := (ByteArray.mk #[101, 115, 114, 99]), size_ := 48 } : Thead_field) else bif Nat.beq q.val 2 then ({ name_ := (ByteArray.mk #[101, 100, 115, 116]), size_ := 48 } : Thead_field) else bif Nat.beq q.val 3 then ({ name_ := (ByteArray.mk #[101, 116, 121, 112, 101]), size_ := 16 } : Thead_field) else bif Nat.beq q.val 4 then ({ name_ := (ByteArray.mk #[118, 108, 97, 110]), size_ := 12 } : Thead_field) else bif Nat.beq q.val 5 then ({ name_ := (ByteArray.mk #[112, 99, 112]), size_ := 4 } : Thead_field) else bif Nat.beq q.val 6 then ({ name_ := (ByteArray.mk #[115, 114, 99]), size_ := 32 } : Thead_field) else bif Nat.beq q.val 7 then ({ name_ := (ByteArray.mk #[100, 115, 116]), size_ := 32 } : Thead_field) else bif Nat.beq q.val 8 then ({ name_ := (ByteArray.mk #[112, 114, 111, 116, 111]), size_ := 8 } : Thead_field) else bif Nat.beq q.val 9 then ({ name_ := (ByteArray.mk #[116, 111, 115]), size_ := 8 } : Thead_field) else bif Nat.beq q.val 10 then ({ name_ := (ByteArray.mk #[115, 112, 111, 114, 116]), size_ := 12 } : Thead_field) else bif Nat.beq q.val 11 then ({ name_ := (ByteArray.mk #[100, 112, 111, 114, 116]), size_ := 12 } : Thead_field) else Thead_field.zero) : Fin 12 → Thead_field)) hF rfl pa121 ps121 (hS.bc (i := 0) rfl)) ⟨_, rfl, rfl, (hS.keep (List.nil_sublist _) (List.Sublist.refl _) trivial)⟩

theorem ok_head_Size {M : Nat → Prop} {w0 : World} {u0 : Int} {o : Int} (hS : St M w0 [] [] [] w0) (h : head_Size u0 = some o) :
    Calls Try.prog 57 #[.int .i64 (u0)] w0 fun e W' => ∃ v, e = .returned v ∧ (v = .int .i64 (o) ∧ St M w0 [] [] [] W') := by
  unfold head_Size at h
  refine calls_start (args := [.int .i64 (u0)]) Try.func57 rfl rfl (Nat.le_of_ble_eq_true rfl) (fun a hF => ?_)
  refine wp_seq ?_
  refine wp_reg ?_
  refine sq_val (v_assign hF rfl) hF (by decide) (fun a hF => ?_)
  refine sq_nil ?_
  refine then_n ?_
  refine wp_seq ?_
  refine wp_seq ?_
  refine wp_reg ?_
  refine sq_val (v_move hF rfl) hF (by decide) (fun a hF => ?_)
  obtain ⟨x1, hx2, h⟩ := bindS h
  refine sq_call hF pc111 rfl (by decide) (ok_head_there (hS.enter trivial) hx2) (fun v W hR a hF => ?_)
  obtain ⟨rfl, hT3⟩ := hR
  have hS := hS.grow hT3.below
  refine sq_val (v_not hF rfl) hF (by decide) (fun a hF => ?_)
  refine sq_nil ?_
  refine then_n ?_
  refine wp_if hF rfl (fun he4 => ?_) (fun he4 => ?_)
  ·
   replace h := ifT he4 h
   refine wp_seq ?_
   refine wp_reg ?_
   refine sq_val (v_assign hF rfl) hF (by decide) (fun a hF => ?_)
   refine sq_nil ?_
   refine then_n ?_
   refine wp_ret ?_
   refine then_r ?_
   obtain rfl := Option.some.inj h
   exact ret1 hF rfl (rv_tmp hF rfl) ⟨_, rfl, rfl, hS⟩
  ·
   replace h := ifF he4 h
   refine wp_skip ?_
   refine then_n ?_
   refine wp_seq ?_
   refine wp_reg ?_
   obtain ⟨x5, hx6, h⟩ := bindS h
   refine sq_call hF pc112 rfl (by decide) (ok_head_fields (hS.enter trivial) hx6) (fun v W hR a hF => ?_)
   obtain ⟨rfl, hT7⟩ := hR
   have hS := hS.grow hT7.below
   refine sq_val (v_move hF rfl) hF (by decide) (fun a hF => ?_)
   obtain ⟨hb8, h⟩ := ifS h
   refine sq_val (v_index hF rfl rfl par121 pa120 hb8.1 hb8.2 (A12Thead_field.get x5 u0 hb8.1 hb8.2)) hF (by decide) (fun a hF => ?_)
   refine sq_val (v_field1 hF rfl pft120_1 pa3 rfl) hF (by decide) (fun a hF => ?_)
   refine sq_val (v_assign hF rfl) hF (by decide) (fun a hF => ?_)
   refine sq_nil ?_
   refine then_n ?_
   refine wp_ret ?_
   obtain rfl := Option.some.inj h
   exact ret1 hF rfl (rv_tmp hF rfl) ⟨_, rfl, rfl, hS⟩

theorem ok_head_fits {M : Nat → Prop} {w0 : World} {u0 : Int} {u1 : Int} {o : Bool} (hS : St M w0 [] [] [] w0) (h : head_fits u0 u1 = some o) :
    Calls Try.prog 113 #[.int .i64 (u0), .int .u64 (u1)] w0 fun e W' => ∃ v, e = .returned v ∧ (v = .bool (o) ∧ St M w0 [] [] [] W') := by
  unfold head_fits at h
  refine calls_start (args := [.int .i64 (u0), .int .u64 (u1)]) Try.func113 rfl rfl (Nat.le_of_ble_eq_true rfl) (fun a hF => ?_)
  refine wp_seq ?_
  refine wp_reg ?_
  refine sq_val (v_assign hF rfl) hF (by decide) (fun a hF => ?_)
  refine sq_nil ?_
  refine then_n ?_
  refine wp_seq ?_
  refine wp_reg ?_
  refine sq_val (v_move hF rfl) hF (by decide) (fun a hF => ?_)
  refine sq_val (v_move hF rfl) hF (by decide) (fun a hF => ?_)
  obtain ⟨x1, hx2, h⟩ := bindS h
  refine sq_call hF pc57 rfl (by decide) (ok_head_Size (hS.enter trivial) hx2) (fun v W hR a hF => ?_)
  obtain ⟨rfl, hT3⟩ := hR
  have hS := hS.grow hT3.below
  obtain ⟨hb4, h⟩ := ifS h
  refine sq_val (v_shr hF rfl rfl hb4) hF (by decide) (fun a hF => ?_)
  refine sq_val (v_eql hF rfl rfl) hF (by decide) (fun a hF => ?_)
  refine sq_val (v_assign hF rfl) hF (by decide) (fun a hF => ?_)
  refine sq_nil ?_
  refine then_n ?_
  refine wp_ret ?_
  obtain rfl := Option.some.inj h
  exact ret1 hF rfl (rv_tmp hF rfl) ⟨_, rfl, rfl, hS⟩

theorem ok_head_Sound (k : Nat) {M : Nat → Prop} {w0 : World} {u0 : Arr 12} {o : Bool} (hS : St M w0 [] [] [] w0) (h : head_Sound k u0 = some o) :
    Calls Try.prog 59 #[.agg (A12u64.enc u0).toArray] w0 fun e W' => ∃ v, e = .returned v ∧ (v = .bool (o) ∧ St M w0 [] [] [] W') := by
  unfold head_Sound at h
  refine calls_start (args := [.agg (A12u64.enc u0).toArray]) Try.func59 rfl rfl (Nat.le_of_ble_eq_true rfl) (fun a hF => ?_)
  refine wp_seq ?_
  refine wp_reg ?_
  refine sq_box hF hS rfl rfl (by decide) (fun b1 a W hF hS => ?_)
  refine sq_val (v_assign hF rfl) hF (by decide) (fun a hF => ?_)
  refine sq_nil ?_
  refine then_n ?_
  refine wp_seq ?_
  refine wp_seq ?_
  refine wp_reg ?_
  refine sq_val (v_load (cs := A12u64.enc u0) hF rfl pa24 ps24 (hS.bc (i := 0) rfl)) hF (by decide) (fun a hF => ?_)
  refine sq_val (v_move hF rfl) hF (by decide) (fun a hF => ?_)
  refine sq_nil ?_
  refine then_n ?_
  obtain ⟨o4, h, hk5⟩ := bindS h
  refine wp_join (fun a W => Lo.brk () = o4 ∧ FH 15 [] a ∧ St M w0 [] [] [] W) (fun a W hJ => ?_) ?_
  ·
   obtain ⟨rfl, hF, hS⟩ := hJ
   have h := hk5
   dsimp only at h
   refine then_n ?_
   refine wp_seq ?_
   refine wp_reg ?_
   refine sq_val (v_assign hF rfl) hF (by decide) (fun a hF => ?_)
   refine sq_nil ?_
   refine then_n ?_
   refine wp_ret ?_
   obtain rfl := Option.some.inj h
   exact ret1 hF rfl (rv_tmp hF rfl) ⟨_, rfl, rfl, hS⟩
  ·
   refine wp_block ?_
   refine wp_loop_fuel (I := fun m a W => ∃ (x3 : Int), FH 15 [(5, .agg (A12u64.enc u0).toArray), (6, .int .i64 (x3))] a ∧ St M w0 [] [] [] W ∧ (head_Sound.l0 k u0 m x3) = some o4) ?_ (k := k) ⟨0, (hF.keep ⟨rfl, rfl, trivial⟩), (hS.keep (List.nil_sublist _) (List.Sublist.refl _) trivial), h⟩
   rintro m6 a W ⟨x3, hF, hS, h⟩
   cases m6 with
   | zero => cases h
   | succ m6 =>
    rw [head_Sound.l0] at h
    refine wp_seq ?_
    refine wp_reg ?_
    refine sq_val (v_lss hF rfl rfl) hF (by decide) (fun a hF => ?_)
    refine sq_nil ?_
    refine then_n ?_
    refine wp_seq ?_
    refine wp_if hF rfl (fun he7 => ?_) (fun he7 => ?_)
    ·
     replace h := ifT he7 h
     refine wp_skip ?_
     refine then_n ?_
     refine wp_seq ?_
     refine wp_block ?_
     refine wp_seq ?_
     refine wp_reg ?_
     refine sq_val (v_move hF rfl) hF (by decide) (fun a hF => ?_)
     obtain ⟨hb8, h⟩ := ifS h
     refine sq_val (v_index1 hF rfl rfl par24 pa22 hb8.1 hb8.2 (cell1 (A12u64.get u0 x3 hb8.1 hb8.2))) hF (by decide) (fun a hF => ?_)
     refine sq_val (v_assign hF rfl) hF (by decide) (fun a hF => ?_)
     refine sq_val (v_assign hF rfl) hF (by decide) (fun a hF => ?_)
     refine sq_nil ?_
     refine then_n ?_
     refine wp_seq ?_
     refine wp_reg ?_
     refine sq_val (v_move hF rfl) hF (by decide) (fun a hF => ?_)
     refine sq_val (v_move hF rfl) hF (by decide) (fun a hF => ?_)
     obtain ⟨x9, hx10, h⟩ := bindS h
     refine sq_call hF pc113 rfl (by decide) (ok_head_fits (hS.enter trivial) hx10) (fun v W hR a hF => ?_)
     obtain ⟨rfl, hT11⟩ := hR
     have hS := hS.grow hT11.below
     refine sq_val (v_not hF rfl) hF (by decide) (fun a hF => ?_)
     refine sq_nil ?_
     refine then_n ?_
     refine wp_if hF rfl (fun he12 => ?_) (fun he12 => ?_)
     ·
      replace h := ifT he12 h
      refine wp_seq ?_
      refine wp_reg ?_
      refine sq_val (v_assign hF rfl) hF (by decide) (fun a hF => ?_)
      refine sq_nil ?_
      refine then_n ?_
      refine wp_ret ?_
      refine blk_r ?_
      refine then_r ?_
      refine then_r ?_
      refine blk_r ?_
      refine then_r ?_
      refine then_r ?_
      obtain rfl := Option.some.inj h
      have h := hk5
      dsimp only at h
      obtain rfl := Option.some.inj h
      exact ret1 hF rfl (rv_tmp hF rfl) ⟨_, rfl, rfl, hS⟩
     ·
      replace h := ifF he12 h
      refine wp_skip ?_
      refine blk_n ?_
      refine then_n ?_
      refine wp_reg ?_
      refine sq_val (v_add hF rfl rfl) hF (by decide) (fun a hF => ?_)
      refine sq_val (v_move hF rfl) hF (by decide) (fun a hF => ?_)
      refine sq_nil ?_
      exact then_j ⟨m6, Nat.lt_succ_self _, (IntKind.i64.wrap (x3 + 1)), (hF.keep ⟨rfl, rfl, trivial⟩), hS, h⟩
    ·
     replace h := ifF he7 h
     refine wp_exit ?_
     refine then_x ?_
     refine then_x ?_
     refine blk_hit ?_
     obtain rfl := Option.some.inj h
     exact then_j ⟨rfl, (hF.keep trivial), hS⟩

theorem ok_cube_Sound (k : Nat) {M : Nat → Prop} {w0 : World} {u0 : TCube} {o : Bool} (hS : St M w0 [] [] [] w0) (h : cube_Sound k u0 = some o) :
    Calls Try.prog 58 #[.agg (TCube.enc u0).toArray] w0 fun e W' => ∃ v, e = .returned v ∧ (v = .bool (o) ∧ St M w0 [] [] [] W') := by
  unfold cube_Sound at h
  refine calls_start (args := [.agg (TCube.enc u0).toArray]) Try.func58 rfl rfl (Nat.le_of_ble_eq_true rfl) (fun a hF => ?_)
  refine wp_seq ?_
  refine wp_reg ?_
  refine sq_box hF hS rfl rfl (by decide) (fun b1 a W hF hS => ?_)
  refine sq_val (v_assign hF rfl) hF (by decide) (fun a hF => ?_)
  refine sq_nil ?_
  refine then_n ?_
  refine wp_seq ?_
  refine wp_seq ?_
  refine wp_reg ?_
  refine sq_val (v_fieldAddr hF rfl pf26_1) hF (by decide) (fun a hF => ?_)
  refine sq_val (v_load (cs := A12u64.enc u0.Care) hF rfl pa24 ps24 (cells_sub (vs := A12u64.enc u0.Care) (hS.bc (i := 0) rfl) rfl rfl)) hF (by decide) (fun a hF => ?_)
  obtain ⟨x2, hx3, h⟩ := bindS h
  refine sq_call hF pc59 rfl (by decide) (ok_head_Sound k (hS.enter trivial) hx3) (fun v W hR a hF => ?_)
  obtain ⟨rfl, hT4⟩ := hR
  have hS := hS.grow hT4.below
  refine sq_val (v_not hF rfl) hF (by decide) (fun a hF => ?_)
  refine sq_nil ?_
  refine then_n ?_
  refine wp_if hF rfl (fun he5 => ?_) (fun he5 => ?_)
  ·
   replace h := ifT he5 h
   refine wp_seq ?_
   refine wp_reg ?_
   refine sq_val (v_assign hF rfl) hF (by decide) (fun a hF => ?_)
   refine sq_nil ?_
   refine then_n ?_
   refine wp_ret ?_
   refine then_r ?_
   obtain rfl := Option.some.inj h
   exact ret1 hF rfl (rv_tmp hF rfl) ⟨_, rfl, rfl, (hS.keep (List.nil_sublist _) (List.Sublist.refl _) trivial)⟩
  ·
   replace h := ifF he5 h
   refine wp_skip ?_
   refine then_n ?_
   refine wp_seq ?_
   refine wp_seq ?_
   refine wp_reg ?_
   refine sq_val (v_fieldAddr hF rfl pf26_0) hF (by decide) (fun a hF => ?_)
   refine sq_val (v_load (cs := A12u64.enc u0.Value) hF rfl pa24 ps24 (cells_sub (vs := A12u64.enc u0.Value) (hS.bc (i := 0) rfl) rfl rfl)) hF (by decide) (fun a hF => ?_)
   refine sq_val (v_move hF rfl) hF (by decide) (fun a hF => ?_)
   refine sq_nil ?_
   refine then_n ?_
   obtain ⟨o8, h, hk9⟩ := bindS h
   refine wp_join (fun a W => Lo.brk () = o8 ∧ FH 23 [] a ∧ St M w0 [] [] [] W) (fun a W hJ => ?_) ?_
   ·
    obtain ⟨rfl, hF, hS⟩ := hJ
    have h := hk9
    dsimp only at h
    refine then_n ?_
    refine wp_seq ?_
    refine wp_reg ?_
    refine sq_val (v_assign hF rfl) hF (by decide) (fun a hF => ?_)
    refine sq_nil ?_
    refine then_n ?_
    refine wp_ret ?_
    obtain rfl := Option.some.inj h
    exact ret1 hF rfl (rv_tmp hF rfl) ⟨_, rfl, rfl, hS⟩
   ·
    refine wp_block ?_
    refine wp_loop_fuel (I := fun m a W => ∃ (x7 : Int), FH 23 [(1, .pointer (some (⟨b1, 0, none⟩))), (10, .agg (A12u64.enc u0.Value).toArray), (11, .int .i64 (x7))] a ∧ St M w0 [⟨b1, TCube.enc u0, 26⟩] [] [] W ∧ (cube_Sound.l0 k u0 m x7) = some o8) ?_ (k := k) ⟨0, (hF.keep ⟨rfl, rfl, rfl, trivial⟩), hS, h⟩
    rintro m10 a W ⟨x7, hF, hS, h⟩
    cases m10 with
    | zero => cases h
    | succ m10 =>
     rw [cube_Sound.l0] at h
     refine wp_seq ?_
     refine wp_reg ?_
     refine sq_val (v_lss hF rfl rfl) hF (by decide) (fun a hF => ?_)
     refine sq_nil ?_
     refine then_n ?_
     refine wp_seq ?_
     refine wp_if hF rfl (fun he11 => ?_) (fun he11 => ?_)
     ·
      replace h := ifT he11 h
      refine wp_skip ?_
      refine then_n ?_
      refine wp_seq ?_
      refine wp_block ?_
      refine wp_seq ?_
      refine wp_reg ?_
      refine sq_val (v_move hF rfl) hF (by decide) (fun a hF => ?_)
      obtain ⟨hb12, h⟩ := ifS h
      refine sq_val (v_index1 hF rfl rfl par24 pa22 hb12.1 hb12.2 (cell1 (A12u64.get u0.Value x7 hb12.1 hb12.2))) hF (by decide) (fun a hF => ?_)
      refine sq_val (v_assign hF rfl) hF (by decide) (fun a hF => ?_)
      refine sq_val (v_assign hF rfl) hF (by decide) (fun a hF => ?_)
      refine sq_nil ?_
      refine then_n ?_
      refine wp_seq ?_
      refine wp_reg ?_
      refine sq_val (v_move hF rfl) hF (by decide) (fun a hF => ?_)
      refine sq_val (v_move hF rfl) hF (by decide) (fun a hF => ?_)
      refine sq_val (v_fieldAddr hF rfl pf26_1) hF (by decide) (fun a hF => ?_)
      refine sq_val (v_indexAddr hF rfl rfl par24 hb12.1 hb12.2) hF (by decide) (fun a hF => ?_)
      refine sq_val (v_load1 hF rfl pa22 (cells_sub (vs := [.int .u64 ((u0.Care.at x7))]) (hS.bc (i := 0) rfl) (add_add _ _ _) (TCube.get_Care u0 x7 hb12.1 hb12.2))) hF (by decide) (fun a hF => ?_)
      refine sq_val (v_andNot hF rfl rfl) hF (by decide) (fun a hF => ?_)
      refine sq_val (v_neq hF rfl rfl) hF (by decide) (fun a hF => ?_)
      refine sq_nil ?_
      refine then_n ?_
      refine wp_if hF rfl (fun he13 => ?_) (fun he13 => ?_)
      ·
       replace h := ifT he13 h
       refine wp_seq ?_
       refine wp_reg ?_
       refine sq_val (v_assign hF rfl) hF (by decide) (fun a hF => ?_)
       refine sq_nil ?_
       refine then_n ?_
       refine wp_ret ?_
       refine blk_r ?_
       refine then_r ?_
       refine then_r ?_
       refine blk_r ?_
       refine then_r ?_
       refine then_r ?_
       obtain rfl := Option.some.inj h
       have h := hk9
       dsimp only at h
       obtain rfl := Option.some.inj h
       exact ret1 hF rfl (rv_tmp hF rfl) ⟨_, rfl, rfl, (hS.keep (List.nil_sublist _) (List.Sublist.refl _) trivial)⟩
      ·
       replace h := ifF he13 h
       refine wp_skip ?_
       refine blk_n ?_
       refine then_n ?_
       refine wp_reg ?_
       refine sq_val (v_add hF rfl rfl) hF (by decide) (fun a hF => ?_)
       refine sq_val (v_move hF rfl) hF (by decide) (fun a hF => ?_)
       refine sq_nil ?_
       exact then_j ⟨m10, Nat.lt_succ_self _, (IntKind.i64.wrap (x7 + 1)), (hF.keep ⟨rfl, rfl, rfl, trivial⟩), hS, h⟩
     ·
      replace h := ifF he11 h
      refine wp_exit ?_
      refine then_x ?_
      refine then_x ?_
      refine blk_hit ?_
      obtain rfl := Option.some.inj h
      exact then_j ⟨rfl, (hF.keep trivial), (hS.keep (List.nil_sublist _) (List.Sublist.refl _) trivial)⟩

theorem ok_slices_IndexFunc_Act (k : Nat) {M : Nat → Prop} {w0 : World} {u0 : List TAct} {A0_0 : Option Addr} {c0_0 : Nat} {F1 : FuncId} {caps1 : List Value} {u1 : TAct → Option Bool} {o : Int} (hS : St M w0 [] [] [fSl k_TAct A0_0 c0_0 u0, fFn1 Try.prog F1 caps1 k_TAct true u1 (fun y => .bool y)] w0) (h : slices_IndexFunc_Act k u0 u1 = some o) :
    Calls Try.prog 150 #[.slice A0_0 ((u0).length) c0_0, .func (.func F1) #[] caps1.toArray] w0 fun e W' => ∃ v, e = .returned v ∧ (v = .int .i64 (o) ∧ St M w0 [] [] [] W') := by
  unfold slices_IndexFunc_Act at h
  refine calls_start (args := [.slice A0_0 ((u0).length) c0_0, .func (.func F1) #[] caps1.toArray]) Try.func150 rfl rfl (Nat.le_of_ble_eq_true rfl) (fun a hF => ?_)
  refine wp_seq ?_
  refine wp_reg ?_
  refine sq_val (v_assign hF rfl) hF (by decide) (fun a hF => ?_)
  refine sq_nil ?_
  refine then_n ?_
  refine wp_seq ?_
  refine wp_seq ?_
  refine wp_reg ?_
  refine sq_val (v_move hF rfl) hF (by decide) (fun a hF => ?_)
  refine sq_val (v_len hF rfl pu38) hF (by decide) (fun a hF => ?_)
  refine sq_val (v_move hF rfl) hF (by decide) (fun a hF => ?_)
  refine sq_nil ?_
  refine then_n ?_
  obtain ⟨o3, h, hk4⟩ := bindS h
  refine wp_join (fun a W => Lo.brk () = o3 ∧ FH 19 [] a ∧ St M w0 [] [] [] W) (fun a W hJ => ?_) ?_
  ·
   obtain ⟨rfl, hF, hS⟩ := hJ
   have h := hk4
   dsimp only at h
   refine then_n ?_
   refine wp_seq ?_
   refine wp_reg ?_
   refine sq_val (v_assign hF rfl) hF (by decide) (fun a hF => ?_)
   refine sq_nil ?_
   refine then_n ?_
   refine wp_ret ?_
   obtain rfl := Option.some.inj h
   exact ret1 hF rfl (rv_tmp hF rfl) ⟨_, rfl, rfl, hS⟩
  ·
   refine wp_block ?_
   refine wp_loop_fuel (I := fun m a W => ∃ (x2 : Int), FH 19 [(0, .slice A0_0 ((u0).length) c0_0), (1, .func (.func F1) #[] caps1.toArray), (7, .int .i64 ((u0.length : Int))), (8, .int .i64 (x2))] a ∧ St M w0 [] [] [fSl k_TAct A0_0 c0_0 u0, fFn1 Try.prog F1 caps1 k_TAct true u1 (fun y => .bool y)] W ∧ (slices_IndexFunc_Act.l0 k u0 u1 m x2) = some o3) ?_ (k := k) ⟨0, (hF.keep ⟨rfl, rfl, rfl, rfl, trivial⟩), hS, h⟩
   rintro m5 a W ⟨x2, hF, hS, h⟩
   cases m5 with
   | zero => cases h
   | succ m5 =>
    rw [slices_IndexFunc_Act.l0] at h
    refine wp_seq ?_
    refine wp_reg ?_
    refine sq_val (v_lss hF rfl rfl) hF (by decide) (fun a hF => ?_)
    refine sq_nil ?_
    refine then_n ?_
    refine wp_seq ?_
    refine wp_if hF rfl (fun he6 => ?_) (fun he6 => ?_)
    ·
     replace h := ifT he6 h
     refine wp_skip ?_
     refine then_n ?_
     refine wp_seq ?_
     refine wp_block ?_
     refine wp_seq ?_
     refine wp_reg ?_
     refine sq_val (v_move hF rfl) hF (by decide) (fun a hF => ?_)
     refine sq_val (v_assign hF rfl) hF (by decide) (fun a hF => ?_)
     refine sq_nil ?_
     refine then_n ?_
     refine wp_seq ?_
     refine wp_reg ?_
     refine sq_val (v_move hF rfl) hF (by decide) (fun a hF => ?_)
     refine sq_val (v_move hF rfl) hF (by decide) (fun a hF => ?_)
     refine sq_val (v_move hF rfl) hF (by decide) (fun a hF => ?_)
     obtain ⟨x7, hx8, h⟩ := bindS h
     obtain ⟨p9, cs10, hA11, hat12⟩ := SlR.at (hS.fc (i := 0) rfl) hx8
     obtain rfl : cs10 = TAct.enc x7 := hat12.2.2.2
     have hS := hS.addFact (f := fAt k_TAct (p9.add (x2.toNat * 4)) (TAct.enc x7) x7) hat12
     refine sq_val (v_idx hF rfl hA11 rfl psl38 hx8) hF (by decide) (fun a hF => ?_)
     refine sq_val (v_load (cs := TAct.enc x7) hF rfl pa94 ps94 (hS.pc (i := 0) rfl)) hF (by decide) (fun a hF => ?_)
     obtain ⟨x13, hx14, h⟩ := bindS h
     refine sq_callv hF (hS.fc (i := 2) rfl).1 rfl rfl (by decide) (call1 (hS.fc (i := 2) rfl) hS rfl hx14) (fun v W hR a hF => ?_)
     obtain ⟨rfl, hT15⟩ := hR
     have hS := hS.grow hT15
     refine sq_nil ?_
     refine then_n ?_
     refine wp_if hF rfl (fun he16 => ?_) (fun he16 => ?_)
     ·
      replace h := ifT he16 h
      refine wp_seq ?_
      refine wp_reg ?_
      refine sq_val (v_move hF rfl) hF (by decide) (fun a hF => ?_)
      refine sq_val (v_assign hF rfl) hF (by decide) (fun a hF => ?_)
      refine sq_nil ?_
      refine then_n ?_
      refine wp_ret ?_
      refine blk_r ?_
      refine then_r ?_
      refine then_r ?_
      refine blk_r ?_
      refine then_r ?_
      refine then_r ?_
      obtain rfl := Option.some.inj h
      have h := hk4
      dsimp only at h
      obtain rfl := Option.some.inj h
      exact ret1 hF rfl (rv_tmp hF rfl) ⟨_, rfl, rfl, (hS.keep (List.Sublist.refl _) (List.Sublist.refl _) trivial)⟩
     ·
      replace h := ifF he16 h
      refine wp_skip ?_
      refine blk_n ?_
      refine then_n ?_
      refine wp_reg ?_
      refine sq_val (v_add hF rfl rfl) hF (by decide) (fun a hF => ?_)
      refine sq_val (v_move hF rfl) hF (by decide) (fun a hF => ?_)
      refine sq_nil ?_
      exact then_j ⟨m5, Nat.lt_succ_self _, (IntKind.i64.wrap (x2 + 1)), (hF.keep ⟨rfl, rfl, rfl, rfl, trivial⟩), (hS.keep (List.Sublist.refl _) (List.Sublist.refl _) ⟨⟨1, rfl⟩, ⟨2, rfl⟩, trivial⟩), h⟩
    ·
     replace h := ifF he6 h
     refine wp_exit ?_
     refine then_x ?_
     refine then_x ?_
     refine blk_hit ?_
     obtain rfl := Option.some.inj h
     exact then_j ⟨rfl, (hF.keep trivial), (hS.keep (List.Sublist.refl _) (List.Sublist.refl _) trivial)⟩

theorem ok_slices_ContainsFunc_Act (k : Nat) {M : Nat → Prop} {w0 : World} {u0 : List TAct} {A0_0 : Option Addr} {c0_0 : Nat} {F1 : FuncId} {caps1 : List Value} {u1 : TAct → Option Bool} {o : Bool} (hS : St M w0 [] [] [fSl k_TAct A0_0 c0_0 u0, fFn1 Try.prog F1 caps1 k_TAct true u1 (fun y => .bool y)] w0) (h : slices_ContainsFunc_Act k u0 u1 = some o) :
    Calls Try.prog 129 #[.slice A0_0 ((u0).length) c0_0, .func (.func F1) #[] caps1.toArray] w0 fun e W' => ∃ v, e = .returned v ∧ (v = .bool (o) ∧ St M w0 [] [] [] W') := by
  unfold slices_ContainsFunc_Act at h
  refine calls_start (args := [.slice A0_0 ((u0).length) c0_0, .func (.func F1) #[] caps1.toArray]) Try.func129 rfl rfl (Nat.le_of_ble_eq_true rfl) (fun a hF => ?_)
  refine wp_seq ?_
  refine wp_reg ?_
  refine sq_val (v_assign hF rfl) hF (by decide) (fun a hF => ?_)
  refine sq_nil ?_
  refine then_n ?_
  refine wp_seq ?_
  refine wp_reg ?_
  refine sq_val (v_move hF rfl) hF (by decide) (fun a hF => ?_)
  refine sq_val (v_move hF rfl) hF (by decide) (fun a hF => ?_)
  obtain ⟨x1, hx2, h⟩ := bindS h
  refine sq_call hF pc150 rfl (by decide) (ok_slices_IndexFunc_Act k (hS.enter ⟨⟨0, rfl⟩, ⟨1, rfl⟩, trivial⟩) hx2) (fun v W hR a hF => ?_)
  obtain ⟨rfl, hT3⟩ := hR
  have hS := hS.grow hT3.below
  refine sq_val (v_geq hF rfl rfl) hF (by decide) (fun a hF => ?_)
  refine sq_val (v_assign hF rfl) hF (by decide) (fun a hF => ?_)
  refine sq_nil ?_
  refine then_n ?_
  refine wp_ret ?_
  obtain rfl := Option.some.inj h
  exact ret1 hF rfl (rv_tmp hF rfl) ⟨_, rfl, rfl, (hS.keep (List.Sublist.refl _) (List.Sublist.refl _) trivial)⟩

theorem ok_head_Set {M : Nat → Prop} {w0 : World} {u0 : Arr 12} {u1 : Int} {u2 : Int} {o : (Arr 12) × Int} (hS : St M w0 [] [] [] w0) (h : head_Set u0 u1 u2 = some o) :
    Calls Try.prog 115 #[.agg (A12u64.enc u0).toArray, .int .i64 (u1), .int .u64 (u2)] w0 fun e W' => ∃ v, e = .returned v ∧ (v = .tuple #[.agg (A12u64.enc o.1).toArray, .int .i64 (o.2)] ∧ St M w0 [] [] [] W') := by
  unfold head_Set at h
  refine calls_start (args := [.agg (A12u64.enc u0).toArray, .int .i64 (u1), .int .u64 (u2)]) Try.func115 rfl rfl (Nat.le_of_ble_eq_true rfl) (fun a hF => ?_)
  refine wp_seq ?_
  refine wp_reg ?_
  refine sq_box hF hS rfl rfl (by decide) (fun b1 a W hF hS => ?_)
  refine sq_alloc hF hS pz24 rfl (by decide) (fun b2 a W hF hS => ?_)
  refine sq_val (v_assign hF rfl) hF (by decide) (fun a hF => ?_)
  refine sq_nil ?_
  refine then_n ?_
  refine wp_seq ?_
  refine wp_block ?_
  refine wp_seq ?_
  refine wp_reg ?_
  refine sq_val (v_move hF rfl) hF (by decide) (fun a hF => ?_)
  obtain ⟨x3, hx4, h⟩ := bindS h
  refine sq_call hF pc111 rfl (by decide) (ok_head_there (hS.enter trivial) hx4) (fun v W hR a hF => ?_)
  obtain ⟨rfl, hT5⟩ := hR
  have hS := hS.grow hT5.below
  refine sq_val (v_not hF rfl) hF (by decide) (fun a hF => ?_)
  refine sq_val (v_assign hF rfl) hF (by decide) (fun a hF => ?_)
  refine sq_nil ?_
  refine then_n ?_
  refine wp_if hF rfl (fun he6 => ?_) (fun he6 => ?_)
  ·
   replace h := ifT he6 h
   refine wp_seq ?_
   refine wp_reg ?_
   refine sq_val (v_buildA (parts := []) (out := A12u64.enc A12u64.zero) hF rfl rfl pz24 rfl par24 rfl) hF (by decide) (fun a hF => ?_)
   refine sq_store (o := 0) (vs := A12u64.enc A12u64.zero) (cs' := A12u64.enc A12u64.zero) hF hS rfl rfl (i := 0) rfl rfl rfl ps24 (A12u64.enc_one _) (Nat.le_of_ble_eq_true rfl) rfl (fun W hS => ?_)
   refine sq_val (v_assign hF rfl) hF (by decide) (fun a hF => ?_)
   refine sq_nil ?_
   refine then_n ?_
   refine wp_ret ?_
   refine blk_r ?_
   refine then_r ?_
   obtain rfl := Option.some.inj h
   exact ret2 hF rfl (rv_cell (cs := A12u64.enc A12u64.zero) hF rfl pa24 ps24 (hS.bc (i := 0) rfl)) (rv_tmp hF rfl) ⟨_, rfl, rfl, (hS.keep (List.nil_sublist _) (List.Sublist.refl _) trivial)⟩
  ·
   replace h := ifF he6 h
   refine wp_seq ?_
   refine wp_reg ?_
   refine sq_val (v_move hF rfl) hF (by decide) (fun a hF => ?_)
   refine sq_val (v_move hF rfl) hF (by decide) (fun a hF => ?_)
   obtain ⟨x7, hx8, h⟩ := bindS h
   refine sq_call hF pc113 rfl (by decide) (ok_head_fits (hS.enter trivial) hx8) (fun v W hR a hF => ?_)
   obtain ⟨rfl, hT9⟩ := hR
   have hS := hS.grow hT9.below
   refine sq_val (v_not hF rfl) hF (by decide) (fun a hF => ?_)
   refine sq_val (v_assign hF rfl) hF (by decide) (fun a hF => ?_)
   refine sq_nil ?_
   refine then_n ?_
   refine wp_if hF rfl (fun he10 => ?_) (fun he10 => ?_)
   ·
    replace h := ifT he10 h
    refine wp_seq ?_
    refine wp_reg ?_
    refine sq_val (v_buildA (parts := []) (out := A12u64.enc A12u64.zero) hF rfl rfl pz24 rfl par24 rfl) hF (by decide) (fun a hF => ?_)
    refine sq_store (o := 0) (vs := A12u64.enc A12u64.zero) (cs' := A12u64.enc A12u64.zero) hF hS rfl rfl (i := 0) rfl rfl rfl ps24 (A12u64.enc_one _) (Nat.le_of_ble_eq_true rfl) rfl (fun W hS => ?_)
    refine sq_val (v_assign hF rfl) hF (by decide) (fun a hF => ?_)
    refine sq_nil ?_
    refine then_n ?_
    refine wp_ret ?_
    refine blk_r ?_
    refine then_r ?_
    obtain rfl := Option.some.inj h
    exact ret2 hF rfl (rv_cell (cs := A12u64.enc A12u64.zero) hF rfl pa24 ps24 (hS.bc (i := 0) rfl)) (rv_tmp hF rfl) ⟨_, rfl, rfl, (hS.keep (List.nil_sublist _) (List.Sublist.refl _) trivial)⟩
   ·
    replace h := ifF he10 h
    refine wp_skip ?_
    refine blk_n ?_
    refine then_n ?_
    refine wp_seq ?_
    refine wp_reg ?_
    refine sq_val (v_move hF rfl) hF (by decide) (fun a hF => ?_)
    refine sq_val (v_move hF rfl) hF (by decide) (fun a hF => ?_)
    obtain ⟨hb11, h⟩ := ifS h
    refine sq_val (v_indexAddr hF rfl rfl par24 hb11.1 hb11.2) hF (by decide) (fun a hF => ?_)
    refine sq_store (o := u1.toNat * 1) (vs := [.int .u64 (u2)]) (cs' := A12u64.enc (u0.upd u1 u2)) hF hS rfl (by simp only [add_add, add_plain, Nat.zero_add]) (i := 1) rfl rfl rfl ps22 (one1 rfl) (by have h0 := hb11.1; have h1 := hb11.2; simp only [A12u64.enc, List.length_cons, List.length_nil]; omega) (A12u64.set u0 u1 _ hb11.1 hb11.2) (fun W hS => ?_)
    refine sq_nil ?_
    refine then_n ?_
    refine wp_seq ?_
    refine wp_reg ?_
    refine sq_val (v_load (cs := A12u64.enc (u0.upd u1 u2)) hF rfl pa24 ps24 (hS.bc (i := 1) rfl)) hF (by decide) (fun a hF => ?_)
    refine sq_store (o := 0) (vs := A12u64.enc (u0.upd u1 u2)) (cs' := A12u64.enc (u0.upd u1 u2)) hF hS rfl rfl (i := 0) rfl rfl rfl ps24 (A12u64.enc_one _) (Nat.le_of_ble_eq_true rfl) rfl (fun W hS => ?_)
    refine sq_val (v_assign hF rfl) hF (by decide) (fun a hF => ?_)
    refine sq_nil ?_
    refine then_n ?_
    refine wp_ret ?_
    obtain rfl := Option.some.inj h
    exact ret2 hF rfl (rv_cell (cs := A12u64.enc (u0.upd u1 u2)) hF rfl pa24 ps24 (hS.bc (i := 0) rfl)) (rv_tmp hF rfl) ⟨_, rfl, rfl, (hS.keep (List.nil_sublist _) (List.Sublist.refl _) trivial)⟩

theorem ok_act_sound {M : Nat → Prop} {w0 : World} {u0 : TAct} {o : Bool} (hS : St M w0 [] [] [] w0) (h : act_sound u0 = some o) :
    Calls Try.prog 131 #[.agg (TAct.enc u0).toArray] w0 fun e W' => ∃ v, e = .returned v ∧ (v = .bool (o) ∧ St M w0 [] [] [] W') := by
  unfold act_sound at h
  refine calls_start (args := [.agg (TAct.enc u0).toArray]) Try.func131 rfl rfl (Nat.le_of_ble_eq_true rfl) (fun a hF => ?_)
  refine wp_seq ?_
  refine wp_reg ?_
  refine sq_box hF hS rfl rfl (by decide) (fun b1 a W hF hS => ?_)
  refine sq_val (v_assign hF rfl) hF (by decide) (fun a hF => ?_)
  refine sq_nil ?_
  refine then_n ?_
  refine wp_seq ?_
  refine wp_seq ?_
  refine wp_reg ?_
  refine sq_val (v_fieldAddr hF rfl pf94_0) hF (by decide) (fun a hF => ?_)
  refine sq_val (v_load1 hF rfl pa3 (cells_sub (vs := [.int .i64 (u0.Kind)]) (hS.bc (i := 0) rfl) rfl rfl)) hF (by decide) (fun a hF => ?_)
  refine sq_nil ?_
  refine then_n ?_
  refine wp_block ?_
  refine wp_seq ?_
  refine wp_reg ?_
  refine sq_val (v_eql hF rfl rfl) hF (by decide) (fun a hF => ?_)
  refine sq_val (v_assign hF rfl) hF (by decide) (fun a hF => ?_)
  refine sq_nil ?_
  refine then_n ?_
  refine wp_if hF rfl (fun he2 => ?_) (fun he2 => ?_)
  ·
   replace h := ifT he2 h
   refine wp_seq ?_
   refine wp_reg ?_
   refine sq_val (v_fieldAddr hF rfl pf94_1) hF (by decide) (fun a hF => ?_)
   refine sq_val (v_load1 hF rfl pa3 (cells_sub (vs := [.int .i64 (u0.Port)]) (hS.bc (i := 0) rfl) rfl rfl)) hF (by decide) (fun a hF => ?_)
   refine sq_val (v_geq hF rfl rfl) hF (by decide) (fun a hF => ?_)
   refine sq_val (v_move hF rfl) hF (by decide) (fun a hF => ?_)
   refine sq_cut 4 (fun a W => FH 48 [(1, .pointer (some (⟨b1, 0, none⟩))), (16, .bool ((decide (1 ≤ u0.Port)) && (decide (u0.Port ≤ 16))))] a ∧ St M w0 [⟨b1, TAct.enc u0, 94⟩] [] [] W) (fun a W hJ => ?_) ?_
   ·
    obtain ⟨hF, hS⟩ := hJ
    refine sq_val (v_move hF rfl) hF (by decide) (fun a hF => ?_)
    refine sq_cut 4 (fun a W => FH 48 [(1, .pointer (some (⟨b1, 0, none⟩))), (21, .bool (((decide (1 ≤ u0.Port)) && (decide (u0.Port ≤ 16))) && (u0.Field == 0)))] a ∧ St M w0 [⟨b1, TAct.enc u0, 94⟩] [] [] W) (fun a W hJ => ?_) ?_
    ·
     obtain ⟨hF, hS⟩ := hJ
     refine sq_val (v_move hF rfl) hF (by decide) (fun a hF => ?_)
     refine sq_cut 4 (fun a W => FH 48 [(26, .bool ((((decide (1 ≤ u0.Port)) && (decide (u0.Port ≤ 16))) && (u0.Field == 0)) && (u0.Value == 0)))] a ∧ St M w0 [⟨b1, TAct.enc u0, 94⟩] [] [] W) (fun a W hJ => ?_) ?_
     ·
      obtain ⟨hF, hS⟩ := hJ
      refine sq_val (v_assign hF rfl) hF (by decide) (fun a hF => ?_)
      refine sq_nil ?_
      refine then_n ?_
      refine wp_ret ?_
      refine blk_r ?_
      refine then_r ?_
      obtain rfl := Option.some.inj h
      exact ret1 hF rfl (rv_tmp hF rfl) ⟨_, rfl, rfl, (hS.keep (List.nil_sublist _) (List.Sublist.refl _) trivial)⟩
     ·
      by_cases he5 : (((decide (1 ≤ u0.Port)) && (decide (u0.Port ≤ 16))) && (u0.Field == 0)) = true
      ·
       refine sq_yes hF rfl rfl he5 ?_
       refine sq_val (v_fieldAddr hF rfl pf94_3) hF (by decide) (fun a hF => ?_)
       refine sq_yes hF rfl rfl he5 ?_
       refine sq_val (v_load1 hF rfl pa22 (cells_sub (vs := [.int .u64 (u0.Value)]) (hS.bc (i := 0) rfl) rfl rfl)) hF (by decide) (fun a hF => ?_)
       refine sq_yes hF rfl rfl he5 ?_
       refine sq_val (v_eql hF rfl rfl) hF (by decide) (fun a hF => ?_)
       refine sq_val (v_pick_t hF rfl he5 rfl) hF (by decide) (fun a hF => ?_)
       exact sq_nil (then_j ⟨(hF.keep ⟨(boolV (and_t he5)), trivial⟩), hS⟩)
      ·
       have he5 : (((decide (1 ≤ u0.Port)) && (decide (u0.Port ≤ 16))) && (u0.Field == 0)) = false := nB he5
       refine sq_no hF rfl rfl he5 (by rintro x ⟨⟩; decide) (fun a hF => ?_)
       refine sq_no hF rfl rfl he5 (by rintro x ⟨⟩; decide) (fun a hF => ?_)
       refine sq_no hF rfl rfl he5 (by rintro x ⟨⟩; decide) (fun a hF => ?_)
       refine sq_val (v_pick_f hF rfl he5 rfl) hF (by decide) (fun a hF => ?_)
       exact sq_nil (then_j ⟨(hF.keep ⟨(boolV (and_f he5)), trivial⟩), hS⟩)
    ·
     by_cases he4 : ((decide (1 ≤ u0.Port)) && (decide (u0.Port ≤ 16))) = true
     ·
      refine sq_yes hF rfl rfl he4 ?_
      refine sq_val (v_fieldAddr hF rfl pf94_2) hF (by decide) (fun a hF => ?_)
      refine sq_yes hF rfl rfl he4 ?_
      refine sq_val (v_load1 hF rfl pa3 (cells_sub (vs := [.int .i64 (u0.Field)]) (hS.bc (i := 0) rfl) rfl rfl)) hF (by decide) (fun a hF => ?_)
      refine sq_yes hF rfl rfl he4 ?_
      refine sq_val (v_eql hF rfl rfl) hF (by decide) (fun a hF => ?_)
      refine sq_val (v_pick_t hF rfl he4 rfl) hF (by decide) (fun a hF => ?_)
      exact sq_nil (then_j ⟨(hF.keep ⟨rfl, (boolV (and_t he4)), trivial⟩), hS⟩)
     ·
      have he4 : ((decide (1 ≤ u0.Port)) && (decide (u0.Port ≤ 16))) = false := nB he4
      refine sq_no hF rfl rfl he4 (by rintro x ⟨⟩; decide) (fun a hF => ?_)
      refine sq_no hF rfl rfl he4 (by rintro x ⟨⟩; decide) (fun a hF => ?_)
      refine sq_no hF rfl rfl he4 (by rintro x ⟨⟩; decide) (fun a hF => ?_)
      refine sq_val (v_pick_f hF rfl he4 rfl) hF (by decide) (fun a hF => ?_)
      exact sq_nil (then_j ⟨(hF.keep ⟨rfl, (boolV (and_f he4)), trivial⟩), hS⟩)
   ·
    by_cases he3 : (decide (1 ≤ u0.Port)) = true
    ·
     refine sq_yes hF rfl rfl he3 ?_
     refine sq_val (v_fieldAddr hF rfl pf94_1) hF (by decide) (fun a hF => ?_)
     refine sq_yes hF rfl rfl he3 ?_
     refine sq_val (v_load1 hF rfl pa3 (cells_sub (vs := [.int .i64 (u0.Port)]) (hS.bc (i := 0) rfl) rfl rfl)) hF (by decide) (fun a hF => ?_)
     refine sq_yes hF rfl rfl he3 ?_
     refine sq_val (v_leq hF rfl rfl) hF (by decide) (fun a hF => ?_)
     refine sq_val (v_pick_t hF rfl he3 rfl) hF (by decide) (fun a hF => ?_)
     exact sq_nil (then_j ⟨(hF.keep ⟨rfl, (boolV (and_t he3)), trivial⟩), hS⟩)
    ·
     have he3 : (decide (1 ≤ u0.Port)) = false := nB he3
     refine sq_no hF rfl rfl he3 (by rintro x ⟨⟩; decide) (fun a hF => ?_)
     refine sq_no hF rfl rfl he3 (by rintro x ⟨⟩; decide) (fun a hF => ?_)
     refine sq_no hF rfl rfl he3 (by rintro x ⟨⟩; decide) (fun a hF => ?_)
     refine sq_val (v_pick_f hF rfl he3 rfl) hF (by decide) (fun a hF => ?_)
     exact sq_nil (then_j ⟨(hF.keep ⟨rfl, (boolV (and_f he3)), trivial⟩), hS⟩)
  ·
   replace h := ifF he2 h
   refine wp_seq ?_
   refine wp_reg ?_
   refine sq_val (v_eql hF rfl rfl) hF (by decide) (fun a hF => ?_)
   refine sq_val (v_assign hF rfl) hF (by decide) (fun a hF => ?_)
   refine sq_nil ?_
   refine then_n ?_
   refine wp_if hF rfl (fun he6 => ?_) (fun he6 => ?_)
   ·
    replace h := ifT he6 h
    refine wp_seq ?_
    refine wp_reg ?_
    refine sq_val (v_buildA (parts := []) (out := A12u64.enc A12u64.zero) hF rfl rfl pz24 rfl par24 rfl) hF (by decide) (fun a hF => ?_)
    refine sq_val (v_fieldAddr hF rfl pf94_2) hF (by decide) (fun a hF => ?_)
    refine sq_val (v_load1 hF rfl pa3 (cells_sub (vs := [.int .i64 (u0.Field)]) (hS.bc (i := 0) rfl) rfl rfl)) hF (by decide) (fun a hF => ?_)
    refine sq_val (v_fieldAddr hF rfl pf94_3) hF (by decide) (fun a hF => ?_)
    refine sq_val (v_load1 hF rfl pa22 (cells_sub (vs := [.int .u64 (u0.Value)]) (hS.bc (i := 0) rfl) rfl rfl)) hF (by decide) (fun a hF => ?_)
    obtain ⟨x7, hx8, h⟩ := bindS h
    refine sq_call hF pc115 rfl (by decide) (ok_head_Set (hS.enter trivial) hx8) (fun v W hR a hF => ?_)
    obtain ⟨rfl, hT9⟩ := hR
    have hS := hS.grow hT9.below
    refine sq_val (v_move hF rfl) hF (by decide) (fun a hF => ?_)
    refine sq_val (v_extract hF rfl rfl) hF (by decide) (fun a hF => ?_)
    refine sq_val (v_extract hF rfl rfl) hF (by decide) (fun a hF => ?_)
    refine sq_alloc hF hS pz24 rfl (by decide) (fun b10 a W hF hS => ?_)
    refine sq_store (o := 0) (vs := A12u64.enc x7.1) (cs' := A12u64.enc x7.1) hF hS rfl rfl (i := 0) rfl rfl rfl ps24 (A12u64.enc_one _) (Nat.le_of_ble_eq_true rfl) rfl (fun W hS => ?_)
    refine sq_val (v_assign hF rfl) hF (by decide) (fun a hF => ?_)
    refine sq_nil ?_
    refine then_n ?_
    refine wp_seq ?_
    refine wp_reg ?_
    refine sq_val (v_move hF rfl) hF (by decide) (fun a hF => ?_)
    refine sq_val (v_eql hF rfl rfl) hF (by decide) (fun a hF => ?_)
    refine sq_val (v_move hF rfl) hF (by decide) (fun a hF => ?_)
    refine sq_cut 4 (fun a W => FH 48 [(44, .bool ((x7.2 == 0) && (u0.Port == 0)))] a ∧ St M w0 [⟨b10, A12u64.enc x7.1, 24⟩, ⟨b1, TAct.enc u0, 94⟩] [] [] W) (fun a W hJ => ?_) ?_
    ·
     obtain ⟨hF, hS⟩ := hJ
     refine sq_val (v_assign hF rfl) hF (by decide) (fun a hF => ?_)
     refine sq_nil ?_
     refine then_n ?_
     refine wp_ret ?_
     refine blk_r ?_
     refine then_r ?_
     obtain rfl := Option.some.inj h
     exact ret1 hF rfl (rv_tmp hF rfl) ⟨_, rfl, rfl, (hS.keep (List.nil_sublist _) (List.Sublist.refl _) trivial)⟩
    ·
     by_cases he11 : (x7.2 == 0) = true
     ·
      refine sq_yes hF rfl rfl he11 ?_
      refine sq_val (v_fieldAddr hF rfl pf94_1) hF (by decide) (fun a hF => ?_)
      refine sq_yes hF rfl rfl he11 ?_
      refine sq_val (v_load1 hF rfl pa3 (cells_sub (vs := [.int .i64 (u0.Port)]) (hS.bc (i := 1) rfl) rfl rfl)) hF (by decide) (fun a hF => ?_)
      refine sq_yes hF rfl rfl he11 ?_
      refine sq_val (v_eql hF rfl rfl) hF (by decide) (fun a hF => ?_)
      refine sq_val (v_pick_t hF rfl he11 rfl) hF (by decide) (fun a hF => ?_)
      exact sq_nil (then_j ⟨(hF.keep ⟨(boolV (and_t he11)), trivial⟩), hS⟩)
     ·
      have he11 : (x7.2 == 0) = false := nB he11
      refine sq_no hF rfl rfl he11 (by rintro x ⟨⟩; decide) (fun a hF => ?_)
      refine sq_no hF rfl rfl he11 (by rintro x ⟨⟩; decide) (fun a hF => ?_)
      refine sq_no hF rfl rfl he11 (by rintro x ⟨⟩; decide) (fun a hF => ?_)
      refine sq_val (v_pick_f hF rfl he11 rfl) hF (by decide) (fun a hF => ?_)
      exact sq_nil (then_j ⟨(hF.keep ⟨(boolV (and_f he11)), trivial⟩), hS⟩)
   ·
    replace h := ifF he6 h
    refine wp_skip ?_
    refine blk_n ?_
    refine then_n ?_
    refine wp_seq ?_
    refine wp_reg ?_
    refine sq_val (v_load (cs := TAct.enc u0) hF rfl pa94 ps94 (hS.bc (i := 0) rfl)) hF (by decide) (fun a hF => ?_)
    refine sq_val (v_build (parts := [(0, .const (.int .i64 3))]) (out := TAct.enc ({ Kind := 3, Port := 0, Field := 0, Value := 0 } : TAct)) hF rfl rfl pz94 rfl pp94 rfl) hF (by decide) (fun a hF => ?_)
    refine sq_val (eq94 hF rfl rfl).1 hF (by decide) (fun a hF => ?_)
    refine sq_val (v_assign hF rfl) hF (by decide) (fun a hF => ?_)
    refine sq_nil ?_
    refine then_n ?_
    refine wp_ret ?_
    obtain rfl := Option.some.inj h
    exact ret1 hF rfl (rv_tmp hF rfl) ⟨_, rfl, rfl, (hS.keep (List.nil_sublist _) (List.Sublist.refl _) trivial)⟩

theorem ok_act_Sound_1 {M : Nat → Prop} {w0 : World} {u0 : TAct} {o : Bool} (hS : St M w0 [] [] [] w0) (h : act_Sound_1 u0 = some o) :
    Calls Try.prog 130 #[.agg (TAct.enc u0).toArray] w0 fun e W' => ∃ v, e = .returned v ∧ (v = .bool (o) ∧ St M w0 [] [] [] W') := by
  unfold act_Sound_1 at h
  refine calls_start (args := [.agg (TAct.enc u0).toArray]) Try.func130 rfl rfl (Nat.le_of_ble_eq_true rfl) (fun a hF => ?_)
  refine wp_seq ?_
  refine wp_reg ?_
  refine sq_box hF hS rfl rfl (by decide) (fun b1 a W hF hS => ?_)
  refine sq_val (v_assign hF rfl) hF (by decide) (fun a hF => ?_)
  refine sq_nil ?_
  refine then_n ?_
  refine wp_seq ?_
  refine wp_reg ?_
  refine sq_val (v_load (cs := TAct.enc u0) hF rfl pa94 ps94 (hS.bc (i := 0) rfl)) hF (by decide) (fun a hF => ?_)
  obtain ⟨x2, hx3, h⟩ := bindS h
  refine sq_call hF pc131 rfl (by decide) (ok_act_sound (hS.enter trivial) hx3) (fun v W hR a hF => ?_)
  obtain ⟨rfl, hT4⟩ := hR
  have hS := hS.grow hT4.below
  refine sq_val (v_not hF rfl) hF (by decide) (fun a hF => ?_)
  refine sq_val (v_assign hF rfl) hF (by decide) (fun a hF => ?_)
  refine sq_nil ?_
  refine then_n ?_
  refine wp_ret ?_
  obtain rfl := Option.some.inj h
  exact ret1 hF rfl (rv_tmp hF rfl) ⟨_, rfl, rfl, (hS.keep (List.nil_sublist _) (List.Sublist.refl _) trivial)⟩

theorem ok_act_Sound (k : Nat) {M : Nat → Prop} {w0 : World} {u0 : List TAct} {A0_0 : Option Addr} {c0_0 : Nat} {o : Bool} (hS : St M w0 [] [] [fSl k_TAct A0_0 c0_0 u0] w0) (h : act_Sound k u0 = some o) :
    Calls Try.prog 76 #[.slice A0_0 ((u0).length) c0_0] w0 fun e W' => ∃ v, e = .returned v ∧ (v = .bool (o) ∧ St M w0 [] [] [] W') := by
  unfold act_Sound at h
  refine calls_start (args := [.slice A0_0 ((u0).length) c0_0]) Try.func76 rfl rfl (Nat.le_of_ble_eq_true rfl) (fun a hF => ?_)
  refine wp_seq ?_
  refine wp_reg ?_
  refine sq_val (v_assign hF rfl) hF (by decide) (fun a hF => ?_)
  refine sq_nil ?_
  refine then_n ?_
  refine wp_seq ?_
  refine wp_reg ?_
  refine sq_val (v_move hF rfl) hF (by decide) (fun a hF => ?_)
  refine sq_val (v_len hF rfl pu38) hF (by decide) (fun a hF => ?_)
  refine sq_val (v_leq hF rfl rfl) hF (by decide) (fun a hF => ?_)
  refine sq_val (v_move hF rfl) hF (by decide) (fun a hF => ?_)
  obtain ⟨x2, h, hk4⟩ := bindS h
  refine sq_cut 4 (fun a W => FH 11 [(10, .bool x2)] a ∧ St M w0 [] [] [fSl k_TAct A0_0 c0_0 u0] W) (fun a W hJ => ?_) ?_
  ·
   have h := hk4
   obtain ⟨hF, hS⟩ := hJ
   refine sq_val (v_assign hF rfl) hF (by decide) (fun a hF => ?_)
   refine sq_nil ?_
   refine then_n ?_
   refine wp_ret ?_
   obtain rfl := Option.some.inj h
   exact ret1 hF rfl (rv_tmp hF rfl) ⟨_, rfl, rfl, (hS.keep (List.Sublist.refl _) (List.Sublist.refl _) trivial)⟩
  ·
   by_cases he1 : (decide ((u0.length : Int) ≤ 8)) = true
   ·
    replace h := ifT he1 h
    refine sq_yes hF rfl rfl he1 ?_
    refine sq_val (v_move hF rfl) hF (by decide) (fun a hF => ?_)
    refine sq_yes hF rfl rfl he1 ?_
    have hS := hS.addFact (f := fFn1 Try.prog 130 ([]) k_TAct true (fun (a0 : TAct) => act_Sound_1 a0) (fun y => .bool y)) ⟨pc130, fun M' W' hs hv cs a0 y hR hp => by obtain rfl := hR; exact fromSt (ok_act_Sound_1 (St.ofAll hv trivial) hp)⟩
    obtain ⟨x5, hx6, h⟩ := bindS h
    refine sq_call hF pc129 rfl (by decide) (ok_slices_ContainsFunc_Act k (hS.enter ⟨⟨1, rfl⟩, ⟨0, rfl⟩, trivial⟩) hx6) (fun v W hR a hF => ?_)
    obtain ⟨rfl, hT7⟩ := hR
    have hS := hS.grow hT7.below
    refine sq_yes hF rfl rfl he1 ?_
    refine sq_val (v_not hF rfl) hF (by decide) (fun a hF => ?_)
    refine sq_val (v_pick_t hF rfl he1 rfl) hF (by decide) (fun a hF => ?_)
    obtain rfl := Option.some.inj h
    exact sq_nil (then_j ⟨(hF.keep ⟨rfl, trivial⟩), (hS.keep (List.Sublist.refl _) (List.Sublist.refl _) ⟨⟨1, rfl⟩, trivial⟩)⟩)
   ·
    have he1 : (decide ((u0.length : Int) ≤ 8)) = false := nB he1
    replace h := ifF he1 h
    refine sq_no hF rfl rfl he1 (by rintro x ⟨⟩; decide) (fun a hF => ?_)
    refine sq_no hF rfl rfl he1 (by rintro x ⟨⟩; decide) (fun a hF => ?_)
    refine sq_no hF rfl rfl he1 (by rintro x ⟨⟩; decide) (fun a hF => ?_)
    refine sq_val (v_pick_f hF rfl he1 rfl) hF (by decide) (fun a hF => ?_)
    obtain rfl := Option.some.inj h
    exact sq_nil (then_j ⟨(hF.keep ⟨rfl, trivial⟩), hS⟩)

theorem ok_rule_span {M : Nat → Prop} {w0 : World} {u0 : Int} {u1 : Int} {o : Bool} (hS : St M w0 [] [] [] w0) (h : rule_span u0 u1 = some o) :
    Calls Try.prog 146 #[.int .i64 (u0), .int .i64 (u1)] w0 fun e W' => ∃ v, e = .returned v ∧ (v = .bool (o) ∧ St M w0 [] [] [] W') := by
  unfold rule_span at h
  refine calls_start (args := [.int .i64 (u0), .int .i64 (u1)]) Try.func146 rfl rfl (Nat.le_of_ble_eq_true rfl) (fun a hF => ?_)
  refine wp_seq ?_
  refine wp_reg ?_
  refine sq_val (v_assign hF rfl) hF (by decide) (fun a hF => ?_)
  refine sq_nil ?_
  refine then_n ?_
  refine wp_seq ?_
  refine wp_reg ?_
  refine sq_val (v_move hF rfl) hF (by decide) (fun a hF => ?_)
  refine sq_val (v_geq hF rfl rfl) hF (by decide) (fun a hF => ?_)
  refine sq_val (v_move hF rfl) hF (by decide) (fun a hF => ?_)
  refine sq_cut 4 (fun a W => FH 12 [(11, .bool ((decide (0 ≤ u0)) && (decide (u0 ≤ u1))))] a ∧ St M w0 [] [] [] W) (fun a W hJ => ?_) ?_
  ·
   obtain ⟨hF, hS⟩ := hJ
   refine sq_val (v_assign hF rfl) hF (by decide) (fun a hF => ?_)
   refine sq_nil ?_
   refine then_n ?_
   refine wp_ret ?_
   obtain rfl := Option.some.inj h
   exact ret1 hF rfl (rv_tmp hF rfl) ⟨_, rfl, rfl, hS⟩
  ·
   by_cases he1 : (decide (0 ≤ u0)) = true
   ·
    refine sq_yes hF rfl rfl he1 ?_
    refine sq_val (v_move hF rfl) hF (by decide) (fun a hF => ?_)
    refine sq_yes hF rfl rfl he1 ?_
    refine sq_val (v_move hF rfl) hF (by decide) (fun a hF => ?_)
    refine sq_yes hF rfl rfl he1 ?_
    refine sq_val (v_leq hF rfl rfl) hF (by decide) (fun a hF => ?_)
    refine sq_val (v_pick_t hF rfl he1 rfl) hF (by decide) (fun a hF => ?_)
    exact sq_nil (then_j ⟨(hF.keep ⟨(boolV (and_t he1)), trivial⟩), hS⟩)
   ·
    have he1 : (decide (0 ≤ u0)) = false := nB he1
    refine sq_no hF rfl rfl he1 (by rintro x ⟨⟩; decide) (fun a hF => ?_)
    refine sq_no hF rfl rfl he1 (by rintro x ⟨⟩; decide) (fun a hF => ?_)
    refine sq_no hF rfl rfl he1 (by rintro x ⟨⟩; decide) (fun a hF => ?_)
    refine sq_val (v_pick_f hF rfl he1 rfl) hF (by decide) (fun a hF => ?_)
    exact sq_nil (then_j ⟨(hF.keep ⟨(boolV (and_f he1)), trivial⟩), hS⟩)
end Go.Proofs.Ytangebngeeamoaa
