/- Arguments that come in: headers, cubes, lists of cubes. -/
import Derived.Test.YtangebngeeamoaaS5
import Derived.Test.YtangebngeeamoaaL12
import Derived.Test.YtangebngeeamoaaRows
set_option linter.unusedVariables false
set_option linter.unusedSimpArgs false
set_option maxRecDepth 100000
namespace Go.Proofs.Ytangebngeeamoaa
open Go.RowKit Go.ChangeShapes Go.WideShapes Go.Pod

theorem Try.own : ownKnob Try.prog.godebug = none := by kernel_rfl
theorem Try.laidOut : laidOutB Try.prog = true := by kernel_rfl
theorem cells24 : Try.prog.cellsOf 24 = 12 := by kernel_rfl
theorem cells22 : Try.prog.cellsOf 22 = 1 := by kernel_rfl
theorem cells26 : Try.prog.cellsOf 26 = 24 := by kernel_rfl
theorem U_wf {n : Int} (h : (Lit.int .u64 n).wf = true) : U n := by
  have := bounds_u64 h
  exact ⟨this.1, by omega⟩
/-- A header that came in. -/
theorem opn24 : Opn Try.prog k_A12u64 24 RG := by
  intro H enc w base spare held fuel cs x h
  obtain ⟨xs, m, _, _, hlen, hxl, hf⟩ := DataW.trod_array (t := 24) Try.underlying24 h
  rw [cells24] at hlen
  have hel : ∀ i : Fin 12, ∃ v : Int, (cs.drop (i.val * 1)).take 1 = [.int .u64 v] ∧ U v := fun i => by
    have h1 := hf i.val i.isLt
    rw [cells22] at h1
    have h2 : xs[i.val]? = some (xs[i.val]'(by rw [hxl]; exact i.isLt)) := List.getElem?_eq_getElem _
    rw [h2] at h1
    obtain ⟨v, hv, hw⟩ := Opn.int Try.underlying22 h1
    exact ⟨v, hv, U_wf hw⟩
  refine ⟨fun i => Classical.choose (hel i), ?_, fun i hi => ?_⟩
  · have g : ∀ i : Fin 12, (cs.drop (i.val * 1)).take 1 = [.int .u64 (Classical.choose (hel i))] := fun i => (Classical.choose_spec (hel i)).1
    exact parts_all (parts_cons (g 0) (parts_cons (g 1) (parts_cons (g 2) (parts_cons (g 3) (parts_cons (g 4) (parts_cons (g 5) (parts_cons (g 6) (parts_cons (g 7) (parts_cons (g 8) (parts_cons (g 9) (parts_cons (g 10) (parts_cons (g 11) (parts_nil hlen)))))))))))))
  · rw [Arr.at_nat _ hi]
    exact (Classical.choose_spec (hel ⟨i, hi⟩)).2
theorem opn26 : Opn Try.prog k_TCube 26 RC := by
  intro H enc w base spare held fuel cs x h
  obtain ⟨xs, m, _, _, hlen, hxl, hf⟩ := DataW.trod_struct Try.underlying26 h
  rw [cells26] at hlen
  have h0 : DataW.trod enc Try.prog w base spare held m 24 ((cs.drop 0).take (Try.prog.cellsOf 24)) = xs[0]? := hf 0 _ rfl
  have h1 : DataW.trod enc Try.prog w base spare held m 24 ((cs.drop (0 + 12)).take (Try.prog.cellsOf 24)) = xs[1]? := hf 1 _ rfl
  have e0 : xs[0]? = some (xs[0]'(by rw [hxl]; decide)) := List.getElem?_eq_getElem _
  have e1 : xs[1]? = some (xs[1]'(by rw [hxl]; decide)) := List.getElem?_eq_getElem _
  rw [e0] at h0
  rw [e1] at h1
  obtain ⟨v, hv, gv⟩ := opn24 h0
  obtain ⟨c, hc, gc⟩ := opn24 h1
  refine ⟨⟨v, c⟩, ?_, gv, gc⟩
  rw [cells24] at hv hc
  exact parts_all (parts_cons hv (parts_cons hc (parts_nil hlen)))
theorem val24 {W : World} {v : Value} {H : Type} {enc : TypeId × Value → H} {sp : Nat → Bool} {hd : Bool} {d : DataW H} {p : List MemPlace} (h : DataW.Trod enc Try.prog W 0 sp hd 24 v d p) : ∃ x, v = .agg (A12u64.enc x).toArray ∧ RG x := by
  obtain ⟨fuel, hf⟩ := h
  obtain ⟨x, hx, hg⟩ := opn24 hf
  exact ⟨x, agg_of hx (by rw [A12u64.enc_len]; decide), hg⟩
/-- A list of cubes that came in. -/
theorem opn29 : Opn Try.prog (kSl k_TCube) 29 RCs := Opn.slice Try.underlying29 opn26 cells26 (by decide)
theorem val29 {W : World} {v : Value} {base : Nat} {H : Type} {enc : TypeId × Value → H} {sp : Nat → Bool} {hd : Bool} {d : DataW H} {p : List MemPlace} (ho : Value.okWide Try.prog W .any base 29 v) (h : DataW.Trod enc Try.prog W 0 sp hd 29 v d p) :
    ∃ A c xs, v = .slice A xs.length c ∧ SlR k_TCube (fun _ => False) W A c xs ∧ RCs xs := by
  obtain ⟨fuel, hf⟩ := h
  obtain ⟨xs, ⟨A, c, hx, hS⟩, hg⟩ := opn29 hf
  obtain ⟨A', n', c', hv⟩ := okWide_slice Try.underlying29 ho
  exact ⟨A, c, xs, slice_of hx hv, hS, hg⟩
end Go.Proofs.Ytangebngeeamoaa
