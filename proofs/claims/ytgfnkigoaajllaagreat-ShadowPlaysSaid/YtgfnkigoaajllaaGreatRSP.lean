/- ShadowPlays: the law's row. -/
import Derived.Test.YtgfnkigoaajllaaGreatO5
import Derived.Test.YtgfnkigoaajllaaGreatPS
import Derived.Test.YtgfnkigoaajllaaGreatKSP
import Derived.Test.YtgfnkigoaajllaaGreatW3
set_option linter.unusedVariables false
set_option linter.unusedSimpArgs false
set_option maxRecDepth 100000
namespace Go.Proofs.YtgfnkigoaajllaaGreat
open Go.RowKit Go.ChangeShapes Go.WideShapes Go.Pod

theorem ShadowPlays_lifted (os : Os) (started : os.Started) (H : Type) (enc : TypeId × Value → H) :
    ReturnsInHanded {} Tryz.checked os 4 .any (Rows.shadowPlaysSpec.pre6 enc Tryz.prog Tryz.f4 Rows.shadowPlaysRow.domain false) (Rows.shadowPlaysSpec.post enc Tryz.prog Tryz.f4 false true false false) := by
  refine returnsInHanded_of_change_sized (C := Tryz.checked) Tryz.own started (by kernel_rfl) Tryz.func4
    (ChangeSpec.witness6 (enc := enc) (C := Tryz.checked) false ⟨#[], #[.int .u8 0, .slice none 0 0], []⟩ 8 (by kernel_rfl) (by kernel_rfl) (by kernel_rfl) (by kernel_rfl)) ?_
  intro W base args ds gs before hval hW hcnd hwt _
  obtain ⟨p, q, hA, hV, rfl, hfz, hnd⟩ := id hW
  have hA' : DataW.TrodAll enc Tryz.prog W 0 (fun _ => true) true [5, 41] args.toList ds p := hA
  obtain ⟨v0, v1, d0, d1, p0, p1, hargs, rfl, rfl, h0, h1⟩ := trodAll_two hA'
  obtain ⟨rfl, rfl⟩ := trodVars_none hV
  subst hargs
  obtain ⟨u, rfl⟩ := okWide_int Tryz.underlying5 (hval 0 5 _ rfl rfl)
  obtain ⟨fuel, hf⟩ := h0
  obtain ⟨x, hx, hg⟩ := opg5 hf
  have hux : u = x := by
    have hx' : [Value.int .u8 u] = [Value.int .u8 x] := hx
    simpa using hx'
  subst hux
  have hu : 0 ≤ u := by
    have h2 : (Lit.int .u8 u).wf = true := hg
    simp [Lit.wf, IntKind.min, IntKind.max, IntKind.signed, IntKind.bits] at h2
    omega
  obtain ⟨A, c, xs, rfl, hxs, hG⟩ := valSlW Tryz.underlying41 opg41 (hval 1 41 _ rfl rfl) h1
  have hw1 : ∀ n ∈ d1.weights Tryz.prog 41, n ≤ reachBytes := fun n hn => by
    have h2 := List.all_eq_true.1 hwt n (DataW.weights_mem_each (j := 1) (t := 41) (d := d1) rfl rfl n hn)
    simpa using h2
  have hS : St (fun _ => False) W [] [] [fSl k_Tpodestalaw22_Act A c xs] W := St.refl (fun k h => h.elim) (fun f h => by rw [List.mem_singleton] at h; subst h; exact hxs)
  have ha : ∀ a ∈ xs, OkA (2001 + (xs.map fun a => actsLen a.L).sum) a := fun a ha =>
    ⟨fun c hc => okM_of ((hG.1 a ha).2.2.1.1 c hc).2.1 hw1 (by have h1 := actsLen_le hc; have h2 := le_sum (fun a : Tpodestalaw22_Act => actsLen a.L) ha; omega)⟩
  refine (ok_law22_ShadowPlays _ hS (law_ShadowPlays (by omega) hu ha)).mono fun e W' ⟨v, he, hv, hT⟩ => ⟨v, he, ?_⟩
  subst hv
  exact post_law Tryz.laidOut (by kernel_rfl) rfl Tryz.underlying4 rfl rfl hW hT.below.to
theorem ShadowPlays_holds : Rows.ShadowPlaysSaid :=
  OpenClaim.holds_of_wide 4 Tryz.f4 rfl rfl rfl rfl rfl rfl rfl ⟨rfl, rfl, rfl, rfl, rfl⟩ rfl rfl rfl rfl rfl namedK Tryz.func4 closedK instK wrapK
    (fun os started H enc _ => ShadowPlays_lifted os started H enc)
#print axioms ShadowPlays_holds
end Go.Proofs.YtgfnkigoaajllaaGreat
