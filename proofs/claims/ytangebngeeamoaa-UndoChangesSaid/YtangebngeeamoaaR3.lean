/- Arguments that come in: tables and changes, what they weigh, each action's value a word. -/
import Derived.Test.YtangebngeeamoaaL12
import Derived.SizedLaws
import Derived.Test.YtangebngeeamoaaM1
import Derived.Test.YtangebngeeamoaaRows
set_option linter.unusedVariables false
set_option linter.unusedSimpArgs false
set_option maxRecDepth 100000
namespace Go.Proofs.Ytangebngeeamoaa
open Go.RowKit Go.ChangeShapes Go.WideShapes Go.Pod

theorem Try.own : ownKnob Try.prog.godebug = none := by kernel_rfl
theorem Try.laidOut : laidOutB Try.prog = true := by kernel_rfl
theorem cells24 : Try.prog.cellsOf 24 = 12 := by kernel_rfl
theorem cells22 : Try.prog.cellsOf 22 = 1 := by kernel_rfl
theorem cells26 : Try.prog.cellsOf 26 = 24 := by kernel_rfl
theorem U_wf {n : Int} (h : (Lit.int .u64 n).wf = true) : U n := by
  have := bounds_u64 h
  exact ⟨this.1, by omega⟩
/-- A header that came in. -/
theorem opn24 : Opn Try.prog k_A12u64 24 RG := by
  intro H enc w base spare held fuel cs x h
  obtain ⟨xs, m, _, _, hlen, hxl, hf⟩ := DataW.trod_array (t := 24) Try.underlying24 h
  rw [cells24] at hlen
  have hel : ∀ i : Fin 12, ∃ v : Int, (cs.drop (i.val * 1)).take 1 = [.int .u64 v] ∧ U v := fun i => by
    have h1 := hf i.val i.isLt
    rw [cells22] at h1
    have h2 : xs[i.val]? = some (xs[i.val]'(by rw [hxl]; exact i.isLt)) := List.getElem?_eq_getElem _
    rw [h2] at h1
    obtain ⟨v, hv, hw⟩ := Opn.int Try.underlying22 h1
    exact ⟨v, hv, U_wf hw⟩
  refine ⟨fun i => Classical.choose (hel i), ?_, fun i hi => ?_⟩
  · have g : ∀ i : Fin 12, (cs.drop (i.val * 1)).take 1 = [.int .u64 (Classical.choose (hel i))] := fun i => (Classical.choose_spec (hel i)).1
    exact parts_all (parts_cons (g 0) (parts_cons (g 1) (parts_cons (g 2) (parts_cons (g 3) (parts_cons (g 4) (parts_cons (g 5) (parts_cons (g 6) (parts_cons (g 7) (parts_cons (g 8) (parts_cons (g 9) (parts_cons (g 10) (parts_cons (g 11) (parts_nil hlen)))))))))))))
  · rw [Arr.at_nat _ hi]
    exact (Classical.choose_spec (hel ⟨i, hi⟩)).2
theorem opn26 : Opn Try.prog k_TCube 26 RC := by
  intro H enc w base spare held fuel cs x h
  obtain ⟨xs, m, _, _, hlen, hxl, hf⟩ := DataW.trod_struct Try.underlying26 h
  rw [cells26] at hlen
  have h0 : DataW.trod enc Try.prog w base spare held m 24 ((cs.drop 0).take (Try.prog.cellsOf 24)) = xs[0]? := hf 0 _ rfl
  have h1 : DataW.trod enc Try.prog w base spare held m 24 ((cs.drop (0 + 12)).take (Try.prog.cellsOf 24)) = xs[1]? := hf 1 _ rfl
  have e0 : xs[0]? = some (xs[0]'(by rw [hxl]; decide)) := List.getElem?_eq_getElem _
  have e1 : xs[1]? = some (xs[1]'(by rw [hxl]; decide)) := List.getElem?_eq_getElem _
  rw [e0] at h0
  rw [e1] at h1
  obtain ⟨v, hv, gv⟩ := opn24 h0
  obtain ⟨c, hc, gc⟩ := opn24 h1
  refine ⟨⟨v, c⟩, ?_, gv, gc⟩
  rw [cells24] at hv hc
  exact parts_all (parts_cons hv (parts_cons hc (parts_nil hlen)))
theorem val24 {W : World} {v : Value} {H : Type} {enc : TypeId × Value → H} {sp : Nat → Bool} {hd : Bool} {d : DataW H} {p : List MemPlace} (h : DataW.Trod enc Try.prog W 0 sp hd 24 v d p) : ∃ x, v = .agg (A12u64.enc x).toArray ∧ RG x := by
  obtain ⟨fuel, hf⟩ := h
  obtain ⟨x, hx, hg⟩ := opn24 hf
  exact ⟨x, agg_of hx (by rw [A12u64.enc_len]; decide), hg⟩
theorem len63 {α : Type} {κ : Kd α} {M : Nat → Prop} {W : World} {A : Option Addr} {c : Nat} {xs : List α} (h : SlR κ M W A c xs) : xs.length < 2 ^ 63 := by
  have h1 := h.1
  have h2 := h.2.1
  have h3 : maxLen = 2 ^ 63 - 1 := rfl
  omega
theorem cells3 : Try.prog.cellsOf 3 = 1 := by kernel_rfl
theorem cells4 : Try.prog.cellsOf 4 = 1 := by kernel_rfl
theorem cells38 : Try.prog.cellsOf 38 = 1 := by kernel_rfl
theorem cells94 : Try.prog.cellsOf 94 = 4 := by kernel_rfl
theorem cells40 : Try.prog.cellsOf 40 = 31 := by kernel_rfl
theorem opn94 : Opn Try.prog k_TAct 94 (fun _ => True) := by
  intro H enc w base spare held fuel cs x h
  obtain ⟨xs, m, _, _, hlen, hxl, hf⟩ := DataW.trod_struct Try.underlying94 h
  rw [cells94] at hlen
  have h0 : DataW.trod enc Try.prog w base spare held m 3 ((cs.drop 0).take (Try.prog.cellsOf 3)) = xs[0]? := hf 0 _ rfl
  rw [show xs[0]? = some (xs[0]'(by rw [hxl]; decide)) from List.getElem?_eq_getElem _] at h0
  obtain ⟨v0, hv0, g0⟩ := (Opn.int Try.underlying3) h0
  rw [cells3] at hv0
  have h1 : DataW.trod enc Try.prog w base spare held m 3 ((cs.drop 1).take (Try.prog.cellsOf 3)) = xs[1]? := hf 1 _ rfl
  rw [show xs[1]? = some (xs[1]'(by rw [hxl]; decide)) from List.getElem?_eq_getElem _] at h1
  obtain ⟨v1, hv1, g1⟩ := (Opn.int Try.underlying3) h1
  rw [cells3] at hv1
  have h2 : DataW.trod enc Try.prog w base spare held m 3 ((cs.drop 2).take (Try.prog.cellsOf 3)) = xs[2]? := hf 2 _ rfl
  rw [show xs[2]? = some (xs[2]'(by rw [hxl]; decide)) from List.getElem?_eq_getElem _] at h2
  obtain ⟨v2, hv2, g2⟩ := (Opn.int Try.underlying3) h2
  rw [cells3] at hv2
  have h3 : DataW.trod enc Try.prog w base spare held m 22 ((cs.drop 3).take (Try.prog.cellsOf 22)) = xs[3]? := hf 3 _ rfl
  rw [show xs[3]? = some (xs[3]'(by rw [hxl]; decide)) from List.getElem?_eq_getElem _] at h3
  obtain ⟨v3, hv3, g3⟩ := (Opn.int Try.underlying22) h3
  rw [cells22] at hv3
  exact ⟨⟨v0, v1, v2, v3⟩, parts_all (parts_cons hv0 (parts_cons hv1 (parts_cons hv2 (parts_cons hv3 (parts_nil hlen))))), trivial⟩

theorem opn38 : Opn Try.prog (kSl k_TAct) 38 fun xs => ∀ a ∈ xs, True := Opn.slice Try.underlying38 opn94 cells94 (by decide)
/-- What reads as a datum of type t stands as a value of this kind, and meets G, which may speak of what the datum takes. -/
def OpnW (P : Program) {α : Type} (κ : Kd α) (t : TypeId) (G : α → List Nat → Prop) : Prop :=
  ∀ {H : Type} {enc : TypeId × Value → H} {w : World} {base : Nat} {spare : Nat → Bool} {held : Bool} {fuel : Nat} {cs : List Value} {x : DataW H × List MemPlace},
    DataW.trod enc P w base spare held fuel t cs = some x → ∃ a, κ.R (fun _ => False) w cs a ∧ G a (x.1.weights P t)
theorem wt_all {H : Type} {P : Program} {e : TypeId} {d : DataW H} : ∀ {l : List (DataW H)}, d ∈ l → ∀ n ∈ d.weights P e, n ∈ DataW.weightsAll P e l
  | y :: l, h, n, hn => by
    rw [DataW.weightsAll, List.mem_append]
    rcases List.mem_cons.1 h with h | h
    · subst h; exact .inl hn
    · exact .inr (wt_all h n hn)
theorem OpnW.slice {P : Program} {α : Type} {κ : Kd α} {t e : TypeId} {G : α → List Nat → Prop} (hm : ∀ a ws ws', (∀ n ∈ ws, n ∈ ws') → G a ws → G a ws') (ht : P.underlying t = some (.slice e)) (he : OpnW P κ e G) (hs : P.cellsOf e = κ.sz) (hpos : 0 < κ.sz) :
    OpnW P (kSl κ) t fun xs ws => (∀ x ∈ xs, G x ws) ∧ (xs = [] ∨ ∃ n ∈ ws, xs.length * P.bytesOf e ≤ n) := by
  intro H enc w base spare held fuel cs x h
  rcases Deep.open_slice ht h with ⟨rfl, rfl⟩ | ⟨a, len, cap, m, n, D, Pl, rfl, hb, hl, hmx, hmm, rfl, hi⟩
  · exact ⟨[], ⟨none, 0, rfl, SlR.nil _ _ _⟩, by simp, .inl rfl⟩
  · have hlm : len ≤ m := by rw [hmm]; split <;> omega
    have hw : ∀ i, i < len → ∀ k ∈ (D i).weights P e, k ∈ (DataW.slice ((List.range len).map D) ((List.range (m - len)).map fun j => D (len + j))).weights P t := fun i hil k hk => by
      simp only [DataW.weights, ht, List.mem_cons, List.mem_append]
      exact .inr (.inl (wt_all (List.mem_map.2 ⟨i, List.mem_range.2 hil, rfl⟩) k hk))
    have hel : ∀ i, i < len → ∃ y, (a.block < w.heap.size ∧ ∃ cs', CellsAt w (a.add (i * κ.sz)) cs' ∧ κ.R (fun _ => False) w cs' y) ∧ G y ((DataW.slice ((List.range len).map D) ((List.range (m - len)).map fun j => D (len + j))).weights P t) := fun i hil => by
      obtain ⟨cs', hc, htr⟩ := hi i (by omega)
      rw [hs] at hc
      obtain ⟨y, hR, hG⟩ := he htr
      obtain ⟨_, hlen, hcell⟩ := World.cells?_some hc
      refine ⟨y, ⟨?_, cs', ?_, hR⟩, hm _ _ _ (hw i hil) hG⟩
      · have h0 := hcell 0 hpos
        have : cs'[0]? = some (cs'[0]'(by omega)) := List.getElem?_eq_getElem (by omega)
        rw [this] at h0
        have := cell_lt h0
        rwa [add_block, add_block] at this
      · intro j u hj
        have hjl : j < κ.sz := by rw [← hlen]; exact (List.getElem?_eq_some_iff.1 hj).1
        rw [hcell j hjl]; exact hj
    obtain ⟨xs, hxl, hq⟩ := list_of len hel
    refine ⟨xs, ⟨some a, cap, by rw [hxl], ⟨by omega, hmx, fun h => (by cases h), fun i y hy => ?_⟩⟩, fun y hy => ?_, .inr ⟨(len + (m - len)) * P.bytesOf e, ?_, ?_⟩⟩
    · obtain ⟨⟨h1, cs', h2, h3⟩, _⟩ := hq i y hy
      exact ⟨a, cs', rfl, fun h => h, h1, h2, h3⟩
    · obtain ⟨i, hi⟩ := List.mem_iff_getElem?.1 hy
      exact (hq i y hi).2
    · simp only [DataW.weights, ht, List.mem_cons, List.length_map, List.length_range]
      exact .inl trivial
    · rw [hxl]
      exact Nat.mul_le_mul_right _ (by omega)
theorem wt_struct {H : Type} {P : Program} {t ft : TypeId} {fs : Array Field} (ht : P.underlying t = some (.struct fs)) {xs : List (DataW H × List MemPlace)} {j : Nat} (hf : (fs.toList.map (·.type))[j]? = some ft) (hj : j < xs.length) : ∀ n ∈ (xs[j]).1.weights P ft, n ∈ (DataW.agg (xs.map (·.1))).weights P t := by
  intro n hn
  simp only [DataW.weights, ht]
  exact DataW.weights_mem_each hf (by rw [List.getElem?_map, List.getElem?_eq_getElem hj]; rfl) n hn
/-- Actions that are within reach. -/
def Near32 (xs : List TAct) (ws : List Nat) : Prop := xs = [] ∨ ∃ n ∈ ws, xs.length * 32 ≤ n
theorem Near32.mono {xs : List TAct} {ws ws' : List Nat} (h : Near32 xs ws) (hw : ∀ n ∈ ws, n ∈ ws') : Near32 xs ws' := h.imp id fun ⟨n, hn, hle⟩ => ⟨n, hw n hn, hle⟩
theorem opnW94 : OpnW Try.prog k_TAct 94 fun _ _ => True := fun h => by
  obtain ⟨a, h1, h2⟩ := opn94 h
  exact ⟨a, h1, h2⟩
theorem bytes94 : Try.prog.bytesOf 94 = 32 := by kernel_rfl
theorem opnW38 : OpnW Try.prog (kSl k_TAct) 38 fun xs ws => Near32 xs ws := fun h => by
  obtain ⟨a, h1, _, h2⟩ := OpnW.slice (κ := k_TAct) (G := fun _ _ => True) (fun _ _ _ _ h => h) Try.underlying38 opnW94 cells94 (by decide) h
  rw [bytes94] at h2
  exact ⟨a, h1, h2⟩
theorem opnW40 : OpnW Try.prog k_TMod 40 (fun m ws => (RC m.Match ∧ m.Acts.length < 2 ^ 63) ∧ Near32 m.Acts ws) := by
  intro H enc w base spare held fuel cs x h
  obtain ⟨xs, m, _, hxe, hlen, hxl, hf⟩ := DataW.trod_struct Try.underlying40 h
  rw [cells40] at hlen
  subst hxe
  have h0 : DataW.trod enc Try.prog w base spare held m 3 ((cs.drop 0).take (Try.prog.cellsOf 3)) = xs[0]? := hf 0 _ rfl
  rw [show xs[0]? = some (xs[0]'(by rw [hxl]; decide)) from List.getElem?_eq_getElem _] at h0
  obtain ⟨v0, hv0, g0⟩ := (Opn.int Try.underlying3) h0
  rw [cells3] at hv0
  have h1 : DataW.trod enc Try.prog w base spare held m 26 ((cs.drop 1).take (Try.prog.cellsOf 26)) = xs[1]? := hf 1 _ rfl
  rw [show xs[1]? = some (xs[1]'(by rw [hxl]; decide)) from List.getElem?_eq_getElem _] at h1
  obtain ⟨v1, hv1, g1⟩ := opn26 h1
  rw [cells26] at hv1
  have h2 : DataW.trod enc Try.prog w base spare held m 3 ((cs.drop 25).take (Try.prog.cellsOf 3)) = xs[2]? := hf 2 _ rfl
  rw [show xs[2]? = some (xs[2]'(by rw [hxl]; decide)) from List.getElem?_eq_getElem _] at h2
  obtain ⟨v2, hv2, g2⟩ := (Opn.int Try.underlying3) h2
  rw [cells3] at hv2
  have h3 : DataW.trod enc Try.prog w base spare held m 38 ((cs.drop 26).take (Try.prog.cellsOf 38)) = xs[3]? := hf 3 _ rfl
  rw [show xs[3]? = some (xs[3]'(by rw [hxl]; decide)) from List.getElem?_eq_getElem _] at h3
  obtain ⟨v3, ⟨A3_0, c3_0, hv3, s3_0⟩, g3⟩ := opnW38 h3
  rw [cells38] at hv3
  have h4 : DataW.trod enc Try.prog w base spare held m 3 ((cs.drop 27).take (Try.prog.cellsOf 3)) = xs[4]? := hf 4 _ rfl
  rw [show xs[4]? = some (xs[4]'(by rw [hxl]; decide)) from List.getElem?_eq_getElem _] at h4
  obtain ⟨v4, hv4, g4⟩ := (Opn.int Try.underlying3) h4
  rw [cells3] at hv4
  have h5 : DataW.trod enc Try.prog w base spare held m 3 ((cs.drop 28).take (Try.prog.cellsOf 3)) = xs[5]? := hf 5 _ rfl
  rw [show xs[5]? = some (xs[5]'(by rw [hxl]; decide)) from List.getElem?_eq_getElem _] at h5
  obtain ⟨v5, hv5, g5⟩ := (Opn.int Try.underlying3) h5
  rw [cells3] at hv5
  have h6 : DataW.trod enc Try.prog w base spare held m 3 ((cs.drop 29).take (Try.prog.cellsOf 3)) = xs[6]? := hf 6 _ rfl
  rw [show xs[6]? = some (xs[6]'(by rw [hxl]; decide)) from List.getElem?_eq_getElem _] at h6
  obtain ⟨v6, hv6, g6⟩ := (Opn.int Try.underlying3) h6
  rw [cells3] at hv6
  have h7 : DataW.trod enc Try.prog w base spare held m 4 ((cs.drop 30).take (Try.prog.cellsOf 4)) = xs[7]? := hf 7 _ rfl
  rw [show xs[7]? = some (xs[7]'(by rw [hxl]; decide)) from List.getElem?_eq_getElem _] at h7
  obtain ⟨v7, hv7, g7⟩ := (Opn.bool Try.underlying4) h7
  rw [cells4] at hv7
  exact ⟨⟨v0, v1, v2, v3, v4, v5, v6, v7⟩, ⟨A3_0, c3_0, parts_all (parts_cons hv0 (parts_cons hv1 (parts_cons hv2 (parts_cons hv3 (parts_cons hv4 (parts_cons hv5 (parts_cons hv6 (parts_cons hv7 (parts_nil hlen))))))))), s3_0⟩, ⟨⟨g1, len63 s3_0⟩, g3.mono (wt_struct Try.underlying40 rfl _)⟩⟩
theorem valSlW {α : Type} {κ : Kd α} {t e : TypeId} {G : List α → List Nat → Prop} (ht : Try.prog.underlying t = some (.slice e)) (ho : OpnW Try.prog (kSl κ) t G) {W : World} {v : Value} {base : Nat} {H : Type} {enc : TypeId × Value → H} {sp : Nat → Bool} {hd : Bool} {d : DataW H} {p : List MemPlace}
    (hw : Value.okWide Try.prog W .any base t v) (h : DataW.Trod enc Try.prog W 0 sp hd t v d p) : ∃ A c xs, v = .slice A xs.length c ∧ SlR κ (fun _ => False) W A c xs ∧ G xs (d.weights Try.prog t) := by
  obtain ⟨fuel, hf⟩ := h
  obtain ⟨xs, ⟨A, c, hx, hS⟩, hg⟩ := ho hf
  obtain ⟨A', n', c', hv⟩ := okWide_slice ht hw
  exact ⟨A, c, xs, slice_of hx hv, hS, hg⟩
theorem le_sum {α : Type} (f : α → Nat) : ∀ {l : List α} {x : α}, x ∈ l → f x ≤ (l.map f).sum
  | y :: l, x, h => by
    rw [List.map_cons, List.sum_cons]
    rcases List.mem_cons.1 h with h | h
    · subst h; omega
    · have := le_sum f h; omega
theorem cells65 : Try.prog.cellsOf 65 = 32 := by kernel_rfl
theorem opnU94 : OpnW Try.prog k_TAct 94 (fun a _ => UA a) := by
  intro H enc w base spare held fuel cs x h
  obtain ⟨xs, m, _, _, hlen, hxl, hf⟩ := DataW.trod_struct Try.underlying94 h
  rw [cells94] at hlen
  have h0 : DataW.trod enc Try.prog w base spare held m 3 ((cs.drop 0).take (Try.prog.cellsOf 3)) = xs[0]? := hf 0 _ rfl
  rw [show xs[0]? = some (xs[0]'(by rw [hxl]; decide)) from List.getElem?_eq_getElem _] at h0
  obtain ⟨v0, hv0, g0⟩ := (Opn.int Try.underlying3) h0
  rw [cells3] at hv0
  have h1 : DataW.trod enc Try.prog w base spare held m 3 ((cs.drop 1).take (Try.prog.cellsOf 3)) = xs[1]? := hf 1 _ rfl
  rw [show xs[1]? = some (xs[1]'(by rw [hxl]; decide)) from List.getElem?_eq_getElem _] at h1
  obtain ⟨v1, hv1, g1⟩ := (Opn.int Try.underlying3) h1
  rw [cells3] at hv1
  have h2 : DataW.trod enc Try.prog w base spare held m 3 ((cs.drop 2).take (Try.prog.cellsOf 3)) = xs[2]? := hf 2 _ rfl
  rw [show xs[2]? = some (xs[2]'(by rw [hxl]; decide)) from List.getElem?_eq_getElem _] at h2
  obtain ⟨v2, hv2, g2⟩ := (Opn.int Try.underlying3) h2
  rw [cells3] at hv2
  have h3 : DataW.trod enc Try.prog w base spare held m 22 ((cs.drop 3).take (Try.prog.cellsOf 22)) = xs[3]? := hf 3 _ rfl
  rw [show xs[3]? = some (xs[3]'(by rw [hxl]; decide)) from List.getElem?_eq_getElem _] at h3
  obtain ⟨v3, hv3, g3⟩ := (Opn.int Try.underlying22) h3
  rw [cells22] at hv3
  exact ⟨⟨v0, v1, v2, v3⟩, parts_all (parts_cons hv0 (parts_cons hv1 (parts_cons hv2 (parts_cons hv3 (parts_nil hlen))))), U_wf g3⟩

theorem opnU38 : OpnW Try.prog (kSl k_TAct) 38 fun xs ws => (∀ a ∈ xs, UA a) ∧ Near32 xs ws := fun h => by
  obtain ⟨a, h1, h2, h3⟩ := OpnW.slice (κ := k_TAct) (G := fun a _ => UA a) (fun _ _ _ _ h => h) Try.underlying38 opnU94 cells94 (by decide) h
  rw [bytes94] at h3
  exact ⟨a, h1, h2, h3⟩
theorem opnU40 : OpnW Try.prog k_TMod 40 (fun m ws => ((RC m.Match ∧ m.Acts.length < 2 ^ 63) ∧ ∀ a ∈ m.Acts, UA a) ∧ Near32 m.Acts ws) := by
  intro H enc w base spare held fuel cs x h
  obtain ⟨xs, m, _, hxe, hlen, hxl, hf⟩ := DataW.trod_struct Try.underlying40 h
  rw [cells40] at hlen
  subst hxe
  have h0 : DataW.trod enc Try.prog w base spare held m 3 ((cs.drop 0).take (Try.prog.cellsOf 3)) = xs[0]? := hf 0 _ rfl
  rw [show xs[0]? = some (xs[0]'(by rw [hxl]; decide)) from List.getElem?_eq_getElem _] at h0
  obtain ⟨v0, hv0, g0⟩ := (Opn.int Try.underlying3) h0
  rw [cells3] at hv0
  have h1 : DataW.trod enc Try.prog w base spare held m 26 ((cs.drop 1).take (Try.prog.cellsOf 26)) = xs[1]? := hf 1 _ rfl
  rw [show xs[1]? = some (xs[1]'(by rw [hxl]; decide)) from List.getElem?_eq_getElem _] at h1
  obtain ⟨v1, hv1, g1⟩ := opn26 h1
  rw [cells26] at hv1
  have h2 : DataW.trod enc Try.prog w base spare held m 3 ((cs.drop 25).take (Try.prog.cellsOf 3)) = xs[2]? := hf 2 _ rfl
  rw [show xs[2]? = some (xs[2]'(by rw [hxl]; decide)) from List.getElem?_eq_getElem _] at h2
  obtain ⟨v2, hv2, g2⟩ := (Opn.int Try.underlying3) h2
  rw [cells3] at hv2
  have h3 : DataW.trod enc Try.prog w base spare held m 38 ((cs.drop 26).take (Try.prog.cellsOf 38)) = xs[3]? := hf 3 _ rfl
  rw [show xs[3]? = some (xs[3]'(by rw [hxl]; decide)) from List.getElem?_eq_getElem _] at h3
  obtain ⟨v3, ⟨A3_0, c3_0, hv3, s3_0⟩, g3⟩ := opnU38 h3
  rw [cells38] at hv3
  have h4 : DataW.trod enc Try.prog w base spare held m 3 ((cs.drop 27).take (Try.prog.cellsOf 3)) = xs[4]? := hf 4 _ rfl
  rw [show xs[4]? = some (xs[4]'(by rw [hxl]; decide)) from List.getElem?_eq_getElem _] at h4
  obtain ⟨v4, hv4, g4⟩ := (Opn.int Try.underlying3) h4
  rw [cells3] at hv4
  have h5 : DataW.trod enc Try.prog w base spare held m 3 ((cs.drop 28).take (Try.prog.cellsOf 3)) = xs[5]? := hf 5 _ rfl
  rw [show xs[5]? = some (xs[5]'(by rw [hxl]; decide)) from List.getElem?_eq_getElem _] at h5
  obtain ⟨v5, hv5, g5⟩ := (Opn.int Try.underlying3) h5
  rw [cells3] at hv5
  have h6 : DataW.trod enc Try.prog w base spare held m 3 ((cs.drop 29).take (Try.prog.cellsOf 3)) = xs[6]? := hf 6 _ rfl
  rw [show xs[6]? = some (xs[6]'(by rw [hxl]; decide)) from List.getElem?_eq_getElem _] at h6
  obtain ⟨v6, hv6, g6⟩ := (Opn.int Try.underlying3) h6
  rw [cells3] at hv6
  have h7 : DataW.trod enc Try.prog w base spare held m 4 ((cs.drop 30).take (Try.prog.cellsOf 4)) = xs[7]? := hf 7 _ rfl
  rw [show xs[7]? = some (xs[7]'(by rw [hxl]; decide)) from List.getElem?_eq_getElem _] at h7
  obtain ⟨v7, hv7, g7⟩ := (Opn.bool Try.underlying4) h7
  rw [cells4] at hv7
  exact ⟨⟨v0, v1, v2, v3, v4, v5, v6, v7⟩, ⟨A3_0, c3_0, parts_all (parts_cons hv0 (parts_cons hv1 (parts_cons hv2 (parts_cons hv3 (parts_cons hv4 (parts_cons hv5 (parts_cons hv6 (parts_cons hv7 (parts_nil hlen))))))))), s3_0⟩, ⟨⟨⟨g1, len63 s3_0⟩, g3.1⟩, g3.2.mono (wt_struct Try.underlying40 rfl _)⟩⟩
theorem opnU65 : OpnW Try.prog k_TRule 65 (fun r ws => ((RC r.Match ∧ r.Acts.length < 2 ^ 63) ∧ ∀ a ∈ r.Acts, UA a) ∧ Near32 r.Acts ws) := by
  intro H enc w base spare held fuel cs x h
  obtain ⟨xs, m, _, hxe, hlen, hxl, hf⟩ := DataW.trod_struct Try.underlying65 h
  rw [cells65] at hlen
  subst hxe
  have h0 : DataW.trod enc Try.prog w base spare held m 26 ((cs.drop 0).take (Try.prog.cellsOf 26)) = xs[0]? := hf 0 _ rfl
  rw [show xs[0]? = some (xs[0]'(by rw [hxl]; decide)) from List.getElem?_eq_getElem _] at h0
  obtain ⟨v0, hv0, g0⟩ := opn26 h0
  rw [cells26] at hv0
  have h1 : DataW.trod enc Try.prog w base spare held m 3 ((cs.drop 24).take (Try.prog.cellsOf 3)) = xs[1]? := hf 1 _ rfl
  rw [show xs[1]? = some (xs[1]'(by rw [hxl]; decide)) from List.getElem?_eq_getElem _] at h1
  obtain ⟨v1, hv1, g1⟩ := (Opn.int Try.underlying3) h1
  rw [cells3] at hv1
  have h2 : DataW.trod enc Try.prog w base spare held m 38 ((cs.drop 25).take (Try.prog.cellsOf 38)) = xs[2]? := hf 2 _ rfl
  rw [show xs[2]? = some (xs[2]'(by rw [hxl]; decide)) from List.getElem?_eq_getElem _] at h2
  obtain ⟨v2, ⟨A2_0, c2_0, hv2, s2_0⟩, g2⟩ := opnU38 h2
  rw [cells38] at hv2
  have h3 : DataW.trod enc Try.prog w base spare held m 3 ((cs.drop 26).take (Try.prog.cellsOf 3)) = xs[3]? := hf 3 _ rfl
  rw [show xs[3]? = some (xs[3]'(by rw [hxl]; decide)) from List.getElem?_eq_getElem _] at h3
  obtain ⟨v3, hv3, g3⟩ := (Opn.int Try.underlying3) h3
  rw [cells3] at hv3
  have h4 : DataW.trod enc Try.prog w base spare held m 3 ((cs.drop 27).take (Try.prog.cellsOf 3)) = xs[4]? := hf 4 _ rfl
  rw [show xs[4]? = some (xs[4]'(by rw [hxl]; decide)) from List.getElem?_eq_getElem _] at h4
  obtain ⟨v4, hv4, g4⟩ := (Opn.int Try.underlying3) h4
  rw [cells3] at hv4
  have h5 : DataW.trod enc Try.prog w base spare held m 3 ((cs.drop 28).take (Try.prog.cellsOf 3)) = xs[5]? := hf 5 _ rfl
  rw [show xs[5]? = some (xs[5]'(by rw [hxl]; decide)) from List.getElem?_eq_getElem _] at h5
  obtain ⟨v5, hv5, g5⟩ := (Opn.int Try.underlying3) h5
  rw [cells3] at hv5
  have h6 : DataW.trod enc Try.prog w base spare held m 3 ((cs.drop 29).take (Try.prog.cellsOf 3)) = xs[6]? := hf 6 _ rfl
  rw [show xs[6]? = some (xs[6]'(by rw [hxl]; decide)) from List.getElem?_eq_getElem _] at h6
  obtain ⟨v6, hv6, g6⟩ := (Opn.int Try.underlying3) h6
  rw [cells3] at hv6
  have h7 : DataW.trod enc Try.prog w base spare held m 3 ((cs.drop 30).take (Try.prog.cellsOf 3)) = xs[7]? := hf 7 _ rfl
  rw [show xs[7]? = some (xs[7]'(by rw [hxl]; decide)) from List.getElem?_eq_getElem _] at h7
  obtain ⟨v7, hv7, g7⟩ := (Opn.int Try.underlying3) h7
  rw [cells3] at hv7
  have h8 : DataW.trod enc Try.prog w base spare held m 3 ((cs.drop 31).take (Try.prog.cellsOf 3)) = xs[8]? := hf 8 _ rfl
  rw [show xs[8]? = some (xs[8]'(by rw [hxl]; decide)) from List.getElem?_eq_getElem _] at h8
  obtain ⟨v8, hv8, g8⟩ := (Opn.int Try.underlying3) h8
  rw [cells3] at hv8
  exact ⟨⟨v0, v1, v2, v3, v4, v5, v6, v7, v8⟩, ⟨A2_0, c2_0, parts_all (parts_cons hv0 (parts_cons hv1 (parts_cons hv2 (parts_cons hv3 (parts_cons hv4 (parts_cons hv5 (parts_cons hv6 (parts_cons hv7 (parts_cons hv8 (parts_nil hlen)))))))))), s2_0⟩, ⟨⟨⟨g0, len63 s2_0⟩, g2.1⟩, g2.2.mono (wt_struct Try.underlying65 rfl _)⟩⟩

theorem opnU37 : OpnW Try.prog (kSl k_TRule) 37 fun xs ws => ∀ r ∈ xs, ((RC r.Match ∧ r.Acts.length < 2 ^ 63) ∧ ∀ a ∈ r.Acts, UA a) ∧ Near32 r.Acts ws := fun h => by
  obtain ⟨a, h1, h2, _⟩ := OpnW.slice (κ := k_TRule) (G := fun r ws => ((RC r.Match ∧ r.Acts.length < 2 ^ 63) ∧ ∀ a ∈ r.Acts, UA a) ∧ Near32 r.Acts ws) (fun _ _ _ hw h => ⟨h.1, h.2.mono hw⟩) Try.underlying37 opnU65 cells65 (by decide) h
  exact ⟨a, h1, h2⟩
/-- A change that came in. -/
theorem val40 {W : World} {v : Value} {H : Type} {enc : TypeId × Value → H} {sp : Nat → Bool} {hd : Bool} {d : DataW H} {p : List MemPlace} (h : DataW.Trod enc Try.prog W 0 sp hd 40 v d p) :
    ∃ A c m, v = .agg (TMod.enc m A c).toArray ∧ SlR k_TAct (fun _ => False) W A c m.Acts ∧ (((RC m.Match ∧ m.Acts.length < 2 ^ 63) ∧ ∀ a ∈ m.Acts, UA a) ∧ Near32 m.Acts (d.weights Try.prog 40)) := by
  obtain ⟨fuel, hf⟩ := h
  obtain ⟨x, ⟨A, c, hx, hS⟩, hg⟩ := opnU40 hf
  exact ⟨A, c, x, agg_of hx (by simp [TMod.enc, TCube.enc, A12u64.enc_len]), hS, hg⟩
/-- What is within reach is not too long. -/
theorem Near32.fit {xs : List TAct} {ws : List Nat} (h : Near32 xs ws) (hw : ∀ n ∈ ws, n ≤ reachBytes) : xs.length * 32 ≤ 140737488355328 := by
  rcases h with h | ⟨n, hn, hle⟩
  · rw [h]; simp
  · have h3 := hw n hn
    have h4 := reachBytes_lt
    omega
end Go.Proofs.Ytangebngeeamoaa
