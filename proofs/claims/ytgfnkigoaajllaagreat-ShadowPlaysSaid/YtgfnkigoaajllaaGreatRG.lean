/- Arguments that come in: how they stand, what they weigh. -/
import Derived.Test.YtgfnkigoaajllaaGreatL12
import Derived.SizedLaws
import Derived.Test.YtgfnkigoaajllaaGreatD
import Derived.Test.YtgfnkigoaajllaaGreatRows
set_option linter.unusedVariables false
set_option linter.unusedSimpArgs false
set_option maxRecDepth 100000
namespace Go.Proofs.YtgfnkigoaajllaaGreat
open Go.RowKit Go.ChangeShapes Go.WideShapes Go.Pod

theorem Tryz.own : ownKnob Tryz.prog.godebug = none := by kernel_rfl
theorem Tryz.laidOut : laidOutB Tryz.prog = true := by kernel_rfl
theorem len63 {α : Type} {κ : Kd α} {M : Nat → Prop} {W : World} {A : Option Addr} {c : Nat} {xs : List α} (h : SlR κ M W A c xs) : xs.length < 2 ^ 63 := by
  have h1 := h.1
  have h2 := h.2.1
  have h3 : maxLen = 2 ^ 63 - 1 := rfl
  omega
/-- What reads as a datum of type t stands as a value of this kind, and meets G, which may speak of what the datum takes. -/
def OpnW (P : Program) {α : Type} (κ : Kd α) (t : TypeId) (G : α → List Nat → Prop) : Prop :=
  ∀ {H : Type} {enc : TypeId × Value → H} {w : World} {base : Nat} {spare : Nat → Bool} {held : Bool} {fuel : Nat} {cs : List Value} {x : DataW H × List MemPlace},
    DataW.trod enc P w base spare held fuel t cs = some x → ∃ a, κ.R (fun _ => False) w cs a ∧ G a (x.1.weights P t)
theorem wt_all {H : Type} {P : Program} {e : TypeId} {d : DataW H} : ∀ {l : List (DataW H)}, d ∈ l → ∀ n ∈ d.weights P e, n ∈ DataW.weightsAll P e l
  | y :: l, h, n, hn => by
    rw [DataW.weightsAll, List.mem_append]
    rcases List.mem_cons.1 h with h | h
    · subst h; exact .inl hn
    · exact .inr (wt_all h n hn)
theorem OpnW.slice {P : Program} {α : Type} {κ : Kd α} {t e : TypeId} {G : α → List Nat → Prop} (hm : ∀ a ws ws', (∀ n ∈ ws, n ∈ ws') → G a ws → G a ws') (ht : P.underlying t = some (.slice e)) (he : OpnW P κ e G) (hs : P.cellsOf e = κ.sz) (hpos : 0 < κ.sz) :
    OpnW P (kSl κ) t fun xs ws => (∀ x ∈ xs, G x ws) ∧ (xs = [] ∨ ∃ n ∈ ws, xs.length * P.bytesOf e ≤ n) := by
  intro H enc w base spare held fuel cs x h
  rcases Deep.open_slice ht h with ⟨rfl, rfl⟩ | ⟨a, len, cap, m, n, D, Pl, rfl, hb, hl, hmx, hmm, rfl, hi⟩
  · exact ⟨[], ⟨none, 0, rfl, SlR.nil _ _ _⟩, by simp, .inl rfl⟩
  · have hlm : len ≤ m := by rw [hmm]; split <;> omega
    have hw : ∀ i, i < len → ∀ k ∈ (D i).weights P e, k ∈ (DataW.slice ((List.range len).map D) ((List.range (m - len)).map fun j => D (len + j))).weights P t := fun i hil k hk => by
      simp only [DataW.weights, ht, List.mem_cons, List.mem_append]
      exact .inr (.inl (wt_all (List.mem_map.2 ⟨i, List.mem_range.2 hil, rfl⟩) k hk))
    have hel : ∀ i, i < len → ∃ y, (a.block < w.heap.size ∧ ∃ cs', CellsAt w (a.add (i * κ.sz)) cs' ∧ κ.R (fun _ => False) w cs' y) ∧ G y ((DataW.slice ((List.range len).map D) ((List.range (m - len)).map fun j => D (len + j))).weights P t) := fun i hil => by
      obtain ⟨cs', hc, htr⟩ := hi i (by omega)
      rw [hs] at hc
      obtain ⟨y, hR, hG⟩ := he htr
      obtain ⟨_, hlen, hcell⟩ := World.cells?_some hc
      refine ⟨y, ⟨?_, cs', ?_, hR⟩, hm _ _ _ (hw i hil) hG⟩
      · have h0 := hcell 0 hpos
        have : cs'[0]? = some (cs'[0]'(by omega)) := List.getElem?_eq_getElem (by omega)
        rw [this] at h0
        have := cell_lt h0
        rwa [add_block, add_block] at this
      · intro j u hj
        have hjl : j < κ.sz := by rw [← hlen]; exact (List.getElem?_eq_some_iff.1 hj).1
        rw [hcell j hjl]; exact hj
    obtain ⟨xs, hxl, hq⟩ := list_of len hel
    refine ⟨xs, ⟨some a, cap, by rw [hxl], ⟨by omega, hmx, fun h => (by cases h), fun i y hy => ?_⟩⟩, fun y hy => ?_, .inr ⟨(len + (m - len)) * P.bytesOf e, ?_, ?_⟩⟩
    · obtain ⟨⟨h1, cs', h2, h3⟩, _⟩ := hq i y hy
      exact ⟨a, cs', rfl, fun h => h, h1, h2, h3⟩
    · obtain ⟨i, hi⟩ := List.mem_iff_getElem?.1 hy
      exact (hq i y hi).2
    · simp only [DataW.weights, ht, List.mem_cons, List.length_map, List.length_range]
      exact .inl trivial
    · rw [hxl]
      exact Nat.mul_le_mul_right _ (by omega)
theorem wt_struct {H : Type} {P : Program} {t ft : TypeId} {fs : Array Field} (ht : P.underlying t = some (.struct fs)) {xs : List (DataW H × List MemPlace)} {j : Nat} (hf : (fs.toList.map (·.type))[j]? = some ft) (hj : j < xs.length) : ∀ n ∈ (xs[j]).1.weights P ft, n ∈ (DataW.agg (xs.map (·.1))).weights P t := by
  intro n hn
  simp only [DataW.weights, ht]
  exact DataW.weights_mem_each hf (by rw [List.getElem?_map, List.getElem?_eq_getElem hj]; rfl) n hn
theorem opn_fld {P : Program} {α : Type} {κ : Kd α} {ft : TypeId} {G : α → List Nat → Prop} (ho : OpnW P κ ft G) {H : Type} {enc : TypeId × Value → H} {w : World} {base : Nat} {spare : Nat → Bool} {held : Bool} {m o j s : Nat} {cs : List Value} {xs : List (DataW H × List MemPlace)}
    (h : DataW.trod enc P w base spare held m ft ((cs.drop o).take (P.cellsOf ft)) = xs[j]?) (hj : j < xs.length) (hc : P.cellsOf ft = s) : ∃ a, κ.R (fun _ => False) w ((cs.drop o).take s) a ∧ G a ((xs[j]).1.weights P ft) := by
  rw [List.getElem?_eq_getElem hj] at h
  subst hc
  exact ho h
theorem valSlW {α : Type} {κ : Kd α} {t e : TypeId} {G : List α → List Nat → Prop} (ht : Tryz.prog.underlying t = some (.slice e)) (ho : OpnW Tryz.prog (kSl κ) t G) {W : World} {v : Value} {base : Nat} {H : Type} {enc : TypeId × Value → H} {sp : Nat → Bool} {hd : Bool} {d : DataW H} {p : List MemPlace}
    (hw : Value.okWide Tryz.prog W .any base t v) (h : DataW.Trod enc Tryz.prog W 0 sp hd t v d p) : ∃ A c xs, v = .slice A xs.length c ∧ SlR κ (fun _ => False) W A c xs ∧ G xs (d.weights Tryz.prog t) := by
  obtain ⟨fuel, hf⟩ := h
  obtain ⟨xs, ⟨A, c, hx, hS⟩, hg⟩ := ho hf
  obtain ⟨A', n', c', hv⟩ := okWide_slice ht hw
  exact ⟨A, c, xs, slice_of hx hv, hS, hg⟩
theorem le_sum {α : Type} (f : α → Nat) : ∀ {l : List α} {x : α}, x ∈ l → f x ≤ (l.map f).sum
  | y :: l, x, h => by
    rw [List.map_cons, List.sum_cons]
    rcases List.mem_cons.1 h with h | h
    · subst h; omega
    · have := le_sum f h; omega
/-- What is within reach is not too long. -/
theorem near_fit {α : Type} {xs : List α} {ws : List Nat} {b : Nat} (h : xs = [] ∨ ∃ n ∈ ws, xs.length * b ≤ n) (hw : ∀ n ∈ ws, n ≤ reachBytes) : xs.length * b ≤ 140737488355328 := by
  rcases h with h | ⟨n, hn, hle⟩
  · rw [h]; simp
  · have h3 := hw n hn
    have h4 := reachBytes_lt
    omega
theorem cells3 : Tryz.prog.cellsOf 3 = 1 := by kernel_rfl
def G3 (x : Int) (ws : List Nat) : Prop := (Lit.int .i64 x).wf = true
theorem G3.mono {x : Int} {ws ws' : List Nat} (h : G3 x ws) (hw : ∀ n ∈ ws, n ∈ ws') : G3 x ws' := h
theorem opg3 : OpnW Tryz.prog (kInt .i64) 3 G3 := fun h => Opn.int Tryz.underlying3 h
theorem cells44 : Tryz.prog.cellsOf 44 = 1 := by kernel_rfl
def G44 (x : Int) (ws : List Nat) : Prop := (Lit.int .u64 x).wf = true
theorem G44.mono {x : Int} {ws ws' : List Nat} (h : G44 x ws) (hw : ∀ n ∈ ws, n ∈ ws') : G44 x ws' := h
theorem opg44 : OpnW Tryz.prog (kInt .u64) 44 G44 := fun h => Opn.int Tryz.underlying44 h
theorem cells46 : Tryz.prog.cellsOf 46 = 12 := by kernel_rfl
def G46 (x : Arr 12) (ws : List Nat) : Prop := ∀ i : Fin 12, G44 (x i) ws
theorem G46.mono {x : Arr 12} {ws ws' : List Nat} (h : G46 x ws) (hw : ∀ n ∈ ws, n ∈ ws') : G46 x ws' := h
theorem opg46 : OpnW Tryz.prog k_A12u64 46 G46 := by
  intro H enc w base spare held fuel cs x h
  obtain ⟨xs, m, _, _, hlen, hxl, hf⟩ := DataW.trod_array (t := 46) Tryz.underlying46 h
  rw [cells46] at hlen
  have hel : ∀ i : Fin 12, ∃ v : Int, (cs.drop (i.val * 1)).take 1 = [.int .u64 v] ∧ (Lit.int .u64 v).wf = true := fun i => by
    have h1 := hf i.val i.isLt
    rw [cells44] at h1
    rw [show xs[i.val]? = some (xs[i.val]'(by rw [hxl]; exact i.isLt)) from List.getElem?_eq_getElem _] at h1
    exact Opn.int Tryz.underlying44 h1
  have g : ∀ i : Fin 12, (cs.drop (i.val * 1)).take 1 = [.int .u64 (Classical.choose (hel i))] := fun i => (Classical.choose_spec (hel i)).1
  exact ⟨fun i => Classical.choose (hel i), parts_all (parts_cons (g 0) (parts_cons (g 1) (parts_cons (g 2) (parts_cons (g 3) (parts_cons (g 4) (parts_cons (g 5) (parts_cons (g 6) (parts_cons (g 7) (parts_cons (g 8) (parts_cons (g 9) (parts_cons (g 10) (parts_cons (g 11) (parts_nil hlen))))))))))))), fun i => (Classical.choose_spec (hel i)).2⟩
theorem cells48 : Tryz.prog.cellsOf 48 = 24 := by kernel_rfl
def G48 (x : TCube) (ws : List Nat) : Prop := G46 x.Value ws ∧ G46 x.Care ws ∧ True
theorem G48.mono {x : TCube} {ws ws' : List Nat} (h : G48 x ws) (hw : ∀ n ∈ ws, n ∈ ws') : G48 x ws' := ⟨G46.mono h.1 hw, G46.mono h.2.1 hw, trivial⟩
theorem opg48 : OpnW Tryz.prog k_TCube 48 G48 := by
  intro H enc w base spare held fuel cs x h
  obtain ⟨xs, m, _, hxe, hlen, hxl, hf⟩ := DataW.trod_struct Tryz.underlying48 h
  rw [cells48] at hlen
  subst hxe
  obtain ⟨v0, hv0, g0⟩ := opn_fld opg46 (hf 0 _ rfl) (by rw [hxl]; decide) cells46
  obtain ⟨v1, hv1, g1⟩ := opn_fld opg46 (hf 1 _ rfl) (by rw [hxl]; decide) cells46
  exact ⟨⟨v0, v1⟩, parts_all (parts_cons hv0 (parts_cons hv1 (parts_nil hlen))), G46.mono g0 (wt_struct Tryz.underlying48 rfl _), G46.mono g1 (wt_struct Tryz.underlying48 rfl _), trivial⟩
theorem cells152 : Tryz.prog.cellsOf 152 = 4 := by kernel_rfl
def G152 (x : TAct) (ws : List Nat) : Prop := G3 x.Kind ws ∧ G3 x.Port ws ∧ G3 x.Field ws ∧ G44 x.Value ws ∧ True
theorem G152.mono {x : TAct} {ws ws' : List Nat} (h : G152 x ws) (hw : ∀ n ∈ ws, n ∈ ws') : G152 x ws' := ⟨G3.mono h.1 hw, G3.mono h.2.1 hw, G3.mono h.2.2.1 hw, G44.mono h.2.2.2.1 hw, trivial⟩
theorem opg152 : OpnW Tryz.prog k_TAct 152 G152 := by
  intro H enc w base spare held fuel cs x h
  obtain ⟨xs, m, _, hxe, hlen, hxl, hf⟩ := DataW.trod_struct Tryz.underlying152 h
  rw [cells152] at hlen
  subst hxe
  obtain ⟨v0, hv0, g0⟩ := opn_fld opg3 (hf 0 _ rfl) (by rw [hxl]; decide) cells3
  obtain ⟨v1, hv1, g1⟩ := opn_fld opg3 (hf 1 _ rfl) (by rw [hxl]; decide) cells3
  obtain ⟨v2, hv2, g2⟩ := opn_fld opg3 (hf 2 _ rfl) (by rw [hxl]; decide) cells3
  obtain ⟨v3, hv3, g3⟩ := opn_fld opg44 (hf 3 _ rfl) (by rw [hxl]; decide) cells44
  exact ⟨⟨v0, v1, v2, v3⟩, parts_all (parts_cons hv0 (parts_cons hv1 (parts_cons hv2 (parts_cons hv3 (parts_nil hlen))))), G3.mono g0 (wt_struct Tryz.underlying152 rfl _), G3.mono g1 (wt_struct Tryz.underlying152 rfl _), G3.mono g2 (wt_struct Tryz.underlying152 rfl _), G44.mono g3 (wt_struct Tryz.underlying152 rfl _), trivial⟩
theorem cells49 : Tryz.prog.cellsOf 49 = 1 := by kernel_rfl
theorem bytes152 : Tryz.prog.bytesOf 152 = 32 := by kernel_rfl
def G49 (xs : List TAct) (ws : List Nat) : Prop := (∀ x ∈ xs, G152 x ws) ∧ xs.length < 2 ^ 63 ∧ (xs = [] ∨ ∃ n ∈ ws, xs.length * 32 ≤ n)
theorem G49.mono {x : List TAct} {ws ws' : List Nat} (h : G49 x ws) (hw : ∀ n ∈ ws, n ∈ ws') : G49 x ws' := ⟨fun y hy => G152.mono (h.1 y hy) hw, h.2.1, h.2.2.imp id fun ⟨n, hn, hle⟩ => ⟨n, hw n hn, hle⟩⟩
theorem opg49 : OpnW Tryz.prog (kSl k_TAct) 49 G49 := fun h => by
  obtain ⟨a, ⟨A, c, hv, hS⟩, h2, h3⟩ := OpnW.slice (κ := k_TAct) (G := G152) (fun _ _ _ hw h => G152.mono h hw) Tryz.underlying49 opg152 cells152 (by decide) h
  rw [bytes152] at h3
  exact ⟨a, ⟨A, c, hv, hS⟩, h2, len63 hS, h3⟩
theorem cells4 : Tryz.prog.cellsOf 4 = 1 := by kernel_rfl
def G4 (x : Bool) (ws : List Nat) : Prop := True
theorem G4.mono {x : Bool} {ws ws' : List Nat} (h : G4 x ws) (hw : ∀ n ∈ ws, n ∈ ws') : G4 x ws' := h
theorem opg4 : OpnW Tryz.prog kBool 4 G4 := fun h => Opn.bool Tryz.underlying4 h
theorem cells57 : Tryz.prog.cellsOf 57 = 31 := by kernel_rfl
def G57 (x : TMod) (ws : List Nat) : Prop := G3 x.Kind ws ∧ G48 x.Match ws ∧ G3 x.Prio ws ∧ G49 x.Acts ws ∧ G3 x.Idle ws ∧ G3 x.Hard ws ∧ G3 x.Owner ws ∧ G4 x.Check ws ∧ True
theorem G57.mono {x : TMod} {ws ws' : List Nat} (h : G57 x ws) (hw : ∀ n ∈ ws, n ∈ ws') : G57 x ws' := ⟨G3.mono h.1 hw, G48.mono h.2.1 hw, G3.mono h.2.2.1 hw, G49.mono h.2.2.2.1 hw, G3.mono h.2.2.2.2.1 hw, G3.mono h.2.2.2.2.2.1 hw, G3.mono h.2.2.2.2.2.2.1 hw, G4.mono h.2.2.2.2.2.2.2.1 hw, trivial⟩
theorem opg57 : OpnW Tryz.prog k_TMod 57 G57 := by
  intro H enc w base spare held fuel cs x h
  obtain ⟨xs, m, _, hxe, hlen, hxl, hf⟩ := DataW.trod_struct Tryz.underlying57 h
  rw [cells57] at hlen
  subst hxe
  obtain ⟨v0, hv0, g0⟩ := opn_fld opg3 (hf 0 _ rfl) (by rw [hxl]; decide) cells3
  obtain ⟨v1, hv1, g1⟩ := opn_fld opg48 (hf 1 _ rfl) (by rw [hxl]; decide) cells48
  obtain ⟨v2, hv2, g2⟩ := opn_fld opg3 (hf 2 _ rfl) (by rw [hxl]; decide) cells3
  obtain ⟨v3, ⟨A3_0, c3_0, hv3, s3_0⟩, g3⟩ := opn_fld opg49 (hf 3 _ rfl) (by rw [hxl]; decide) cells49
  obtain ⟨v4, hv4, g4⟩ := opn_fld opg3 (hf 4 _ rfl) (by rw [hxl]; decide) cells3
  obtain ⟨v5, hv5, g5⟩ := opn_fld opg3 (hf 5 _ rfl) (by rw [hxl]; decide) cells3
  obtain ⟨v6, hv6, g6⟩ := opn_fld opg3 (hf 6 _ rfl) (by rw [hxl]; decide) cells3
  obtain ⟨v7, hv7, g7⟩ := opn_fld opg4 (hf 7 _ rfl) (by rw [hxl]; decide) cells4
  exact ⟨⟨v0, v1, v2, v3, v4, v5, v6, v7⟩, ⟨A3_0, c3_0, parts_all (parts_cons hv0 (parts_cons hv1 (parts_cons hv2 (parts_cons hv3 (parts_cons hv4 (parts_cons hv5 (parts_cons hv6 (parts_cons hv7 (parts_nil hlen))))))))), s3_0⟩, G3.mono g0 (wt_struct Tryz.underlying57 rfl _), G48.mono g1 (wt_struct Tryz.underlying57 rfl _), G3.mono g2 (wt_struct Tryz.underlying57 rfl _), G49.mono g3 (wt_struct Tryz.underlying57 rfl _), G3.mono g4 (wt_struct Tryz.underlying57 rfl _), G3.mono g5 (wt_struct Tryz.underlying57 rfl _), G3.mono g6 (wt_struct Tryz.underlying57 rfl _), G4.mono g7 (wt_struct Tryz.underlying57 rfl _), trivial⟩
theorem cells59 : Tryz.prog.cellsOf 59 = 32 := by kernel_rfl
def G59 (x : TChange) (ws : List Nat) : Prop := G3 x.Unit ws ∧ G57 x.Mod ws ∧ True
theorem G59.mono {x : TChange} {ws ws' : List Nat} (h : G59 x ws) (hw : ∀ n ∈ ws, n ∈ ws') : G59 x ws' := ⟨G3.mono h.1 hw, G57.mono h.2.1 hw, trivial⟩
theorem opg59 : OpnW Tryz.prog k_TChange 59 G59 := by
  intro H enc w base spare held fuel cs x h
  obtain ⟨xs, m, _, hxe, hlen, hxl, hf⟩ := DataW.trod_struct Tryz.underlying59 h
  rw [cells59] at hlen
  subst hxe
  obtain ⟨v0, hv0, g0⟩ := opn_fld opg3 (hf 0 _ rfl) (by rw [hxl]; decide) cells3
  obtain ⟨v1, ⟨A1_0, c1_0, hv1, s1_0⟩, g1⟩ := opn_fld opg57 (hf 1 _ rfl) (by rw [hxl]; decide) cells57
  exact ⟨⟨v0, v1⟩, ⟨A1_0, c1_0, parts_all (parts_cons hv0 (parts_cons hv1 (parts_nil hlen))), s1_0⟩, G3.mono g0 (wt_struct Tryz.underlying59 rfl _), G57.mono g1 (wt_struct Tryz.underlying59 rfl _), trivial⟩
theorem cells28 : Tryz.prog.cellsOf 28 = 1 := by kernel_rfl
theorem bytes59 : Tryz.prog.bytesOf 59 = 272 := by kernel_rfl
def G28 (xs : List TChange) (ws : List Nat) : Prop := (∀ x ∈ xs, G59 x ws) ∧ xs.length < 2 ^ 63 ∧ (xs = [] ∨ ∃ n ∈ ws, xs.length * 272 ≤ n)
theorem G28.mono {x : List TChange} {ws ws' : List Nat} (h : G28 x ws) (hw : ∀ n ∈ ws, n ∈ ws') : G28 x ws' := ⟨fun y hy => G59.mono (h.1 y hy) hw, h.2.1, h.2.2.imp id fun ⟨n, hn, hle⟩ => ⟨n, hw n hn, hle⟩⟩
theorem opg28 : OpnW Tryz.prog (kSl k_TChange) 28 G28 := fun h => by
  obtain ⟨a, ⟨A, c, hv, hS⟩, h2, h3⟩ := OpnW.slice (κ := k_TChange) (G := G59) (fun _ _ _ hw h => G59.mono h hw) Tryz.underlying28 opg59 cells59 (by decide) h
  rw [bytes59] at h3
  exact ⟨a, ⟨A, c, hv, hS⟩, h2, len63 hS, h3⟩
theorem cells22 : Tryz.prog.cellsOf 22 = 1 := by kernel_rfl
theorem bytes28 : Tryz.prog.bytesOf 28 = 24 := by kernel_rfl
def G22 (xs : List (List TChange)) (ws : List Nat) : Prop := (∀ x ∈ xs, G28 x ws) ∧ xs.length < 2 ^ 63 ∧ (xs = [] ∨ ∃ n ∈ ws, xs.length * 24 ≤ n)
theorem G22.mono {x : List (List TChange)} {ws ws' : List Nat} (h : G22 x ws) (hw : ∀ n ∈ ws, n ∈ ws') : G22 x ws' := ⟨fun y hy => G28.mono (h.1 y hy) hw, h.2.1, h.2.2.imp id fun ⟨n, hn, hle⟩ => ⟨n, hw n hn, hle⟩⟩
theorem opg22 : OpnW Tryz.prog (kSl (kSl k_TChange)) 22 G22 := fun h => by
  obtain ⟨a, ⟨A, c, hv, hS⟩, h2, h3⟩ := OpnW.slice (κ := (kSl k_TChange)) (G := G28) (fun _ _ _ hw h => G28.mono h hw) Tryz.underlying22 opg28 cells28 (by decide) h
  rw [bytes28] at h3
  exact ⟨a, ⟨A, c, hv, hS⟩, h2, len63 hS, h3⟩
theorem cells5 : Tryz.prog.cellsOf 5 = 1 := by kernel_rfl
def G5 (x : Int) (ws : List Nat) : Prop := (Lit.int .u8 x).wf = true
theorem G5.mono {x : Int} {ws ws' : List Nat} (h : G5 x ws) (hw : ∀ n ∈ ws, n ∈ ws') : G5 x ws' := h
theorem opg5 : OpnW Tryz.prog (kInt .u8) 5 G5 := fun h => Opn.int Tryz.underlying5 h
theorem cells51 : Tryz.prog.cellsOf 51 = 32 := by kernel_rfl
def G51 (x : TRule) (ws : List Nat) : Prop := G48 x.Match ws ∧ G3 x.Prio ws ∧ G49 x.Acts ws ∧ G3 x.Idle ws ∧ G3 x.Hard ws ∧ G3 x.Owner ws ∧ G3 x.Hits ws ∧ G3 x.Quiet ws ∧ G3 x.Age ws ∧ True
theorem G51.mono {x : TRule} {ws ws' : List Nat} (h : G51 x ws) (hw : ∀ n ∈ ws, n ∈ ws') : G51 x ws' := ⟨G48.mono h.1 hw, G3.mono h.2.1 hw, G49.mono h.2.2.1 hw, G3.mono h.2.2.2.1 hw, G3.mono h.2.2.2.2.1 hw, G3.mono h.2.2.2.2.2.1 hw, G3.mono h.2.2.2.2.2.2.1 hw, G3.mono h.2.2.2.2.2.2.2.1 hw, G3.mono h.2.2.2.2.2.2.2.2.1 hw, trivial⟩
theorem opg51 : OpnW Tryz.prog k_TRule 51 G51 := by
  intro H enc w base spare held fuel cs x h
  obtain ⟨xs, m, _, hxe, hlen, hxl, hf⟩ := DataW.trod_struct Tryz.underlying51 h
  rw [cells51] at hlen
  subst hxe
  obtain ⟨v0, hv0, g0⟩ := opn_fld opg48 (hf 0 _ rfl) (by rw [hxl]; decide) cells48
  obtain ⟨v1, hv1, g1⟩ := opn_fld opg3 (hf 1 _ rfl) (by rw [hxl]; decide) cells3
  obtain ⟨v2, ⟨A2_0, c2_0, hv2, s2_0⟩, g2⟩ := opn_fld opg49 (hf 2 _ rfl) (by rw [hxl]; decide) cells49
  obtain ⟨v3, hv3, g3⟩ := opn_fld opg3 (hf 3 _ rfl) (by rw [hxl]; decide) cells3
  obtain ⟨v4, hv4, g4⟩ := opn_fld opg3 (hf 4 _ rfl) (by rw [hxl]; decide) cells3
  obtain ⟨v5, hv5, g5⟩ := opn_fld opg3 (hf 5 _ rfl) (by rw [hxl]; decide) cells3
  obtain ⟨v6, hv6, g6⟩ := opn_fld opg3 (hf 6 _ rfl) (by rw [hxl]; decide) cells3
  obtain ⟨v7, hv7, g7⟩ := opn_fld opg3 (hf 7 _ rfl) (by rw [hxl]; decide) cells3
  obtain ⟨v8, hv8, g8⟩ := opn_fld opg3 (hf 8 _ rfl) (by rw [hxl]; decide) cells3
  exact ⟨⟨v0, v1, v2, v3, v4, v5, v6, v7, v8⟩, ⟨A2_0, c2_0, parts_all (parts_cons hv0 (parts_cons hv1 (parts_cons hv2 (parts_cons hv3 (parts_cons hv4 (parts_cons hv5 (parts_cons hv6 (parts_cons hv7 (parts_cons hv8 (parts_nil hlen)))))))))), s2_0⟩, G48.mono g0 (wt_struct Tryz.underlying51 rfl _), G3.mono g1 (wt_struct Tryz.underlying51 rfl _), G49.mono g2 (wt_struct Tryz.underlying51 rfl _), G3.mono g3 (wt_struct Tryz.underlying51 rfl _), G3.mono g4 (wt_struct Tryz.underlying51 rfl _), G3.mono g5 (wt_struct Tryz.underlying51 rfl _), G3.mono g6 (wt_struct Tryz.underlying51 rfl _), G3.mono g7 (wt_struct Tryz.underlying51 rfl _), G3.mono g8 (wt_struct Tryz.underlying51 rfl _), trivial⟩
theorem cells53 : Tryz.prog.cellsOf 53 = 36 := by kernel_rfl
def G53 (x : Tpodestalaw22_Act) (ws : List Nat) : Prop := G3 x.What ws ∧ G3 x.Txn ws ∧ G28 x.L ws ∧ G3 x.Unit ws ∧ G51 x.Rule ws ∧ True
theorem G53.mono {x : Tpodestalaw22_Act} {ws ws' : List Nat} (h : G53 x ws) (hw : ∀ n ∈ ws, n ∈ ws') : G53 x ws' := ⟨G3.mono h.1 hw, G3.mono h.2.1 hw, G28.mono h.2.2.1 hw, G3.mono h.2.2.2.1 hw, G51.mono h.2.2.2.2.1 hw, trivial⟩
theorem opg53 : OpnW Tryz.prog k_Tpodestalaw22_Act 53 G53 := by
  intro H enc w base spare held fuel cs x h
  obtain ⟨xs, m, _, hxe, hlen, hxl, hf⟩ := DataW.trod_struct Tryz.underlying53 h
  rw [cells53] at hlen
  subst hxe
  obtain ⟨v0, hv0, g0⟩ := opn_fld opg3 (hf 0 _ rfl) (by rw [hxl]; decide) cells3
  obtain ⟨v1, hv1, g1⟩ := opn_fld opg3 (hf 1 _ rfl) (by rw [hxl]; decide) cells3
  obtain ⟨v2, ⟨A2_0, c2_0, hv2, s2_0⟩, g2⟩ := opn_fld opg28 (hf 2 _ rfl) (by rw [hxl]; decide) cells28
  obtain ⟨v3, hv3, g3⟩ := opn_fld opg3 (hf 3 _ rfl) (by rw [hxl]; decide) cells3
  obtain ⟨v4, ⟨A4_0, c4_0, hv4, s4_0⟩, g4⟩ := opn_fld opg51 (hf 4 _ rfl) (by rw [hxl]; decide) cells51
  exact ⟨⟨v0, v1, v2, v3, v4⟩, ⟨A2_0, c2_0, A4_0, c4_0, parts_all (parts_cons hv0 (parts_cons hv1 (parts_cons hv2 (parts_cons hv3 (parts_cons hv4 (parts_nil hlen)))))), s2_0, s4_0⟩, G3.mono g0 (wt_struct Tryz.underlying53 rfl _), G3.mono g1 (wt_struct Tryz.underlying53 rfl _), G28.mono g2 (wt_struct Tryz.underlying53 rfl _), G3.mono g3 (wt_struct Tryz.underlying53 rfl _), G51.mono g4 (wt_struct Tryz.underlying53 rfl _), trivial⟩
theorem cells41 : Tryz.prog.cellsOf 41 = 1 := by kernel_rfl
theorem bytes53 : Tryz.prog.bytesOf 53 = 320 := by kernel_rfl
def G41 (xs : List Tpodestalaw22_Act) (ws : List Nat) : Prop := (∀ x ∈ xs, G53 x ws) ∧ xs.length < 2 ^ 63 ∧ (xs = [] ∨ ∃ n ∈ ws, xs.length * 320 ≤ n)
theorem G41.mono {x : List Tpodestalaw22_Act} {ws ws' : List Nat} (h : G41 x ws) (hw : ∀ n ∈ ws, n ∈ ws') : G41 x ws' := ⟨fun y hy => G53.mono (h.1 y hy) hw, h.2.1, h.2.2.imp id fun ⟨n, hn, hle⟩ => ⟨n, hw n hn, hle⟩⟩
theorem opg41 : OpnW Tryz.prog (kSl k_Tpodestalaw22_Act) 41 G41 := fun h => by
  obtain ⟨a, ⟨A, c, hv, hS⟩, h2, h3⟩ := OpnW.slice (κ := k_Tpodestalaw22_Act) (G := G53) (fun _ _ _ hw h => G53.mono h hw) Tryz.underlying41 opg53 cells53 (by decide) h
  rw [bytes53] at h3
  exact ⟨a, ⟨A, c, hv, hS⟩, h2, len63 hS, h3⟩
end Go.Proofs.YtgfnkigoaajllaaGreat
