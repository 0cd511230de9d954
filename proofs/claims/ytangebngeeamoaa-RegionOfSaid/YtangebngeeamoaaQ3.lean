/- Plain laws on regions: what the regions of changes are, whether they touch. -/
import Derived.Test.YtangebngeeamoaaQ2
import Derived.KernelRfl
set_option linter.unusedVariables false
set_option linter.unusedSimpArgs false
set_option maxRecDepth 100000
namespace Go.Proofs.Ytangebngeeamoaa
open Go.RowKit Go.Pod

def RCh (l : List TChange) : Prop := ∀ c ∈ l, RC c.Mod.Match
def regOf (c : TChange) : TRegion := ⟨c.Unit, c.Mod.Match⟩
def regL (l : List TChange) : List TRegion := (l.filter fun c => Sb c.Mod.Match).map regOf
theorem mem_regL {l : List TChange} {R : TRegion} : R ∈ regL l ↔ ∃ c ∈ l, Sb c.Mod.Match = true ∧ regOf c = R := by
  unfold regL
  rw [List.mem_map]
  exact ⟨fun ⟨c, h, e⟩ => ⟨c, (List.mem_filter.1 h).1, (List.mem_filter.1 h).2, e⟩, fun ⟨c, h, hs, e⟩ => ⟨c, List.mem_filter.2 ⟨h, hs⟩, e⟩⟩
theorem regL_SD {l : List TChange} (hl : RCh l) {R : TRegion} (h : R ∈ regL l) : SD R.Cube := by
  obtain ⟨c, hc, hs, rfl⟩ := mem_regL.1 h
  exact (Sb_iff (hl c hc)).1 hs
theorem regL_len (l : List TChange) : (regL l).length ≤ l.length := by
  unfold regL
  rw [List.length_map]
  exact List.length_filter_le _ _
theorem Of_l0 (k : Nat) (hk : 12 < k) {l : List TChange} (hl : RCh l) (hl2 : l.length ≤ 100000) : ∀ (r n m : Nat) (out : List TRegion), n + r = l.length → r < m → out.length ≤ n →
    region_Of.l0 k l m out (n : Int) = some (out ++ regL (l.drop n))
  | r, n, 0, _, _, h, _ => by omega
  | 0, n, m + 1, out, hn, _, _ => by
    rw [region_Of.l0, if_neg (by simp only [decide_eq_true_eq]; omega), List.drop_eq_nil_of_le (by omega)]
    simp [regL]
  | r + 1, n, m + 1, out, hn, hm, ho => by
    have h : n < l.length := by omega
    have e : regL (l.drop n) = (if Sb l[n].Mod.Match then [regOf l[n]] else []) ++ regL (l.drop (n + 1)) := by
      rw [List.drop_eq_getElem_cons h]
      unfold regL
      rw [List.filter_cons]
      cases Sb l[n].Mod.Match <;> simp
    rw [region_Of.l0, if_pos (by simp only [decide_eq_true_eq]; omega), idx_nat h, Option.bind_some, cube_Sound_at hk (hl _ (List.getElem_mem h)), Option.bind_some, e]
    cases Sb l[n].Mod.Match
    · simp only [Bool.false_eq_true, if_false, Option.bind_some, List.nil_append]
      rw [inc n (by omega), Of_l0 k hk hl hl2 r (n + 1) m out (by omega) (by omega) (by omega)]
    · simp only [if_true]
      rw [app_some (by rw [List.length_singleton]; omega)]
      simp only [Option.bind_some]
      rw [inc n (by omega), Of_l0 k hk hl hl2 r (n + 1) m _ (by omega) (by omega) (by rw [List.length_append, List.length_singleton]; omega), List.append_assoc]
      rfl
def oneR (l : List TChange) : List TRegion := DDR ((regL l).mergeSort leR) ((regL l).mergeSort leR).length
def moreR (R x : TRegion) : Bool := if !decide (x = R) && (x.Unit == R.Unit) then wC R.Cube x.Cube && (Sb R.Cube && Sb x.Cube) else false
def keepR (L : List TRegion) (R : TRegion) : Bool := !(L.any fun x => moreR R x)
def ofC (l : List TChange) : List TRegion := (oneR l).filter (keepR (oneR l))
theorem oneR_len (l : List TChange) : (oneR l).length ≤ l.length := by
  have h1 := DDR_len ((regL l).mergeSort leR) ((regL l).mergeSort leR).length
  have h2 := regL_len l
  unfold oneR
  rw [List.length_mergeSort] at h1 ⊢
  omega
theorem ofC_len (l : List TChange) : (ofC l).length ≤ l.length := Nat.le_trans (List.length_filter_le _ _) (oneR_len l)
theorem mem_oneR {l : List TChange} {x : TRegion} : x ∈ oneR l ↔ x ∈ regL l := by
  unfold oneR
  rw [DDR_mem _ _ _ (Nat.le_refl _), List.take_length, sortR_mem]
theorem ofC_sorted (l : List TChange) : (ofC l).Pairwise ltR := (DDR_sorted (sortR_sorted _) _ (Nat.le_refl _)).filter _
theorem mem_ofC {l : List TChange} (hl : RCh l) {R : TRegion} : R ∈ ofC l ↔ R ∈ regL l ∧ ∀ x ∈ regL l, x.Unit = R.Unit → wC R.Cube x.Cube = true → x = R := by
  unfold ofC
  rw [List.mem_filter, mem_oneR]
  unfold keepR
  rw [Bool.not_eq_true', List.any_eq_false]
  constructor
  · rintro ⟨h1, h2⟩
    refine ⟨h1, fun x hx hu hw => ?_⟩
    have h3 := h2 x (mem_oneR.2 hx)
    unfold moreR at h3
    have s1 := (Sb_iff (regL_SD hl h1).rc).2 (regL_SD hl h1)
    have s2 := (Sb_iff (regL_SD hl hx).rc).2 (regL_SD hl hx)
    rw [hu, hw, s1, s2] at h3
    by_cases e : x = R
    · exact e
    · simp [e] at h3
  · rintro ⟨h1, h2⟩
    refine ⟨h1, fun x hx h => ?_⟩
    unfold moreR at h
    by_cases e : x = R
    · simp [e] at h
    · by_cases hu : x.Unit = R.Unit
      · simp only [e, hu, decide_false, Bool.not_false, beq_self_eq_true, Bool.and_self, if_true, Bool.and_eq_true] at h
        exact e (h2 x (mem_oneR.1 hx) hu h.1)
      · simp [hu] at h
theorem Of_l1 (k : Nat) {L : List TRegion} (hk : 12 < k) (hL : ∀ R ∈ L, RC R.Cube) (hl : L.length < k) (hl2 : L.length ≤ 100000) : ∀ (r n m : Nat) (out : List TRegion), n + r = L.length → r < m → out.length ≤ n →
    region_Of.l1 k L m out (n : Int) = some (out ++ (L.drop n).filter (keepR L))
  | r, n, 0, _, _, h, _ => by omega
  | 0, n, m + 1, out, hn, _, _ => by
    rw [region_Of.l1, if_neg (by simp only [decide_eq_true_eq]; omega), List.drop_eq_nil_of_le (by omega), List.filter_nil, List.append_nil]
  | r + 1, n, m + 1, out, hn, hm, ho => by
    have h : n < L.length := by omega
    have hR := hL _ (List.getElem_mem h)
    rw [region_Of.l1, if_pos (by simp only [decide_eq_true_eq]; omega), idx_nat h, Option.bind_some, ContainsFuncR_at (q := fun x => moreR L[n] x) (fun x hx => by
      unfold region_Of_1 moreR
      rw [cellsEq_decR]
      cases !decide (x = L[n]) && (x.Unit == L[n].Unit)
      · rfl
      · simp only [if_true]
        rw [cube_Within_at hk hR (hL x hx)]; rfl) (by omega) hl, Option.bind_some, List.drop_eq_getElem_cons h, List.filter_cons]
    have ek : keepR L L[n] = !(L.any fun x => moreR L[n] x) := rfl
    rw [ek]
    cases L.any fun x => moreR L[n] x
    · simp only [Bool.not_false, if_true]
      rw [app_some (by rw [List.length_singleton]; omega)]
      simp only [Option.bind_some]
      rw [inc n (by omega), Of_l1 k hk hL hl hl2 r (n + 1) m _ (by omega) (by omega) (by rw [List.length_append, List.length_singleton]; omega)]
      simp
    · simp only [Option.bind_some, Bool.not_true, Bool.false_eq_true, if_false]
      rw [inc n (by omega), Of_l1 k hk hL hl hl2 r (n + 1) m _ (by omega) (by omega) (by omega)]
theorem region_Of_at {k : Nat} (hk : 12 < k) {l : List TChange} (hl : RCh l) (hlk : l.length < k) (hl2 : l.length ≤ 100000) : region_Of k l = some (ofC l) := by
  unfold region_Of
  have h0 := Of_l0 k hk hl hl2 l.length 0 k [] (by omega) hlk (by simp)
  rw [show ((0 : Nat) : Int) = 0 from rfl, List.drop_zero, List.nil_append] at h0
  have h1 := regL_len l
  have h2 := oneR_len l
  rw [h0, Option.bind_some, SortFuncR_at hk (by omega), Option.bind_some, CompactR_at (by rw [List.length_mergeSort]; omega) (by rw [List.length_mergeSort]; omega), Option.bind_some]
  have h3 := Of_l1 k hk (L := oneR l) (fun R hR => (regL_SD hl (mem_oneR.1 hR)).rc) (by omega) (by omega) (oneR l).length 0 k [] (by omega) (by omega) (by simp)
  rw [show ((0 : Nat) : Int) = 0 from rfl, List.drop_zero, List.nil_append] at h3
  show (region_Of.l1 k (oneR l) k [] 0).bind _ = _
  rw [h3]
  rfl
/-- Above each sound region there is one that is kept. -/
theorem aboveR {l : List TChange} (hl : RCh l) : ∀ (n : Nat) (R : TRegion), (((regL l).filter fun x => (x.Unit == R.Unit) && wC R.Cube x.Cube && !decide (x = R)).length ≤ n) → R ∈ regL l → ∃ x ∈ ofC l, x.Unit = R.Unit ∧ wC R.Cube x.Cube = true
  | n, R, hn, hR => by
    have hS := regL_SD hl hR
    by_cases h : ∀ x ∈ regL l, x.Unit = R.Unit → wC R.Cube x.Cube = true → x = R
    · exact ⟨R, (mem_ofC hl).2 ⟨hR, h⟩, rfl, wC_refl hS.rc⟩
    · have ⟨d, hd⟩ : ∃ d, d ∈ regL l ∧ d.Unit = R.Unit ∧ wC R.Cube d.Cube = true ∧ d ≠ R := by
        apply Classical.byContradiction
        intro h'
        exact h fun d h1 h2 h3 => Classical.byContradiction fun h4 => h' ⟨d, h1, h2, h3, h4⟩
      obtain ⟨h1, h2, h3, h4⟩ := hd
      have hdS := regL_SD hl h1
      have hlt : ((regL l).filter fun x => (x.Unit == d.Unit) && wC d.Cube x.Cube && !decide (x = d)).length < ((regL l).filter fun x => (x.Unit == R.Unit) && wC R.Cube x.Cube && !decide (x = R)).length := by
        have hsub : ∀ e ∈ regL l, ((e.Unit == d.Unit) && wC d.Cube e.Cube && !decide (e = d)) = true → ((e.Unit == R.Unit) && wC R.Cube e.Cube && !decide (e = R)) = true := fun e he hh => by
          simp only [Bool.and_eq_true, Bool.not_eq_true', decide_eq_false_iff_not, beq_iff_eq] at hh ⊢
          have heS := regL_SD hl he
          refine ⟨⟨hh.1.1.trans h2, wC_trans hS.rc hdS.rc heS.rc h3 hh.1.2⟩, fun h5 => ?_⟩
          subst h5
          apply h4
          have := wC_anti hdS hS hh.1.2 h3
          cases d; cases e
          simp_all
        have e1 : ((regL l).filter fun x => (x.Unit == d.Unit) && wC d.Cube x.Cube && !decide (x = d)) = ((regL l).filter fun x => (x.Unit == R.Unit) && wC R.Cube x.Cube && !decide (x = R)).filter (fun x => (x.Unit == d.Unit) && wC d.Cube x.Cube && !decide (x = d)) := by
          rw [List.filter_filter]
          refine List.filter_congr fun e he => ?_
          cases hh : ((e.Unit == d.Unit) && wC d.Cube e.Cube && !decide (e = d))
          · rfl
          · rw [hsub e he hh]; rfl
        rw [e1]
        refine List.length_filter_lt_length_iff_exists.2 ⟨d, List.mem_filter.2 ⟨h1, ?_⟩, ?_⟩
        · simp [h2, h3, h4]
        · simp
      match n, hn with
      | 0, hn => omega
      | n + 1, hn =>
        obtain ⟨e, he, hu, hw⟩ := aboveR hl n d (by omega) h1
        exact ⟨e, he, hu.trans h2, wC_trans hS.rc hdS.rc (regL_SD hl ((mem_ofC hl).1 he).1).rc h3 hw⟩
theorem SD_zero : SD TCube.zero := by
  refine (Sb_iff ⟨fun i hi => ?_, fun i hi => ?_⟩).1 (by kernel_rfl)
  · match i, hi with
    | 0, _ | 1, _ | 2, _ | 3, _ | 4, _ | 5, _ | 6, _ | 7, _ | 8, _ | 9, _ | 10, _ | 11, _ => exact U_zero
  · match i, hi with
    | 0, _ | 1, _ | 2, _ | 3, _ | 4, _ | 5, _ | 6, _ | 7, _ | 8, _ | 9, _ | 10, _ | 11, _ => exact U_zero
def ans19 : List TChange := [({ Unit := 2, Mod := TMod.zero } : TChange), ({ Unit := 1, Mod := TMod.zero } : TChange), ({ Unit := 2, Mod := TMod.zero } : TChange)]
theorem ans19_RC : RCh ans19 := fun c hc => by
  simp only [ans19, List.mem_cons, List.not_mem_nil, or_false] at hc
  rcases hc with rfl | rfl | rfl <;> exact SD_zero.rc
theorem ans19_reg : regL ans19 = [⟨2, TCube.zero⟩, ⟨1, TCube.zero⟩, ⟨2, TCube.zero⟩] := by
  have h : Sb TCube.zero = true := by kernel_rfl
  have e : ∀ i, Sb ({ Unit := i, Mod := TMod.zero } : TChange).Mod.Match = true := fun i => h
  unfold regL ans19
  simp only [List.filter_cons, e, if_true, List.filter_nil, List.map_cons, List.map_nil]
  rfl
theorem ans19_of : ofC ans19 = [⟨1, TCube.zero⟩, ⟨2, TCube.zero⟩] := by
  refine sorted_oneR _ _ (ofC_sorted _) ?_ fun x => ?_
  · simp only [List.pairwise_cons, List.mem_singleton, List.not_mem_nil, false_imp_iff, implies_true, List.Pairwise.nil, and_true, forall_eq]
    show cmpL (1 :: keyC TCube.zero) (2 :: keyC TCube.zero) < 0
    rw [cmpL, if_pos (by decide)]
    decide
  · rw [mem_ofC ans19_RC, ans19_reg]
    simp only [List.mem_cons, List.not_mem_nil, or_false]
    constructor
    · rintro ⟨h | h | h, _⟩
      · exact .inr h
      · exact .inl h
      · exact .inr h
    · intro h
      refine ⟨by rcases h with h | h; exact .inr (.inl h); exact .inl h, fun y hy hu hw => ?_⟩
      rcases h with rfl | rfl <;> rcases hy with rfl | rfl | rfl <;> first | rfl | (simp at hu)
theorem answers19 {k : Nat} (hk : 100 < k) : law19_answers k = some true := by
  unfold law19_answers
  have h := region_Of_at (k := k) (by omega) ans19_RC (by simp [ans19]; omega) (by simp [ans19])
  rw [ans19_of] at h
  unfold ans19 at h
  rw [h, Option.bind_some]
  have hz : meets TCube.zero TCube.zero = true := by kernel_rfl
  have hm : ∀ x y : TRegion, x.Cube = TCube.zero → y.Cube = TCube.zero → region_Touch_1_1 k y x = some (x.Unit == y.Unit) := fun x y h1 h2 => by
    unfold region_Touch_1_1
    rw [h1, h2, cube_Meet_at (by omega) SD_zero.rc SD_zero.rc, Option.bind_some]
    unfold meetC
    rw [if_pos hz]
    simp
  have hcube : ∀ x ∈ ([⟨1, TCube.zero⟩, ⟨2, TCube.zero⟩] : List TRegion), x.Cube = TCube.zero := fun x hx => by
    simp only [List.mem_cons, List.not_mem_nil, or_false] at hx
    rcases hx with rfl | rfl <;> rfl
  have ht : region_Touch k [⟨1, TCube.zero⟩, ⟨2, TCube.zero⟩] [⟨1, TCube.zero⟩, ⟨2, TCube.zero⟩] = some true := by
    unfold region_Touch
    rw [ContainsFuncR_at (q := fun x => ([⟨1, TCube.zero⟩, ⟨2, TCube.zero⟩] : List TRegion).any fun y => x.Unit == y.Unit) (fun x hx => by
      unfold region_Touch_1
      rw [ContainsFuncR_at (q := fun y => x.Unit == y.Unit) (fun y hy => by
        exact hm x y (hcube x hx) (hcube y hy)) (by simp) (by simp; omega)]
      rfl) (by simp) (by simp; omega)]
    rfl
  rw [if_pos (by rfl), show idx ([⟨1, TCube.zero⟩, ⟨2, TCube.zero⟩] : List TRegion) 0 = some ⟨1, TCube.zero⟩ from rfl]
  simp only [Option.bind_some, beq_self_eq_true, if_true]
  rw [ht]
  rfl
end Go.Proofs.Ytangebngeeamoaa
