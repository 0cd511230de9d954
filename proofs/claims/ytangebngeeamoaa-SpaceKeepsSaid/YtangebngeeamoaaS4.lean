/- Plain laws on spaces: what is left, what is in both, whether they touch. -/
import Derived.Test.YtangebngeeamoaaS3
import Derived.KernelRfl
set_option linter.unusedVariables false
set_option linter.unusedSimpArgs false
set_option maxRecDepth 100000
namespace Go.Proofs.Ytangebngeeamoaa
open Go.RowKit Go.Pod

/-- What some of them hold. -/
def hasS (s : List TCube) (u : Arr 12) : Bool := s.any fun c => hasC c u
def RCs (s : List TCube) : Prop := ∀ c ∈ s, RC c
def SDs (s : List TCube) : Prop := ∀ c ∈ s, SD c
theorem SDs.rc {s : List TCube} (h : SDs s) : RCs s := fun c hc => (h c hc).rc
theorem SDs.sb {s : List TCube} (h : SDs s) : ∀ c ∈ s, Sb c = true := fun c hc => (Sb_iff (h c hc).rc).2 (h c hc)
def soundS (s : List TCube) : Bool := decide (s.length ≤ 64) && s.all Sb
theorem soundS_iff {s : List TCube} (hs : RCs s) : soundS s = true ↔ s.length ≤ 64 ∧ SDs s := by
  unfold soundS
  rw [Bool.and_eq_true_iff, decide_eq_true_eq, List.all_eq_true]
  exact ⟨fun ⟨h1, h2⟩ => ⟨h1, fun c hc => (Sb_iff (hs c hc)).1 (h2 c hc)⟩, fun ⟨h1, h2⟩ => ⟨h1, h2.sb⟩⟩
theorem hasS_append (a b : List TCube) (u : Arr 12) : hasS (a ++ b) u = (hasS a u || hasS b u) := List.any_append
theorem hasS_lean {s : List TCube} (hs : RCs s) {u : Arr 12} (hu : RG u) : hasS (leanC s) u = hasS s u := leanC_has hs hu
theorem leanC_SDs {s : List TCube} (hs : RCs s) : SDs (leanC s) := leanC_RC hs
/-- A sound cube holds a header. -/
theorem SD.holds {c : TCube} (h : SD c) : RG c.Value ∧ hasC c c.Value = true := by
  have hu : RG c.Value := h.rc.v
  refine ⟨hu, (hasC_iff h.rc hu).2 ⟨h, ?_, fun q hq hb => rfl⟩⟩
  rw [HSb_iff hu]
  exact fun i j hi hj => h.hiv hi hj
theorem none_of_has {s : List TCube} (hs : SDs s) (h : ∀ u, RG u → hasS s u = false) : s = [] := by
  cases s with
  | nil => rfl
  | cons c s =>
    have h1 := (hs c (by simp)).holds
    have h2 := h c.Value h1.1
    unfold hasS at h2
    rw [List.any_cons, h1.2] at h2
    cases h2
/-! ### The program's functions -/
theorem space_Sound_at {k : Nat} (hk : 100 < k) {s : List TCube} (hs : RCs s) : space_Sound k s = some (soundS s) := by
  unfold space_Sound soundS
  by_cases h : s.length ≤ 64
  · rw [if_pos (by simp only [decide_eq_true_eq]; omega), ContainsFunc_at (q := fun c => !Sb c) (fun x hx => by unfold space_Sound_1; rw [cube_Sound_at (by omega) (hs x hx)]; rfl) (by omega) (by omega)]
    simp only [Option.bind_some, h, decide_true, Bool.true_and, Option.some.injEq]
    rw [Bool.eq_iff_iff, Bool.not_eq_true', List.any_eq_false, List.all_eq_true]
    simp
  · rw [if_neg (by simp only [decide_eq_true_eq]; omega)]
    simp [h]
theorem space_Has_at {k : Nat} (hk : 12 < k) {s : List TCube} (hs : RCs s) {u : Arr 12} (hu : RG u) (hl : s.length < k) (hl2 : s.length ≤ 100000) : space_Has k s u = some (hasS s u) := by
  unfold space_Has
  rw [ContainsFunc_at (q := fun c => hasC c u) (fun x hx => by unfold space_Has_1; rw [cube_Has_at hk (hs x hx) hu]; rfl) (by omega) hl]
  rfl
theorem space_lean_at {k : Nat} (hk : 12 < k) {s : List TCube} (hs : RCs s) (hl : s.length < k) (hl2 : s.length ≤ 100000) : space_lean k s = some (if 64 < (leanC s).length then ([], 3) else (leanC s, 0)) := by
  unfold space_lean
  rw [space_Lean_at hk hs hl hl2, Option.bind_some]
  by_cases h : 64 < (leanC s).length
  · rw [if_pos (by simp only [decide_eq_true_eq]; omega), if_pos h]
  · rw [if_neg (by simp only [decide_eq_true_eq]; omega), if_neg h]
/-- What a list of cubes leaves without one. -/
def lessA (left : List TCube) (y : TCube) : List TCube := left.flatMap fun x => lessC x y
theorem flatMap_len {α β : Type} (f : α → List β) (b : Nat) (h : ∀ x, (f x).length ≤ b) : ∀ l : List α, (l.flatMap f).length ≤ l.length * b
  | [] => by simp
  | x :: l => by
    rw [List.flatMap_cons, List.length_append, List.length_cons, Nat.add_mul, Nat.one_mul]
    have := flatMap_len f b h l
    have := h x
    omega
theorem lessA_len (left : List TCube) (y : TCube) : (lessA left y).length ≤ left.length * 248 := flatMap_len _ 248 (fun x => lessC_len x y) left
theorem lessA_RC {left : List TCube} (h : RCs left) (y : TCube) : RCs (lessA left y) := fun c hc => by
  obtain ⟨x, hx, hc⟩ := List.mem_flatMap.1 hc
  exact lessC_RC (h x hx) c hc
theorem has_lessC {c d : TCube} (hc : RC c) (hd : SD d) {u : Arr 12} (hu : RG u) : (lessC c d).any (fun x => hasC x u) = (hasC c u && !hasC d u) := by
  have h := cnt_less hc hd.rc hu
  rw [(Sb_iff hd.rc).2 hd, Bool.and_true] at h
  unfold cnt at h
  rw [Bool.eq_iff_iff, List.any_eq_true]
  constructor
  · rintro ⟨x, hx, hh⟩
    have : 0 < ((lessC c d).filter fun x => hasC x u).length := List.length_pos_of_mem (List.mem_filter.2 ⟨hx, hh⟩)
    rw [h] at this
    cases hb : (hasC c u && !hasC d u)
    · rw [hb] at this; simp at this
    · rfl
  · intro hb
    rw [hb] at h
    have : 0 < ((lessC c d).filter fun x => hasC x u).length := by rw [h]; decide
    obtain ⟨x, hx⟩ := List.exists_mem_of_length_pos this
    exact ⟨x, (List.mem_filter.1 hx).1, (List.mem_filter.1 hx).2⟩
theorem has_lessA {left : List TCube} (h : RCs left) {y : TCube} (hy : SD y) {u : Arr 12} (hu : RG u) : hasS (lessA left y) u = (hasS left u && !hasC y u) := by
  unfold hasS lessA
  rw [List.any_flatMap, Bool.eq_iff_iff, List.any_eq_true, Bool.and_eq_true_iff, List.any_eq_true]
  constructor
  · rintro ⟨x, hx, hh⟩
    rw [has_lessC (h x hx) hy hu, Bool.and_eq_true_iff] at hh
    exact ⟨⟨x, hx, hh.1⟩, hh.2⟩
  · rintro ⟨⟨x, hx, h1⟩, h2⟩
    exact ⟨x, hx, by rw [has_lessC (h x hx) hy hu, h1, h2]; rfl⟩
def lessF : List TCube → List TCube → Option (List TCube)
  | left, [] => some left
  | left, y :: ys => if 64 < (leanC (lessA left y)).length then none else lessF (leanC (lessA left y)) ys
theorem Less_l1 (k : Nat) (hk : 64 < k) {left : List TCube} {y : TCube} (hl : RCs left) (hy : RC y) (hlen : left.length ≤ 64) : ∀ (r n m : Nat) (out : List TCube), n + r = left.length → r < m → out.length ≤ n * 248 →
    space_Less.l1 k left y m out (n : Int) = some (out ++ lessA (left.drop n) y)
  | r, n, 0, _, _, h, _ => by omega
  | 0, n, m + 1, out, hn, _, _ => by
    rw [space_Less.l1, if_neg (by simp only [decide_eq_true_eq]; omega), List.drop_eq_nil_of_le (by omega)]
    simp [lessA]
  | r + 1, n, m + 1, out, hn, hm, ho => by
    have h : n < left.length := by omega
    have h248 := lessC_len left[n] y
    have hx := hl _ (List.getElem_mem h)
    rw [space_Less.l1, if_pos (by simp only [decide_eq_true_eq]; omega), idx_nat h, Option.bind_some, cube_Less_at hk hx hy, Option.bind_some, app_some (by omega), Option.bind_some, inc n (by omega),
      Less_l1 k hk hl hy hlen r (n + 1) m _ (by omega) (by omega) (by rw [List.length_append]; omega), List.drop_eq_getElem_cons h]
    unfold lessA
    rw [List.flatMap_cons, List.append_assoc]
theorem Less_l0 (k : Nat) (hk : 20000 < k) {b : List TCube} (hb : RCs b) (hbl : b.length ≤ 64) : ∀ (r n m : Nat) (left : List TCube), n + r = b.length → r < m → RCs left → left.length ≤ 64 →
    space_Less.l0 k b m left (n : Int) = some (match lessF left (b.drop n) with | some l => .brk l | none => .ret ([], 3))
  | r, n, 0, _, _, h, _, _ => by omega
  | 0, n, m + 1, left, hn, _, _, _ => by
    rw [space_Less.l0, if_neg (by simp only [decide_eq_true_eq]; omega), List.drop_eq_nil_of_le (by omega)]
    rfl
  | r + 1, n, m + 1, left, hn, hm, hl, hll => by
    have h : n < b.length := by omega
    have hy := hb _ (List.getElem_mem h)
    have hA := lessA_len left b[n]
    have hAR := lessA_RC hl b[n]
    have h1 := Less_l1 k (by omega) hl hy hll left.length 0 k [] (by omega) (by omega) (by simp)
    rw [show ((0 : Nat) : Int) = 0 from rfl, List.nil_append, List.drop_zero] at h1
    rw [space_Less.l0, if_pos (by simp only [decide_eq_true_eq]; omega), idx_nat h, Option.bind_some, h1, Option.bind_some, space_lean_at (by omega) hAR (by omega) (by omega), Option.bind_some, List.drop_eq_getElem_cons h]
    rw [lessF]
    by_cases h64 : 64 < (leanC (lessA left b[n])).length
    · rw [if_pos h64, if_pos h64]; rfl
    · rw [if_neg h64, if_neg h64]
      simp only [bne_self_eq_false, Bool.false_eq_true, if_false]
      rw [inc n (by omega)]
      exact Less_l0 k hk hb hbl r (n + 1) m _ (by omega) (by omega) (leanC_SDs hAR).rc (by omega)
def lessS (a b : List TCube) : List TCube × Int := if soundS a && soundS b then (match lessF (leanC a) b with | some l => (l, 0) | none => ([], 3)) else ([], 2)
theorem space_Less_at {k : Nat} (hk : 20000 < k) {a b : List TCube} (ha : RCs a) (hb : RCs b) : space_Less k a b = some (lessS a b) := by
  unfold space_Less lessS
  rw [space_Sound_at (by omega) ha, Option.bind_some, space_Sound_at (by omega) hb]
  cases hsa : soundS a
  · rfl
  · cases hsb : soundS b
    · rfl
    · have h1 := (soundS_iff ha).1 hsa
      have h2 := (soundS_iff hb).1 hsb
      have h3 := leanC_len a
      simp only [Bool.not_true, Bool.false_eq_true, if_false, Option.bind_some, Bool.and_self, if_true]
      rw [space_Lean_at (by omega) ha (by omega) (by omega), Option.bind_some]
      have h4 := Less_l0 k hk hb h2.1 b.length 0 k (leanC a) (by omega) (by omega) (leanC_SDs ha).rc (by omega)
      rw [show ((0 : Nat) : Int) = 0 from rfl, List.drop_zero] at h4
      rw [h4, Option.bind_some]
      cases lessF (leanC a) b <;> rfl
theorem lessF_spec : ∀ (b left l : List TCube), SDs left → SDs b → lessF left b = some l → SDs l ∧ ∀ u, RG u → hasS l u = (hasS left u && !hasS b u)
  | [], left, l, hl, _, h => by
    cases h
    exact ⟨hl, fun u _ => by simp [hasS]⟩
  | y :: b, left, l, hl, hb, h => by
    unfold lessF at h
    split at h
    · cases h
    · have hA := lessA_RC hl.rc y
      have hy := hb y (by simp)
      obtain ⟨h1, h2⟩ := lessF_spec b _ l (leanC_SDs hA) (fun c hc => hb c (by simp [hc])) h
      refine ⟨h1, fun u hu => ?_⟩
      rw [h2 u hu, hasS_lean hA hu, has_lessA hl.rc hy hu]
      unfold hasS
      rw [List.any_cons]
      cases left.any fun c => hasC c u <;> cases hasC y u <;> simp
/-- What is left of a without b, if nothing was refused. -/
theorem lessS_spec {a b : List TCube} (ha : RCs a) (hb : RCs b) (h : (lessS a b).2 = 0) : SDs (lessS a b).1 ∧ (∀ u, RG u → hasS (lessS a b).1 u = (hasS a u && !hasS b u)) ∧ SDs a ∧ SDs b := by
  unfold lessS at h ⊢
  cases hs : soundS a && soundS b
  · rw [hs] at h
    cases h
  · rw [hs] at h
    simp only [if_true] at h ⊢
    rw [Bool.and_eq_true_iff] at hs
    have hSa := ((soundS_iff ha).1 hs.1).2
    have hSb := ((soundS_iff hb).1 hs.2).2
    cases hl : lessF (leanC a) b with
    | none => rw [hl] at h; cases h
    | some l =>
      obtain ⟨h1, h2⟩ := lessF_spec b (leanC a) l (leanC_SDs ha) hSb hl
      exact ⟨h1, fun u hu => by rw [h2 u hu, hasS_lean ha hu], hSa, hSb⟩
theorem lessF_len : ∀ (b left l : List TCube), left.length ≤ 64 → lessF left b = some l → l.length ≤ 64
  | [], left, l, hl, h => by cases h; exact hl
  | y :: b, left, l, hl, h => by
    unfold lessF at h
    split at h
    · cases h
    · exact lessF_len b _ l (by omega) h
theorem lessS_len {a b : List TCube} : (lessS a b).1.length ≤ 64 := by
  unfold lessS
  cases hs : soundS a && soundS b
  · simp
  · simp only [if_true]
    cases hl : lessF (leanC a) b with
    | none => simp
    | some l =>
      have h1 : a.length ≤ 64 := by
        rw [Bool.and_eq_true_iff] at hs
        unfold soundS at hs
        simpa using (Bool.and_eq_true_iff.1 hs.1).1
      have h2 := leanC_len a
      exact lessF_len b _ l (by omega) hl
theorem lessS_RC {a b : List TCube} (ha : RCs a) (hb : RCs b) : RCs (lessS a b).1 := by
  by_cases h : (lessS a b).2 = 0
  · exact (lessS_spec ha hb h).1.rc
  · intro c hc
    exfalso
    revert h hc
    unfold lessS
    cases soundS a && soundS b
    · simp
    · simp only [if_true]
      cases lessF (leanC a) b <;> simp
theorem space_Within_at {k : Nat} (hk : 20000 < k) {a b : List TCube} (ha : RCs a) (hb : RCs b) : space_Within k a b = some ((lessS a b).2 == 0 && ((lessS a b).1.length : Int) == 0, (lessS a b).2) := by
  unfold space_Within
  rw [space_Less_at hk ha hb]; rfl
/-- If nothing is refused and nothing of a is outside b, all is within. -/
theorem within_all {a b : List TCube} (ha : RCs a) (hb : RCs b) (h : ∀ u, RG u → (hasS a u && !hasS b u) = false) : ((lessS a b).2 != 0 || ((lessS a b).2 == 0 && ((lessS a b).1.length : Int) == 0)) = true := by
  by_cases he : (lessS a b).2 = 0
  · obtain ⟨h1, h2, _⟩ := lessS_spec ha hb he
    have := none_of_has h1 fun u hu => by rw [h2 u hu]; exact h u hu
    rw [this, he]; rfl
  · simp [he]
/-! ### Touch -/
def touchS (a b : List TCube) : Bool := a.any fun x => b.any fun y => meets x y
theorem Touch_l0 (k : Nat) {a b : List TCube} (hk : 12 < k) (ha : RCs a) (hb : RCs b) (hal : a.length ≤ 100000) (hbl : b.length < k) (hbl2 : b.length ≤ 100000) : ∀ (r n m : Nat), n + r = a.length → r < m →
    space_Touch.l0 k a b m (n : Int) = some (if touchS (a.drop n) b then .ret true else .brk ())
  | r, n, 0, _, h => by omega
  | 0, n, m + 1, hn, _ => by
    rw [space_Touch.l0, if_neg (by simp only [decide_eq_true_eq]; omega), List.drop_eq_nil_of_le (by omega)]; rfl
  | r + 1, n, m + 1, hn, hm => by
    have h : n < a.length := by omega
    have hx := ha _ (List.getElem_mem h)
    rw [space_Touch.l0, if_pos (by simp only [decide_eq_true_eq]; omega), idx_nat h, Option.bind_some, ContainsFunc_at (q := fun y => meets a[n] y) (fun y hy => by
      unfold space_Touch_1
      rw [cube_Meet_at hk hx (hb y hy), Option.bind_some]
      unfold meetC
      cases meets a[n] y <;> rfl) (by omega) hbl, Option.bind_some, List.drop_eq_getElem_cons h]
    unfold touchS
    rw [List.any_cons]
    cases hb' : b.any fun y => meets a[n] y
    · simp only [Bool.false_eq_true, if_false, Bool.false_or]
      rw [inc n (by omega)]
      exact Touch_l0 k hk ha hb hal hbl hbl2 r (n + 1) m (by omega) (by omega)
    · simp
theorem space_Touch_at {k : Nat} (hk : 12 < k) {a b : List TCube} (ha : RCs a) (hb : RCs b) (hal : a.length < k) (hal2 : a.length ≤ 100000) (hbl : b.length < k) (hbl2 : b.length ≤ 100000) : space_Touch k a b = some (touchS a b) := by
  unfold space_Touch
  have := Touch_l0 k hk ha hb hal2 hbl hbl2 a.length 0 k (by omega) hal
  rw [show ((0 : Nat) : Int) = 0 from rfl, List.drop_zero] at this
  rw [this]
  cases touchS a b <;> rfl
theorem touch_has {a b : List TCube} (ha : RCs a) (hb : RCs b) (h : touchS a b = true) : ∃ u, RG u ∧ hasS a u = true ∧ hasS b u = true := by
  unfold touchS at h
  obtain ⟨x, hx, h⟩ := List.any_eq_true.1 h
  obtain ⟨y, hy, h⟩ := List.any_eq_true.1 h
  obtain ⟨h1, h2, _⟩ := (meets_iff (ha x hx) (hb y hy)).1 h
  have hs := (orC_SD h1 h2).holds
  have := has_meet (ha x hx) (hb y hy) hs.1 h
  rw [hs.2] at this
  have := Bool.and_eq_true_iff.1 this.symm
  exact ⟨_, hs.1, List.any_eq_true.2 ⟨x, hx, this.1⟩, List.any_eq_true.2 ⟨y, hy, this.2⟩⟩
theorem has_touch {a b : List TCube} (ha : RCs a) (hb : RCs b) {u : Arr 12} (hu : RG u) (h1 : hasS a u = true) (h2 : hasS b u = true) : touchS a b = true := by
  obtain ⟨x, hx, h1⟩ := List.any_eq_true.1 h1
  obtain ⟨y, hy, h2⟩ := List.any_eq_true.1 h2
  exact List.any_eq_true.2 ⟨x, hx, List.any_eq_true.2 ⟨y, hy, meets_of_has (ha x hx) (hb y hy) hu h1 h2⟩⟩
theorem apart {a b : List TCube} (ha : RCs a) (hb : RCs b) (h : ∀ u, RG u → (hasS a u && hasS b u) = false) : touchS a b = false := by
  cases ht : touchS a b
  · rfl
  · obtain ⟨u, hu, h1, h2⟩ := touch_has ha hb ht
    have := h u hu
    rw [h1, h2] at this; cases this
/-! ### Meet -/
def meetR (x : TCube) (b : List TCube) : List TCube := (b.filter fun y => meets x y).map fun y => orC x y
def meetA (a b : List TCube) : List TCube := a.flatMap fun x => meetR x b
theorem meetR_len (x : TCube) (b : List TCube) : (meetR x b).length ≤ b.length := by
  unfold meetR
  rw [List.length_map]
  exact List.length_filter_le _ _
theorem meetA_len (a b : List TCube) : (meetA a b).length ≤ a.length * b.length := flatMap_len _ _ (fun x => meetR_len x b) a
theorem Meet_l1 (k : Nat) (hk : 12 < k) {b : List TCube} {x : TCube} (hb : RCs b) (hx : RC x) (hbl : b.length ≤ 64) : ∀ (r n m : Nat) (out : List TCube), n + r = b.length → r < m → out.length ≤ 100000 + n →
    space_Meet.l1 k b x m out (n : Int) = some (out ++ meetR x (b.drop n))
  | r, n, 0, _, _, h, _ => by omega
  | 0, n, m + 1, out, hn, _, _ => by
    rw [space_Meet.l1, if_neg (by simp only [decide_eq_true_eq]; omega), List.drop_eq_nil_of_le (by omega)]
    simp [meetR]
  | r + 1, n, m + 1, out, hn, hm, ho => by
    have h : n < b.length := by omega
    have hy := hb _ (List.getElem_mem h)
    have e : meetR x (b.drop n) = (if meets x b[n] then [orC x b[n]] else []) ++ meetR x (b.drop (n + 1)) := by
      rw [List.drop_eq_getElem_cons h]
      unfold meetR
      rw [List.filter_cons]
      cases meets x b[n] <;> simp
    rw [space_Meet.l1, if_pos (by simp only [decide_eq_true_eq]; omega), idx_nat h, Option.bind_some, cube_Meet_at hk hx hy, Option.bind_some, e]
    unfold meetC
    cases meets x b[n]
    · simp only [Bool.false_eq_true, if_false, Option.bind_some, List.nil_append]
      rw [inc n (by omega), Meet_l1 k hk hb hx hbl r (n + 1) m out (by omega) (by omega) (by omega)]
    · simp only [if_true]
      rw [app_some (by rw [List.length_singleton]; omega)]
      simp only [Option.bind_some]
      rw [inc n (by omega), Meet_l1 k hk hb hx hbl r (n + 1) m _ (by omega) (by omega) (by rw [List.length_append, List.length_singleton]; omega), List.append_assoc]
theorem Meet_l0 (k : Nat) (hk : 64 < k) {a b : List TCube} (ha : RCs a) (hb : RCs b) (hal : a.length ≤ 64) (hbl : b.length ≤ 64) : ∀ (r n m : Nat) (out : List TCube), n + r = a.length → r < m → out.length ≤ n * 64 →
    space_Meet.l0 k a b m out (n : Int) = some (out ++ meetA (a.drop n) b)
  | r, n, 0, _, _, h, _ => by omega
  | 0, n, m + 1, out, hn, _, _ => by
    rw [space_Meet.l0, if_neg (by simp only [decide_eq_true_eq]; omega), List.drop_eq_nil_of_le (by omega)]
    simp [meetA]
  | r + 1, n, m + 1, out, hn, hm, ho => by
    have h : n < a.length := by omega
    have h1 := Meet_l1 k (by omega) hb (ha _ (List.getElem_mem h)) hbl b.length 0 k out (by omega) (by omega) (by omega)
    rw [show ((0 : Nat) : Int) = 0 from rfl, List.drop_zero] at h1
    have h2 := meetR_len a[n] b
    rw [space_Meet.l0, if_pos (by simp only [decide_eq_true_eq]; omega), idx_nat h, Option.bind_some, h1, Option.bind_some, inc n (by omega),
      Meet_l0 k hk ha hb hal hbl r (n + 1) m _ (by omega) (by omega) (by rw [List.length_append]; omega), List.drop_eq_getElem_cons h]
    unfold meetA
    rw [List.flatMap_cons, List.append_assoc]
theorem meetA_RC {a b : List TCube} : RCs (meetA a b) := fun c hc => by
  obtain ⟨x, _, hc⟩ := List.mem_flatMap.1 hc
  obtain ⟨y, _, rfl⟩ := List.mem_map.1 hc
  exact orC_RC x y
def meetS (a b : List TCube) : List TCube × Int := if soundS a && soundS b then (if 64 < (leanC (meetA a b)).length then ([], 3) else (leanC (meetA a b), 0)) else ([], 2)
theorem space_Meet_at {k : Nat} (hk : 20000 < k) {a b : List TCube} (ha : RCs a) (hb : RCs b) : space_Meet k a b = some (meetS a b) := by
  unfold space_Meet meetS
  rw [space_Sound_at (by omega) ha, Option.bind_some, space_Sound_at (by omega) hb]
  cases hsa : soundS a
  · rfl
  · cases hsb : soundS b
    · rfl
    · have h1 := (soundS_iff ha).1 hsa
      have h2 := (soundS_iff hb).1 hsb
      have h3 := meetA_len a b
      have h5 : a.length * b.length ≤ 64 * 64 := Nat.mul_le_mul h1.1 h2.1
      simp only [Bool.not_true, Bool.false_eq_true, if_false, Option.bind_some, Bool.and_self, if_true]
      have h4 := Meet_l0 k (by omega) ha hb h1.1 h2.1 a.length 0 k [] (by omega) (by omega) (by simp)
      rw [show ((0 : Nat) : Int) = 0 from rfl, List.drop_zero, List.nil_append] at h4
      rw [h4, Option.bind_some, space_lean_at (by omega) meetA_RC (by omega) (by omega), Option.bind_some]
theorem has_meetA {a b : List TCube} (ha : RCs a) (hb : RCs b) {u : Arr 12} (hu : RG u) : hasS (meetA a b) u = (hasS a u && hasS b u) := by
  unfold hasS meetA
  rw [List.any_flatMap, Bool.eq_iff_iff, List.any_eq_true, Bool.and_eq_true_iff, List.any_eq_true, List.any_eq_true]
  constructor
  · rintro ⟨x, hx, h⟩
    obtain ⟨z, hz, h⟩ := List.any_eq_true.1 h
    obtain ⟨y, hy, rfl⟩ := List.mem_map.1 hz
    rw [List.mem_filter] at hy
    rw [has_meet (ha x hx) (hb y hy.1) hu hy.2, Bool.and_eq_true_iff] at h
    exact ⟨⟨x, hx, h.1⟩, ⟨y, hy.1, h.2⟩⟩
  · rintro ⟨⟨x, hx, h1⟩, ⟨y, hy, h2⟩⟩
    have hm := meets_of_has (ha x hx) (hb y hy) hu h1 h2
    refine ⟨x, hx, List.any_eq_true.2 ⟨orC x y, List.mem_map.2 ⟨y, List.mem_filter.2 ⟨hy, hm⟩, rfl⟩, ?_⟩⟩
    rw [has_meet (ha x hx) (hb y hy) hu hm, h1, h2]; rfl
theorem meetS_spec {a b : List TCube} (ha : RCs a) (hb : RCs b) (h : (meetS a b).2 = 0) : SDs (meetS a b).1 ∧ (∀ u, RG u → hasS (meetS a b).1 u = (hasS a u && hasS b u)) := by
  unfold meetS at h ⊢
  cases hs : soundS a && soundS b
  · rw [hs] at h; cases h
  · rw [hs] at h
    simp only [if_true] at h ⊢
    by_cases h64 : 64 < (leanC (meetA a b)).length
    · rw [if_pos h64] at h; cases h
    · rw [if_neg h64]
      exact ⟨leanC_SDs meetA_RC, fun u hu => by rw [hasS_lean meetA_RC hu, has_meetA ha hb hu]⟩
theorem meetS_len {a b : List TCube} : (meetS a b).1.length ≤ 64 := by
  unfold meetS
  cases soundS a && soundS b
  · simp
  · simp only [if_true]
    split
    · simp
    · simp only; omega
theorem nonempty_touch {a b : List TCube} (ha : RCs a) (hb : RCs b) (h : (meetS a b).2 = 0) : decide (0 < ((meetS a b).1.length : Int)) = touchS a b := by
  obtain ⟨h1, h2⟩ := meetS_spec ha hb h
  cases ht : touchS a b
  · have : (meetS a b).1 = [] := none_of_has h1 fun u hu => by
      rw [h2 u hu]
      cases hh : hasS a u && hasS b u
      · rfl
      · rw [Bool.and_eq_true_iff] at hh
        rw [has_touch ha hb hu hh.1 hh.2] at ht; cases ht
    rw [this]; rfl
  · obtain ⟨u, hu, h3, h4⟩ := touch_has ha hb ht
    have h5 := h2 u hu
    rw [h3, h4] at h5
    cases hm : (meetS a b).1 with
    | nil => rw [hm] at h5; cases h5
    | cons c s => simp
/-! ### The whole header space -/
theorem SD_zero : SD TCube.zero := by
  refine (Sb_iff ⟨fun i hi => ?_, fun i hi => ?_⟩).1 (by kernel_rfl)
  · match i, hi with
    | 0, _ | 1, _ | 2, _ | 3, _ | 4, _ | 5, _ | 6, _ | 7, _ | 8, _ | 9, _ | 10, _ | 11, _ => exact U_zero
  · match i, hi with
    | 0, _ | 1, _ | 2, _ | 3, _ | 4, _ | 5, _ | 6, _ | 7, _ | 8, _ | 9, _ | 10, _ | 11, _ => exact U_zero
theorem SDs_zero : SDs [TCube.zero] := fun c hc => by rw [List.mem_singleton] at hc; subst hc; exact SD_zero
theorem lean_zero2 : leanC [TCube.zero, TCube.zero] = [TCube.zero] := by
  refine sorted_one _ _ (leanC_sorted _) (by simp) fun x => ?_
  rw [mem_leanC]
  simp only [List.mem_cons, List.not_mem_nil, or_false, or_self]
  exact ⟨fun h => h.1, fun h => ⟨h, by rw [h]; exact (Sb_iff SD_zero.rc).2 SD_zero, fun d hd _ _ => hd.trans h.symm⟩⟩
theorem less_zero : lessS [TCube.zero] [TCube.zero] = ([], 0) := by
  have hs : soundS [TCube.zero] = true := (soundS_iff SDs_zero.rc).2 ⟨by decide, SDs_zero⟩
  have hA : leanC (lessA (leanC [TCube.zero]) TCube.zero) = [] := by
    have h1 : RCs (leanC [TCube.zero]) := (leanC_SDs SDs_zero.rc).rc
    have h2 := lessA_RC h1 TCube.zero
    refine none_of_has (leanC_SDs h2) fun u hu => ?_
    rw [hasS_lean h2 hu, has_lessA h1 SD_zero hu, hasS_lean SDs_zero.rc hu]
    unfold hasS
    simp
  unfold lessS
  rw [hs]
  simp only [Bool.and_self, if_true, lessF, hA, List.length_nil, Nat.not_lt_zero, if_false]
theorem answers3 {k : Nat} (hk : 20000 < k) : law03_answers k = some true := by
  unfold law03_answers
  rw [space_Within_at hk SDs_zero.rc SDs_zero.rc, less_zero]
  simp only [Option.bind_some, List.length_nil]
  rw [if_pos (by decide), space_Has_at (by omega) SDs_zero.rc (u := A12u64.zero) (fun i hi => by
    match i, hi with
    | 0, _ | 1, _ | 2, _ | 3, _ | 4, _ | 5, _ | 6, _ | 7, _ | 8, _ | 9, _ | 10, _ | 11, _ => exact U_zero) (by simp; omega) (by simp)]
  have hh : hasS [TCube.zero] A12u64.zero = true := SD_zero.holds.2 ▸ by
    unfold hasS
    simp only [List.any_cons, List.any_nil, Bool.or_false]
    rfl
  rw [hh]
  simp only [Option.bind_some, if_true]
  rw [space_Lean_at (by omega) (fun c hc => by
    have : c = TCube.zero := by simpa using hc
    rw [this]; exact SD_zero.rc) (by simp; omega) (by simp), lean_zero2]
  rfl
end Go.Proofs.Ytangebngeeamoaa
