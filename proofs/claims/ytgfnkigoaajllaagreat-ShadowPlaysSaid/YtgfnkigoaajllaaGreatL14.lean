/- Plain words for walks: functions that work in place on a row that is handed to them. Nothing of the program in it. -/
import Derived.Test.YtgfnkigoaajllaaGreatL13
import Derived.Lib.SliceRun
set_option linter.unusedVariables false
set_option linter.unusedSimpArgs false
namespace Go.Pod
open Go.RowKit

section
variable {M0 : Nat → Prop} {w0 : World} {bs : List Box} {rs : List Row} {fs : List Fact} {W W' : World}
theorem St.keepT {bs' : List Box} {rs' : List Row} (l : List Fact) {tl : List Fact} (h : St M0 w0 bs rs fs W) (hb : List.Sublist bs' bs) (hr : List.Sublist rs' rs) (hf : Sub l fs) (ht : List.Sublist tl fs) : St M0 w0 bs' rs' (l ++ tl) W :=
  h.less hb hr fun f hf' => (List.mem_append.1 hf').elim (hf.mem f) fun h => ht.subset h
theorem flatten_take {s : Nat} : ∀ (css : List (List Value)) (k : Nat), (∀ c ∈ css, c.length = s) → (css.take k).flatten = css.flatten.take (k * s)
  | [], k, _ => by simp
  | c0 :: css, 0, _ => by simp
  | c0 :: css, k + 1, h => by
    have h0 := h c0 (by simp)
    have e : (k + 1) * s = c0.length + k * s := by rw [h0, Nat.add_mul, Nat.one_mul, Nat.add_comm]
    rw [List.take_succ_cons, List.flatten_cons, List.flatten_cons, flatten_take css k fun c hc => h c (by simp [hc]), e, List.take_length_add_append]
theorem OwnR.trunc {base : Nat} {E : TypeId} {sz : Nat} {A : Option Addr} {c n k : Nat} {cs : List Value} (h : OwnR W base E sz A c n cs) (hk : k ≤ n) : OwnR W base E sz A c k (cs.take (k * sz)) := by
  refine ⟨by rw [List.length_take, h.1]; exact Nat.min_eq_left (Nat.mul_le_mul_right _ hk), ?_⟩
  rcases h.2 with ⟨h1, h2, h3⟩ | ⟨g, cur, fr, hA, hb, hg, h1, h2, h3, h4, h5⟩
  · exact .inl ⟨h1, h2, by omega⟩
  · refine .inr ⟨g, cur, fr, hA, hb, hg, by omega, h2, h3, h4, ?_⟩
    rw [← h5, List.take_take, Nat.min_eq_left (Nat.mul_le_mul_right _ hk)]
/-- A row cut to a length that it has. -/
theorem St.truncRow {α : Type} {κ : Kd α} {E : TypeId} {A : Option Addr} {c : Nat} {xs : List α} (h : St M0 w0 bs rs fs W) {i : Nat} (hi : rs[i]? = some ⟨κ, E, A, c, xs⟩) {k : Nat} (hk : k ≤ xs.length) : St M0 w0 bs (rs.set i ⟨κ, E, A, c, xs.take k⟩) fs W := by
  obtain ⟨css, he, ho⟩ := h.row _ (List.mem_of_getElem? hi)
  dsimp only at he ho
  refine h.set_row hi _ ⟨rfl, rfl, rfl, Nat.le_refl _, fun _ _ _ => rfl⟩ (Nat.le_refl _) (css.take k) (he.take k) ?_ (fun k hk => .inl hk)
  have hlen : (xs.take k).length = k := by rw [List.length_take]; exact Nat.min_eq_left hk
  rw [flatten_take css k he.lens]
  show OwnR W w0.heap.size E κ.sz A c (xs.take k).length _
  rw [hlen]
  exact ho.trunc hk
end

/-- Where a cut from lo on begins. -/
def vw (A : Option Addr) (c lo s : Nat) : Option Addr := if c = lo then A else A.map (·.add (lo * s))
section
variable {P : Program} {a : Act} {W : World} {n : Nat} {L : List (Nat × Value)}
theorem v_view {α : Type} {κ : Kd α} (hF : FH n L a) {T e : TypeId} {x : Operand} {low : Option Operand} {lv : Option Value} {A : Option Addr} {c lo : Nat} {xs : List α} (hx : lkO L x = some (.slice A xs.length c)) (hl : lkOpt L low = some lv)
    (hT : pSlc P T = some (e, κ.sz)) (hlo : Bnd lv 0 lo) (h1 : lo ≤ xs.length) (hc : xs.length ≤ c) : Val P a W (.slice T x low none none) (.slice (vw A c lo κ.sz) (xs.length - lo) (c - lo)) := by
  have := v_slice (P := P) (W := W) (κ := κ) (high := none) (hv := none) (hi := xs.length) hF hx hl rfl hT hlo (.inl ⟨rfl, rfl⟩) h1 (Nat.le_refl _) hc
  rw [List.take_length, List.length_drop] at this
  exact this
theorem v_cutL {α : Type} {κ : Kd α} (hF : FH n L a) {T e : TypeId} {x : Operand} {high : Option Operand} {hv : Option Value} {A : Option Addr} {c m k : Nat} {ys : List α} (hx : lkO L x = some (.slice A m c)) (hh : lkOpt L high = some hv)
    (hT : pSlc P T = some (e, κ.sz)) (hhi : Bnd hv m k) (h1 : k ≤ m) (hc : m ≤ c) (hy : ys.length = k) : Val P a W (.slice T x none high none) (.slice A ys.length c) := by
  have := v_slice (P := P) (W := W) (low := none) (lv := none) (lo := 0) (hi := k) (xs := List.replicate m ()) (α := Unit) (κ := ⟨κ.sz, fun _ _ _ _ => False, fun h => h.elim, fun h => h.elim, fun h _ => h⟩) hF (by simpa using hx) rfl hh hT (.inl ⟨rfl, rfl⟩) (by simpa using hhi) (Nat.zero_le _) (by simpa using h1) (by simpa using hc)
  have e1 : (if c = 0 then A else A.map (·.add (0 * κ.sz))) = A := by
    split
    · rfl
    · cases A <;> simp [add_zero']
  have e2 : (((List.replicate m ()).take k).drop 0).length = ys.length := by simp [hy, Nat.min_eq_left h1]
  rw [Nat.sub_zero] at this
  simp only [] at this
  rw [e2] at this
  have e1' : (if c = 0 then A else A.map (·.add (0 * κ.sz))) = A := e1
  rw [e1'] at this
  exact this
theorem idx_drop {α : Type} {xs : List α} {lo : Nat} {i : Int} {y : α} (h : idx (xs.drop lo) i = some y) : idx xs ((lo : Int) + i) = some y := by
  unfold idx at h ⊢
  split at h
  · rename_i h0
    rw [if_pos (by omega), List.getElem?_drop] at *
    rw [← h]; congr 1; omega
  · cases h
theorem v_idxV {α : Type} (hF : FH n L a) {T e : TypeId} {x y : Operand} {A : Option Addr} {p : Addr} {k : IntKind} {i : Int} {c lo s m : Nat} {xs : List α} {y' : α} (hx : lkO L x = some (.slice (vw A c lo s) m (c - lo))) (hA : A = some p) (hy : lkO L y = some (.int k i)) (hT : pSlc P T = some (e, s))
    (hi : idx (xs.drop lo) i = some y') (hm : m = xs.length - lo) (hc : xs.length ≤ c) : Val P a W (.indexAddr T x y) (.pointer (some (p.add (((lo : Int) + i).toNat * s)))) := by
  obtain ⟨h0, h1, _⟩ := idx_some hi
  rw [List.length_drop] at h1
  subst hA
  have hne : ¬ c = lo := by omega
  have hv : vw (some p) c lo s = some (p.add (lo * s)) := by unfold vw; rw [if_neg hne]; rfl
  rw [hv] at hx
  have := v_indexSl (P := P) (W := W) hF hx hy hT h0 (by omega)
  rw [add_add, ← Nat.add_mul] at this
  have e : ((lo : Int) + i).toNat = lo + i.toNat := by omega
  rw [e]; exact this
theorem v_eqNil (hF : FH n L a) {T U e : TypeId} {x y : Operand} {A : Option Addr} {m c : Nat} (hx : lkO L x = some (.slice A m c)) (hy : lkO L y = some (.slice none 0 0)) (hT : P.underlying T = some (.slice e)) : Val P a W (.binOp .eql T x y U) (.bool A.isNone) := fun d ty pos af g => by
  simp [execOp, hF.ev hx, hF.ev hy, eqGuard, Lib.run_eql_slice_nil W T e A m c 0 0 hT]
theorem nilEmpty {α : Type} {κ : Kd α} {M : Nat → Prop} {A : Option Addr} {c : Nat} {xs : List α} (h : SlR κ M W A c xs) (hn : A.isNone = true) : xs = [] := (h.2.2.1 (Option.isNone_iff_eq_none.1 hn)).1
end
theorem zeroCells_one {cs : Array Value} {m : Nat} (h1 : ∀ u ∈ cs.toList, u.oneCell' = true) (hc : 0 < cs.size) : ∀ u ∈ (Builtin.zeroCells cs m).toList, u.oneCell' = true := by
  intro u hu
  unfold Builtin.zeroCells at hu
  simp only [Array.toList_map, Array.toList_range, List.mem_map, List.mem_range] at hu
  obtain ⟨i, _, rfl⟩ := hu
  have hi : i % cs.size < cs.size := Nat.mod_lt _ hc
  rw [getElem!_pos cs _ hi]
  exact h1 _ (by simp)
theorem zeroCells_len (cs : Array Value) (m : Nat) : (Builtin.zeroCells cs m).toList.length = m * cs.size := by
  simp [Builtin.zeroCells]
section
variable {P : Program} {ops : Array Oper} {Q : Exit → Act → World → Prop} {a : Act} {W : World} {rest : List Oper} {n : Nat} {L : List (Nat × Value)}
  {ty : TypeId} {pos : String} {af : Array Edge} {M0 : Nat → Prop} {w0 : World} {bs : List Box} {rs : List Row} {fs : List Fact} {α : Type} {κ : Kd α}
/-- 'clear(s[lo:])': the row counts from here on as cut to lo. -/
theorem sq_clearV {x : Operand} {T E : TypeId} {i : Nat} {A : Option Addr} {c lo m : Nat} {xs : List α} {z : Value} (hF : FH n L a) (hS : St M0 w0 bs rs fs W) (hi : rs[i]? = some ⟨κ, E, A, c, xs⟩)
    (hx : lkO L x = some (.slice (vw A c lo κ.sz) m (c - lo))) (hm : m = xs.length - lo) (hlo : lo ≤ xs.length) (hT : pSlc P T = some (E, κ.sz)) (hz : pZero P E = some z) (hzs : z.cells.size = κ.sz) (hz1 : ∀ u ∈ z.cells.toList, u.oneCell' = true) (hsz : 0 < κ.sz)
    (K : ∀ W, St M0 w0 bs (rs.set i ⟨κ, E, A, c, xs.take lo⟩) fs W → wpList P ops Q rest a W) :
    wpList P ops Q (⟨none, .call { callee := .builtin .clear, args := #[x], argTypes := #[T] }, ty, pos, af, none⟩ :: rest) a W := by
  obtain ⟨css, he, ho⟩ := hS.row _ (List.mem_of_getElem? hi)
  dsimp only at he ho
  obtain ⟨hu, hs⟩ := pSlc_und hT
  subst hm
  by_cases hm0 : xs.length - lo = 0
  · have hr : (execOp a.eval ⟨none, .call { callee := .builtin .clear, args := #[x], argTypes := #[T] }, ty, pos, af, none⟩).run P W = .ok (.value (.tuple #[])) W := by
      have h1 := hF.ev hx
      rw [hm0] at h1
      cases hA : vw A c lo κ.sz <;> rw [hA] at h1 <;> simp [execOp, resolve, invoke, builtin, h1, Builtin.clear_, run_underlying hu]
    refine wpList_plain rfl fun K' hK => ?_
    unfold Oper.wp
    rw [hr, Oper.upon_value]
    exact hK _ _ (K _ (hS.truncRow hi hlo))
  · rcases ho.2 with ⟨_, _, h3⟩ | ⟨g, cur, fr, hA, hbg, hg, hnc, hcm, hcs, hfr, htake⟩
    · omega
    subst hA
    have hne : ¬ c = lo := by omega
    have hv : vw (some ⟨g, 0, none⟩) c lo κ.sz = some ⟨g, lo * κ.sz, none⟩ := by unfold vw; rw [if_neg hne]; simp [add_plain]
    rw [hv] at hx
    have hlen : (Builtin.zeroCells z.cells (xs.length - lo)).toList.length = (xs.length - lo) * κ.sz := by rw [zeroCells_len, hzs]
    have hfit : lo * κ.sz + (xs.length - lo) * κ.sz ≤ cur.size := by
      rw [← Nat.add_mul]
      exact Nat.le_trans (Nat.mul_le_mul_right _ (by omega)) hcs
    have hst := run_storeCells_fr (P := P) g (lo * κ.sz) E fr (Builtin.zeroCells z.cells (xs.length - lo)).toList 0 cur W hg (hfr.imp id And.right) (by rw [hlen]; omega) (zeroCells_one hz1 (by rw [hzs]; exact hsz))
    simp only [Nat.add_zero] at hst
    obtain ⟨m, hm⟩ : ∃ m, xs.length - lo = m + 1 := ⟨xs.length - lo - 1, by omega⟩
    have hr : (execOp a.eval ⟨none, .call { callee := .builtin .clear, args := #[x], argTypes := #[T] }, ty, pos, af, none⟩).run P W = .ok (.value (.tuple #[])) (W.setRow g (cur.toList.take (lo * κ.sz) ++ (Builtin.zeroCells z.cells (xs.length - lo)).toList ++ cur.toList.drop (lo * κ.sz + (Builtin.zeroCells z.cells (xs.length - lo)).toList.length)).toArray) := by
      have h1 := hF.ev hx
      rw [hm] at h1 hst ⊢
      simp [execOp, resolve, invoke, builtin, h1, Builtin.clear_, run_underlying hu, run_zero' hz, hst]
    refine wpList_plain rfl fun K' hK => ?_
    unfold Oper.wp
    rw [hr, Oper.upon_value]
    refine hK _ _ (K _ ?_)
    refine hS.set_row hi ⟨κ, E, some ⟨g, 0, none⟩, c, xs.take lo⟩ ⟨rfl, rfl, rfl, by simp, fun k _ hk => setRow_other W g k _ (fun e => hk (by rw [e]; rfl))⟩ (Nat.le_refl _) (css.take lo) (he.take lo) ?_ (fun k hk => .inl hk)
    have htl : (xs.take lo).length = lo := by rw [List.length_take]; exact Nat.min_eq_left hlo
    rw [flatten_take css lo he.lens]
    show OwnR _ w0.heap.size E κ.sz _ c (xs.take lo).length _
    rw [htl]
    have hsz2 : (cur.toList.take (lo * κ.sz) ++ (Builtin.zeroCells z.cells (xs.length - lo)).toList ++ cur.toList.drop (lo * κ.sz + (Builtin.zeroCells z.cells (xs.length - lo)).toList.length)).toArray.size = cur.size := by
      simp only [List.size_toArray, List.length_append, List.length_take, List.length_drop, Array.length_toList, hlen]
      omega
    have h0 := ho.trunc hlo
    refine ⟨h0.1, .inr ⟨g, _, fr, rfl, hbg, setRow_heap W g cur _ E fr hg, by omega, hcm, by rw [hsz2]; exact hcs, by rw [hsz2]; exact hfr, ?_⟩⟩
    rw [← htake, List.take_take, Nat.min_eq_left (Nat.mul_le_mul_right _ hlo)]
    simp only [List.append_assoc]
    rw [List.take_append_of_le_length (by rw [List.length_take, Array.length_toList]; omega), List.take_take, Nat.min_self]
end
section
variable {P : Program} {a : Act} {W : World} {n : Nat} {L : List (Nat × Value)}
theorem fBox_sl {M : Nat → Prop} {b : Nat} {cs : List Value} {T : TypeId} {k : IntKind} {xs : List Int} (h : (fBox b cs T).p M W) (hc : cs = xs.map (.int k)) (hm : xs.length ≤ maxLen) : SlR (kInt k) M W (some ⟨b, 0, none⟩) xs.length xs := by
  refine ⟨Nat.le_refl _, hm, fun h => (by cases h), fun i x hi => ⟨⟨b, 0, none⟩, [.int k x], rfl, h.1, (Array.getElem?_eq_some_iff.1 h.2).1, ?_, rfl⟩⟩
  subst hc
  have hb := blk_cells h.2
  refine cells_sub (o := i * 1) (vs := [.int k x]) hb rfl ?_
  have hl := (List.getElem?_eq_some_iff.1 hi).1
  have hx := (List.getElem?_eq_some_iff.1 hi).2
  rw [Nat.mul_one, List.drop_eq_getElem_cons (by simpa using hl)]
  simp [hx]
theorem min_int (x y : Int) : (if y < x then y else x) = min x y := by omega
theorem v_min3 (hF : FH n L a) {x y z : Operand} {k : IntKind} {p q r : Int} {T1 T2 T3 : TypeId} (hx : lkO L x = some (.int k p)) (hy : lkO L y = some (.int k q)) (hz : lkO L z = some (.int k r)) :
    Val P a W (.call { callee := .builtin .min, args := #[x, y, z], argTypes := #[T1, T2, T3] }) (.int k (min (min p q) r)) := fun d ty pos af g => by
  simp [execOp, resolve, invoke, builtin, hF.ev hx, hF.ev hy, hF.ev hz, Builtin.min_, Builtin.min2, min_int]
theorem v_min2 (hF : FH n L a) {x y : Operand} {k : IntKind} {p q : Int} {T1 T2 : TypeId} (hx : lkO L x = some (.int k p)) (hy : lkO L y = some (.int k q)) :
    Val P a W (.call { callee := .builtin .min, args := #[x, y], argTypes := #[T1, T2] }) (.int k (min p q)) := fun d ty pos af g => by
  simp [execOp, resolve, invoke, builtin, hF.ev hx, hF.ev hy, Builtin.min_, Builtin.min2, min_int]
theorem v_sliceArr (hF : FH n L a) {T e : TypeId} {x : Operand} {p : Addr} {m s : Nat} (hx : lkO L x = some (.pointer (some p))) (hT : pArr P T = some (m, e, s)) : Val P a W (.slice T x none none none) (.slice (some p) m m) := fun d ty pos af g => by
  obtain ⟨hu, hs⟩ := pArr_und hT
  simp [execOp, hF.ev hx, Instr.sliceAt, run_underlying hu, Instr.sureAddr, Instr.sliceBounds, run_sizeOf' hs, add_zero']
end
/-- One of two, by a number. -/
def ui {α : Type} (i : Int) (q : Int) (x y : α) : α := if i = q then x else y
theorem ui_sl {α : Type} {κ : Kd α} {M : Nat → Prop} {W : World} {i q : Int} {A B : Option Addr} {c d : Nat} {xs ys : List α} (h : SlR κ M W A c xs) (k : SlR κ M W B d ys) : SlR κ M W (ui i q A B) (ui i q c d) (ui i q xs ys) := by
  unfold ui
  split
  · exact h
  · exact k
end Go.Pod
