/- Plain words for walks: pointers to values of one's own, slices that are made, deletions in place. Nothing of the program in it. -/
import Derived.Test.YtgfnkigoaajllaaGreatL19
set_option linter.unusedVariables false
set_option linter.unusedSimpArgs false
namespace Go.Pod
open Go.RowKit
section
variable {M0 : Nat → Prop} {w0 : World} {bs : List Box} {rs : List Row} {fs : List Fact} {W W' : World}
/-- What a call has made, variables too, is joined to what there was. -/
theorem St.joinB {bs' : List Box} {rs' : List Row} {fs' : List Fact} (h : St M0 w0 bs rs fs W) (k : St (Mut M0 bs rs) W bs' rs' fs' W') : St M0 w0 (bs' ++ bs) (rs' ++ rs) (fs' ++ fs) W' := by
  have h0 := h.grow k.below
  have hnew : ∀ r ∈ rs', ∀ j, r.blk = some j → W.heap.size ≤ j := fun r hr j hj => ((k.row r hr).lt hj).1
  have bnew : ∀ x ∈ bs', W.heap.size ≤ x.b := fun x hx => (k.box x hx).1
  have s0 : Stp (Mut M0 bs rs) W (Mut M0 (bs' ++ bs) (rs' ++ rs)) W' := by
    refine ⟨k.below.size, fun j hj _ => k.below.block j hj, fun j hj hm => ?_⟩
    rintro (h1 | ⟨x, hx, e⟩ | ⟨r, hr, e⟩)
    · exact hm (.inl h1)
    · rcases List.mem_append.1 hx with hx | hx
      · have := bnew x hx
        omega
      · exact hm (.inr (.inl ⟨x, hx, e⟩))
    · rcases List.mem_append.1 hr with hr | hr
      · have := hnew r hr j e
        omega
      · exact hm (.inr (.inr ⟨r, hr, e⟩))
  have s1 : Stp (Mut (Mut M0 bs rs) bs' rs') W' (Mut M0 (bs' ++ bs) (rs' ++ rs)) W' := by
    refine Stp.mut fun j _ => ?_
    rintro (h1 | ⟨x, hx, e⟩ | ⟨r, hr, e⟩)
    · exact .inl (.inl h1)
    · rcases List.mem_append.1 hx with hx | hx
      · exact .inr (.inl ⟨x, hx, e⟩)
      · exact .inl (.inr (.inl ⟨x, hx, e⟩))
    · rcases List.mem_append.1 hr with hr | hr
      · exact .inr (.inr ⟨r, hr, e⟩)
      · exact .inl (.inr (.inr ⟨r, hr, e⟩))
  refine ⟨h.valid, h0.below, fun x hx => ?_, fun r hr => ?_, ?_, ?_, fun x hx r hr => ?_, fun f hf => ?_⟩
  · rcases List.mem_append.1 hx with hx | hx
    · have hb := k.box x hx
      exact ⟨Nat.le_trans h.below.size hb.1, hb.2⟩
    · exact h0.box x hx
  · rcases List.mem_append.1 hr with hr | hr
    · obtain ⟨css, he, ho⟩ := k.row r hr
      exact ⟨css, he.st s1, ho.base h.below.size⟩
    · obtain ⟨css, he, ho⟩ := h.row r hr
      exact ⟨css, he.st s0, ho.kept fun j hj => k.below.block j (ho.lt hj).2⟩
  · rw [List.map_append, List.nodup_append]
    refine ⟨k.bnd, h.bnd, fun i hi j hj e => ?_⟩
    obtain ⟨x, hx, rfl⟩ := List.mem_map.1 hi
    obtain ⟨y, hy, rfl⟩ := List.mem_map.1 hj
    have h1 := bnew x hx
    have h2 := (h.box y hy).lt
    omega
  · refine List.pairwise_append.2 ⟨k.rnd, h.rnd, fun r hr q hq j hj hj' => ?_⟩
    have h1 := hnew r hr j hj
    have h2 := ((h.row q hq).lt hj').2
    omega
  · rcases List.mem_append.1 hx with hx | hx
    · rcases List.mem_append.1 hr with hr | hr
      · exact k.brd x hx r hr
      · intro e
        have h1 := bnew x hx
        have h2 := ((h.row r hr).lt e).2
        omega
    · rcases List.mem_append.1 hr with hr | hr
      · intro e
        have h1 := hnew r hr _ e
        have h2 := (h.box x hx).lt
        omega
      · exact h.brd x hx r hr
  · rcases List.mem_append.1 hf with hf | hf
    · exact f.st (k.fact f hf) s1
    · exact f.st (h.fact f hf) s0
end
section
variable {P : Program} {a : Act} {W : World} {n : Nat} {L : List (Nat × Value)}
theorem run_eql_ptr_nil {T te : TypeId} {p : Addr} (hT : P.underlying T = some (.pointer te)) : (binOp .eql T (.pointer (some p)) (.pointer none)).run P W = .ok (.bool false) W := by
  have h : ∀ d : Nat, (Op.equalIn (d + 1) T (.pointer (some p)) (.pointer none)).run P W = .ok false W := fun d => by
    simp [Op.equalIn, run_underlying hT]
  simp only [binOp]
  simp [Op.equal, Op.maxDepth, h 9999]
theorem v_eqP (hF : FH n L a) {T U te : TypeId} {x y : Operand} {p : Addr} (hx : lkO L x = some (.pointer (some p))) (hy : lkO L y = some (.pointer none)) (hT : P.underlying T = some (.pointer te)) : Val P a W (.binOp .eql T x y U) (.bool false) := fun d ty pos af g => by
  simp [execOp, hF.ev hx, hF.ev hy, eqGuard, run_eql_ptr_nil hT]
theorem v_max2 (hF : FH n L a) {x y : Operand} {k : IntKind} {p q : Int} {T1 T2 : TypeId} (hx : lkO L x = some (.int k p)) (hy : lkO L y = some (.int k q)) :
    Val P a W (.call { callee := .builtin .max, args := #[x, y], argTypes := #[T1, T2] }) (.int k (max p q)) := fun d ty pos af g => by
  have e : (if p < q then q else p) = max p q := by omega
  simp [execOp, resolve, invoke, builtin, hF.ev hx, hF.ev hy, Builtin.max_, Builtin.max2, e]
end
/-- A slice of zeros that is made. -/
def mkS {α : Type} (by_ : Nat) (z : α) (m : Int) : Option (List α) := if 0 ≤ m ∧ m ≤ 140737488355328 ∧ m.toNat * by_ ≤ 140737488355328 then some (List.replicate m.toNat z) else none
section
variable {P : Program} {ops : Array Oper} {Q : Exit → Act → World → Prop} {a : Act} {W : World} {rest : List Oper} {n : Nat} {L : List (Nat × Value)}
  {d : Nat} {op : Op} {ty : TypeId} {pos : String} {af : Array Edge} {g : Option (Nat × Bool)} {v : Value}
  {M0 : Nat → Prop} {w0 : World} {bs : List Box} {rs : List Row} {fs : List Fact} {α : Type} {κ : Kd α}
theorem run_typeInfo' {T : TypeId} {i : TypeInfo} (h : P.info? T = some i) (W : World) : (typeInfo T).run P W = .ok i W := by
  simp [typeInfo, h]
theorem Els.rep {M : Nat → Prop} {W : World} {cs : List Value} {x : α} (h : κ.R M W cs x) (m : Nat) : Els κ M W (List.replicate m cs) (List.replicate m x) := by
  refine ⟨by simp, fun i ds y h1 h2 => ?_⟩
  have e1 := List.mem_of_getElem? h1
  have e2 := List.mem_of_getElem? h2
  rw [List.eq_of_mem_replicate e1, List.eq_of_mem_replicate e2]
  exact h
theorem cyc_rep {zc : List Value} (hz : 0 < zc.length) : ∀ m : Nat, ((List.range (m * zc.length)).map fun x => zc[x % zc.length]!) = (List.replicate m zc).flatten := fun m => by
  apply List.ext_getElem?
  intro j
  have hlen : (List.replicate m zc).flatten.length = m * zc.length := by simp
  by_cases hj : j < m * zc.length
  · rw [List.getElem?_map, List.getElem?_range hj, Option.map_some]
    have hq : j / zc.length < m := Nat.div_lt_of_lt_mul (by rw [Nat.mul_comm]; exact hj)
    have hr : j % zc.length < zc.length := Nat.mod_lt _ hz
    have := flatten_get (css := List.replicate m zc) (n := zc.length) (fun cs h => by rw [List.eq_of_mem_replicate h]) (i := j / zc.length) (cs := zc) (by rw [List.getElem?_replicate, if_pos hq]) (j := j % zc.length) (u := zc[j % zc.length]) (List.getElem?_eq_getElem hr)
    rw [Nat.mul_comm, Nat.div_add_mod] at this
    rw [this, getElem!_pos zc _ hr]
  · rw [List.getElem?_eq_none (by rw [List.length_map, List.length_range]; omega), List.getElem?_eq_none (by rw [hlen]; omega)]
theorem sq_makeSlice {T E : TypeId} {x y : Operand} {m : Int} {by_ : Nat} {z : Value} {zc : List Value} {z0 : α} {ys : List α} (hF : FH n L a) (hS : St M0 w0 bs rs fs W)
    (hx : lkO L x = some (.int .i64 m)) (hy : lkO L y = some (.int .i64 m)) (hT : pSlc P T = some (E, κ.sz)) (hb : pBy P E = some by_) (hz : pZero P E = some z) (hzc : z.cells = zc.toArray) (hR : κ.R (Mut M0 bs rs) W zc z0) (hpos : 0 < κ.sz) (hm : mkS by_ z0 m = some ys) (hd : d < n)
    (K : ∀ A c a W, FH n ((d, .slice A ys.length c) :: L) a → St M0 w0 bs (⟨κ, E, A, c, ys⟩ :: rs) fs W → wpList P ops Q rest a W) :
    wpList P ops Q (⟨some d, .makeSlice T x y, ty, pos, af, none⟩ :: rest) a W := by
  unfold mkS at hm
  split at hm
  case isFalse => cases hm
  rename_i hc
  obtain ⟨h0, hbig, hfit⟩ := hc
  cases hm
  obtain ⟨hu, hs⟩ := pSlc_und hT
  obtain ⟨i, hi, his⟩ := pSz_info hs
  have hib : i.bytes = by_ := by unfold pBy at hb; rw [hi] at hb; simpa using hb
  obtain ⟨k, rfl⟩ := Int.eq_ofNat_of_zero_le h0
  simp only [Int.toNat_natCast, List.length_replicate] at hfit K
  have hzl : zc.length = κ.sz := κ.len hR
  have hw : IntKind.i64.wrap (k : Int) = (k : Int) := by
    simp only [IntKind.wrap, IntKind.signed, IntKind.bits, Bool.true_and, decide_eq_true_eq, ge_iff_le]
    split <;> omega
  have hb2 : ¬ ((2 : Int) ^ 48 < (i.bytes : Int) * (k : Int)) := by
    rw [hib]
    have h1 : ((by_ : Int) * (k : Int)) = ((k * by_ : Nat) : Int) := by rw [Int.natCast_mul, Int.mul_comm]
    rw [h1]
    omega
  have hneg : ¬ ((k : Int) < 0) := by omega
  have has : ∀ W, (asInt (.int .i64 (k : Int))).run P W = .ok (k : Int) W := fun W => by simp [asInt, asIntOf]
  have hroom : ∀ W, (askRoom (k * i.bytes)).run P W = .ok () W := fun W => by
    unfold askRoom
    rw [if_neg (by rw [hib]; unfold roomBytes; omega)]; rfl
  have hcyc := cyc_rep (zc := zc) (by omega) k
  have hrun : (execOp a.eval ⟨some d, .makeSlice T x y, ty, pos, af, none⟩).run P W = .ok (.value (.slice (some ⟨W.heap.size, 0, none⟩) k k)) (W.alloc (.cells (List.replicate k zc).flatten.toArray E)) := by
    have hcells : (Array.range (k * κ.sz)).map (fun x => zc.toArray[x % zc.toArray.size]!) = (List.replicate k zc).flatten.toArray := by
      apply Array.toList_inj.1
      rw [← hcyc, hzl]
      simp [hzl]
    simp only [execOp, Instr.makeSlice, hF.ev hx, hF.ev hy, Sem.run_bind, run_underlying hu, Result.andThen_ok, has, run_typeInfo' hi, hw, hneg, hb2, decide_false, Bool.or_false, Bool.false_or, Int.lt_irrefl, gt_iff_lt, Bool.false_eq_true, or_self, if_false, Int.toNat_natCast, hroom, run_sizeOf' hs]
    split
    · rename_i h00
      have hk0 : k = 0 := by
        rcases Nat.mul_eq_zero.1 h00 with h | h
        · exact h
        · omega
      subst hk0
      have h0r : ∀ f : Nat → Value, Array.map f (Array.range 0) = #[] := fun f => by apply Array.toList_inj.1; simp
      simp [newRow, h0r]
    · simp only [Sem.run_bind, Sem.run_pure, Result.andThen_ok, run_zero' hz, hzc, hcells]
      simp [newRow]
  refine sq_run hrun hF hd fun a hF => K _ _ a _ hF ?_
  · have := hS.addRow (E := E) (Els.rep hR k) (by rw [List.length_replicate]; show k ≤ 9223372036854775807; omega)
    simpa using this
/-- Some cut or other within what there is. -/
theorem v_cut3 (hF : FH n L a) {T e : TypeId} {x y z w : Operand} {s : Nat} {A : Option Addr} {c m : Nat} {k1 k2 : IntKind} {i j : Int} (hx : lkO L x = some (.slice A m c)) (hy : lkO L y = some (.int k1 i)) (hz : lkO L z = some (.int k2 j)) (hw : lkO L w = some (.int .i64 m))
    (hT : pSlc P T = some (e, s)) (h0 : 0 ≤ i) (h1 : i ≤ j) (h2 : j ≤ m) (hc : m ≤ c) : ∃ v, Val P a W (.slice T x (some y) (some z) (some w)) v := by
  obtain ⟨hu, hs⟩ := pSlc_und hT
  obtain ⟨i, rfl⟩ := Int.eq_ofNat_of_zero_le h0
  obtain ⟨j, rfl⟩ := Int.eq_ofNat_of_zero_le (Int.le_trans h0 h1)
  have e1 : ∀ (k : IntKind) (t : Nat) code y, t ≤ y → (Instr.sliceBound (.int k (t : Int)) y code).run P W = .ok t W := fun k t code y hy => by
    have := run_bound (P := P) (W := W) (code := code) (y := y) (v := .int k (t : Int)) rfl (by omega) (by simpa using hy)
    simpa using this
  refine ⟨.slice (if m = i then A else A.map (·.add (i * s))) (j - i) (m - i), fun d ty pos af g => ?_⟩
  have eb : (Instr.sliceBounds true m c (some (.int k1 (i : Int))) (some (.int k2 (j : Int))) (some (.int .i64 (m : Int)))).run P W = .ok (i, j, m) W := by
    simp only [Instr.sliceBounds, Sem.run_bind, if_true, e1 _ _ _ c hc, e1 _ _ _ m (show j ≤ m by omega), e1 _ _ _ j (show i ≤ j by omega), Result.andThen_ok, Sem.run_pure]
  simp only [execOp, hF.ev hx, Option.map_some, hF.ev hy, hF.ev hz, hF.ev hw, Instr.sliceAt, Sem.run_bind, run_underlying hu, Result.andThen_ok, Instr.slice, eb, run_sizeOf' hs, Sem.run_pure]
/-- '[lo:hi]' of a slice, hi beyond its length, within its room. -/
theorem v_cutM (hF : FH n L a) {T e : TypeId} {x y z : Operand} {s : Nat} {A : Option Addr} {c m lo hi : Nat} {k1 k2 : IntKind} (hx : lkO L x = some (.slice A m c)) (hy : lkO L y = some (.int k1 (lo : Int))) (hz : lkO L z = some (.int k2 (hi : Int)))
    (hT : pSlc P T = some (e, s)) (h1 : lo ≤ hi) (h2 : hi ≤ c) : Val P a W (.slice T x (some y) (some z) none) (.slice (vw A c lo s) (hi - lo) (c - lo)) := fun d ty pos af g => by
  have hr := run_slice_sl (P := P) (W := W) (A := A) (m := m) (low := some (.int k1 (lo : Int))) (high := some (.int k2 (hi : Int))) hT (.inr ⟨_, _, rfl, by omega, by simp⟩) (.inr ⟨_, _, rfl, by omega, by simp⟩) h1 h2
  simp only [execOp, hF.ev hx, Option.map_some, hF.ev hy, hF.ev hz, Option.map_none, Sem.run_bind, hr, Result.andThen_ok, Sem.run_pure, vw]
/-- 'append(s[:k], s[j:]...)', where the slice has room. -/
theorem sq_delApp {x y : Operand} {T E : TypeId} {i : Nat} {A : Option Addr} {c k j : Nat} {xs : List α} (hF : FH n L a) (hS : St M0 w0 bs rs fs W)
    (hi : rs[i]? = some ⟨κ, E, A, c, xs⟩) (hx : lkO L x = some (.slice A k c)) (hy : lkO L y = some (.slice (vw A c j κ.sz) (xs.length - j) (c - j)))
    (hT : pSlc P T = some (E, κ.sz)) (hkj : k ≤ j) (hj : j ≤ xs.length) (hd : d < n)
    (K : ∀ a W, FH n ((d, .slice A (k + (xs.length - j)) c) :: L) a → St M0 w0 bs (rs.set i ⟨κ, E, A, c, xs.take k ++ xs.drop j⟩) fs W → wpList P ops Q rest a W) :
    wpList P ops Q (⟨some d, .call { callee := .builtin .append, args := #[x, y], argTypes := #[T, T] }, ty, pos, af, none⟩ :: rest) a W := by
  obtain ⟨css, he, ho⟩ := hS.row _ (List.mem_of_getElem? hi)
  dsimp only at he ho
  obtain ⟨hu, hs⟩ := pSlc_und hT
  obtain ⟨inf, hinf, his⟩ := pSz_info hs
  rcases ho.2 with ⟨hA, hc0, hn0⟩ | ⟨g, cur, fr, hA, hbg, hg, hnc, hcm, hcs, hfr, htake⟩
  · subst hA; subst hc0
    have hk0 : k = 0 := by omega
    have hj0 : j = 0 := by omega
    subst hk0; subst hj0
    have hx0 : xs = [] := List.eq_nil_of_length_eq_zero hn0
    subst hx0
    have hrun : (execOp a.eval ⟨some d, .call { callee := .builtin .append, args := #[x, y], argTypes := #[T, T] }, ty, pos, af, none⟩).run P W = .ok (.value (.slice none 0 0)) W := by
      simp [execOp, resolve, invoke, builtin, hF.ev hx, hF.ev hy, vw, Builtin.append_, run_underlying hu, sizeOf, typeInfo, hinf, Builtin.lenOf, Builtin.firstCells, loadCells, loadCellsFrom]
    refine sq_run hrun hF hd fun a hF => K a W (by simpa using hF) ?_
    have hil : i < rs.length := (List.getElem?_eq_some_iff.1 hi).1
    have : rs.set i ⟨κ, E, none, 0, List.take 0 ([] : List α) ++ List.drop 0 []⟩ = rs := by
      apply List.ext_getElem?
      intro q
      rw [List.getElem?_set]
      split
      · rename_i e; subst e; simp [hi]
      · rfl
    rw [this]; exact hS
  · subst hA
    have hcl : css.flatten.length = xs.length * κ.sz := he.flen
    by_cases hm : xs.length - j = 0
    · have hjl : j = xs.length := by omega
      subst hjl
      have hrun : (execOp a.eval ⟨some d, .call { callee := .builtin .append, args := #[x, y], argTypes := #[T, T] }, ty, pos, af, none⟩).run P W = .ok (.value (.slice (some ⟨g, 0, none⟩) k c)) W := by
        rw [Nat.sub_self] at hy
        have hkc : k ≤ c := by omega
        have h1 := hF.ev hy
        cases hv : vw (some ⟨g, 0, none⟩) c xs.length κ.sz <;> rw [hv] at h1 <;>
          simp [execOp, resolve, invoke, builtin, hF.ev hx, h1, Builtin.append_, run_underlying hu, sizeOf, typeInfo, hinf, Builtin.lenOf, Builtin.firstCells, loadCells, loadCellsFrom, hkc, storeCells]
      refine sq_run hrun hF hd fun a hF => K a W (by simpa using hF) ?_
      rw [List.drop_length, List.append_nil]
      exact hS.truncRow hi hkj
    · have hne : ¬ c = j := by omega
      have hv : vw (some ⟨g, 0, none⟩) c j κ.sz = some ⟨g, j * κ.sz, none⟩ := by unfold vw; rw [if_neg hne]; simp [add_plain]
      rw [hv] at hy
      have hnl : (css.flatten.drop (j * κ.sz)).length = (xs.length - j) * κ.sz := by rw [List.length_drop, hcl, Nat.sub_mul]
      have hat : CellsAt W ⟨g, j * κ.sz, none⟩ (css.flatten.drop (j * κ.sz)) := by
        have h0 := ho.cells rfl
        have := CellsAt.sub (o := j * κ.sz) (ds := css.flatten.drop (j * κ.sz)) h0 (fun q u hq => by rw [List.getElem?_drop] at hq; exact hq)
        rwa [add_plain, Nat.zero_add] at this
      have hone : ∀ u ∈ css.flatten.drop (j * κ.sz), u.oneCell' = true := fun u hu => he.ones u (List.mem_of_mem_drop hu)
      have hroom : k + (xs.length - j) ≤ c := by omega
      have hfitc : k * κ.sz + (css.flatten.drop (j * κ.sz)).length ≤ cur.size := by
        rw [hnl, ← Nat.add_mul]; exact Nat.le_trans (Nat.mul_le_mul_right _ hroom) hcs
      have hf := run_firstCells_some (P := P) W inf.size (xs.length - j) ⟨g, j * κ.sz, none⟩ (xs.length - j) (c - j) (css.flatten.drop (j * κ.sz)) (by rw [his]; exact hnl) hat
      have hst := run_storeCells_fr (P := P) g (k * κ.sz) E fr (css.flatten.drop (j * κ.sz)) 0 cur W hg (hfr.imp id And.right) (by simpa using hfitc) hone
      simp only [Nat.add_zero] at hst
      have hrun : (execOp a.eval ⟨some d, .call { callee := .builtin .append, args := #[x, y], argTypes := #[T, T] }, ty, pos, af, none⟩).run P W =
          .ok (.value (.slice (some ⟨g, 0, none⟩) (k + (xs.length - j)) c)) (W.setRow g (cur.toList.take (k * κ.sz) ++ css.flatten.drop (j * κ.sz) ++ cur.toList.drop (k * κ.sz + (css.flatten.drop (j * κ.sz)).length)).toArray) := by
        rw [his] at hf
        simp [execOp, resolve, invoke, builtin, hF.ev hx, hF.ev hy, Builtin.append_, run_underlying hu, sizeOf, typeInfo, hinf, Builtin.lenOf, hroom, his, hf, Addr.add_lit, hst]
      refine sq_run hrun hF hd fun a hF => K a _ hF ?_
      refine hS.set_row hi ⟨κ, E, some ⟨g, 0, none⟩, c, xs.take k ++ xs.drop j⟩ ⟨rfl, rfl, rfl, by simp, fun q _ hq => setRow_other W g q _ (fun e => hq (by rw [e]; rfl))⟩ (Nat.le_refl _) (css.take k ++ css.drop j) ?_ ?_ (fun q hq => .inl hq)
      · refine (he.take k).append ⟨by simp [he.1], fun q ds u h1 h2 => ?_⟩
        rw [List.getElem?_drop] at h1 h2
        exact he.2 _ ds u h1 h2
      · have e1 : (css.take k).flatten = css.flatten.take (k * κ.sz) := flatten_take css k he.lens
        have e2 : (css.drop j).flatten = css.flatten.drop (j * κ.sz) := flatten_drop j he.lens
        have hlen : (xs.take k ++ xs.drop j).length = k + (xs.length - j) := by rw [List.length_append, List.length_take, List.length_drop]; omega
        rw [List.flatten_append, e1, e2]
        show OwnR _ w0.heap.size E κ.sz _ c (xs.take k ++ xs.drop j).length _
        rw [hlen]
        have hks : k * κ.sz ≤ xs.length * κ.sz := Nat.mul_le_mul_right _ (by omega)
        refine ⟨by rw [List.length_append, List.length_take, hcl, hnl, Nat.add_mul]; omega, .inr ⟨g, _, fr, rfl, hbg, setRow_heap W g cur _ E fr hg, hroom, hcm, ?_, ?_, ?_⟩⟩
        · simp only [List.size_toArray, List.length_append, List.length_take, List.length_drop, Array.length_toList]
          rw [List.length_drop] at hfitc
          omega
        · refine hfr.imp id fun h => ⟨h.1, ?_⟩
          have h := h.2
          rw [List.length_drop] at hfitc
          simp only [List.size_toArray, List.length_append, List.length_take, List.length_drop, Array.length_toList]
          omega
        · rw [← htake, List.take_take, Nat.min_eq_left hks, htake]
          have hL : (cur.toList.take (k * κ.sz) ++ css.flatten.drop (j * κ.sz)).length = (k + (xs.length - j)) * κ.sz := by
            rw [List.length_append, List.length_take, Array.length_toList, hnl, Nat.add_mul]; omega
          rw [← hL]
          exact List.take_left
/-- 'clear' of what lies behind a slice's end, within its room: the slice's own elements stay. -/
theorem sq_clearTail {x : Operand} {T E : TypeId} {i : Nat} {A : Option Addr} {c m : Nat} {xs : List α} {z : Value} (hF : FH n L a) (hS : St M0 w0 bs rs fs W) (hi : rs[i]? = some ⟨κ, E, A, c, xs⟩)
    (hx : lkO L x = some (.slice (vw A c xs.length κ.sz) m (c - xs.length))) (hm : xs.length + m ≤ c) (hT : pSlc P T = some (E, κ.sz)) (hz : pZero P E = some z) (hzs : z.cells.size = κ.sz) (hz1 : ∀ u ∈ z.cells.toList, u.oneCell' = true) (hsz : 0 < κ.sz)
    (K : ∀ W, St M0 w0 bs rs fs W → wpList P ops Q rest a W) :
    wpList P ops Q (⟨none, .call { callee := .builtin .clear, args := #[x], argTypes := #[T] }, ty, pos, af, none⟩ :: rest) a W := by
  obtain ⟨css, he, ho⟩ := hS.row _ (List.mem_of_getElem? hi)
  dsimp only at he ho
  obtain ⟨hu, hs⟩ := pSlc_und hT
  have hil : i < rs.length := (List.getElem?_eq_some_iff.1 hi).1
  have hset : rs.set i ⟨κ, E, A, c, xs⟩ = rs := by
    apply List.ext_getElem?
    intro q
    rw [List.getElem?_set]
    split
    · rename_i e; subst e; simp [hi]
    · rfl
  by_cases hm0 : m = 0
  · subst hm0
    have hr : (execOp a.eval ⟨none, .call { callee := .builtin .clear, args := #[x], argTypes := #[T] }, ty, pos, af, none⟩).run P W = .ok (.value (.tuple #[])) W := by
      have h1 := hF.ev hx
      cases hA : vw A c xs.length κ.sz <;> rw [hA] at h1 <;> simp [execOp, resolve, invoke, builtin, h1, Builtin.clear_, run_underlying hu]
    refine wpList_plain rfl fun K' hK => ?_
    unfold Oper.wp
    rw [hr, Oper.upon_value]
    exact hK _ _ (K _ hS)
  · rcases ho.2 with ⟨_, h2, h3⟩ | ⟨g, cur, fr, hA, hbg, hg, hnc, hcm, hcs, hfr, htake⟩
    · omega
    subst hA
    have hne : ¬ c = xs.length := by omega
    have hv : vw (some ⟨g, 0, none⟩) c xs.length κ.sz = some ⟨g, xs.length * κ.sz, none⟩ := by unfold vw; rw [if_neg hne]; simp [add_plain]
    rw [hv] at hx
    have hlen : (Builtin.zeroCells z.cells m).toList.length = m * κ.sz := by rw [zeroCells_len, hzs]
    have hfit : xs.length * κ.sz + m * κ.sz ≤ cur.size := by
      rw [← Nat.add_mul]
      exact Nat.le_trans (Nat.mul_le_mul_right _ (by omega)) hcs
    have hst := run_storeCells_fr (P := P) g (xs.length * κ.sz) E fr (Builtin.zeroCells z.cells m).toList 0 cur W hg (hfr.imp id And.right) (by rw [hlen]; omega) (zeroCells_one hz1 (by rw [hzs]; exact hsz))
    simp only [Nat.add_zero] at hst
    obtain ⟨m', hm'⟩ : ∃ m', m = m' + 1 := ⟨m - 1, by omega⟩
    have hr : (execOp a.eval ⟨none, .call { callee := .builtin .clear, args := #[x], argTypes := #[T] }, ty, pos, af, none⟩).run P W = .ok (.value (.tuple #[])) (W.setRow g (cur.toList.take (xs.length * κ.sz) ++ (Builtin.zeroCells z.cells m).toList ++ cur.toList.drop (xs.length * κ.sz + (Builtin.zeroCells z.cells m).toList.length)).toArray) := by
      have h1 := hF.ev hx
      rw [hm'] at h1 hst ⊢
      simp [execOp, resolve, invoke, builtin, h1, Builtin.clear_, run_underlying hu, run_zero' hz, hst]
    refine wpList_plain rfl fun K' hK => ?_
    unfold Oper.wp
    rw [hr, Oper.upon_value]
    refine hK _ _ (K _ ?_)
    rw [← hset]
    refine hS.set_row hi ⟨κ, E, some ⟨g, 0, none⟩, c, xs⟩ ⟨rfl, rfl, rfl, by simp, fun k _ hk => setRow_other W g k _ (fun e => hk (by rw [e]; rfl))⟩ (Nat.le_refl _) css he ?_ (fun k hk => .inl hk)
    have hsz2 : (cur.toList.take (xs.length * κ.sz) ++ (Builtin.zeroCells z.cells m).toList ++ cur.toList.drop (xs.length * κ.sz + (Builtin.zeroCells z.cells m).toList.length)).toArray.size = cur.size := by
      simp only [List.size_toArray, List.length_append, List.length_take, List.length_drop, Array.length_toList, hlen]
      omega
    refine ⟨ho.1, .inr ⟨g, _, fr, rfl, hbg, setRow_heap W g cur _ E fr hg, hnc, hcm, by rw [hsz2]; exact hcs, by rw [hsz2]; exact hfr, ?_⟩⟩
    rw [← htake]
    simp only [List.append_assoc]
    rw [List.take_append_of_le_length (by have h9 : cur.toList.length = cur.size := Array.length_toList; rw [List.length_take, h9]; omega), List.take_take, Nat.min_self]
end
/-- What slices.Delete comes to. -/
def delO {α : Type} (xs : List α) (i j : Int) : Option (List α) := if 0 ≤ i ∧ i ≤ j ∧ j ≤ xs.length then some (xs.take i.toNat ++ xs.drop j.toNat) else none
theorem delO_of {α : Type} {xs o : List α} {i j : Int} (h : delO xs i j = some o) : ∃ k m : Nat, i = k ∧ j = m ∧ k ≤ m ∧ m ≤ xs.length ∧ o = xs.take k ++ xs.drop m := by
  unfold delO at h
  split at h
  · rename_i hc
    cases h
    exact ⟨i.toNat, j.toNat, by omega, by omega, by omega, by omega, rfl⟩
  · cases h
section
variable {P : Program} {a : Act} {W : World} {n : Nat} {L : List (Nat × Value)}
theorem v_cut0 (hF : FH n L a) {T e : TypeId} {x y : Operand} {s : Nat} {A : Option Addr} {c m k : Nat} {k1 : IntKind} (hx : lkO L x = some (.slice A m c)) (hy : lkO L y = some (.int k1 (k : Int)))
    (hT : pSlc P T = some (e, s)) (h1 : k ≤ c) : Val P a W (.slice T x none (some y) none) (.slice A k c) := fun d ty pos af g => by
  have hr := run_slice_sl (P := P) (W := W) (A := A) (m := m) (low := none) (high := some (.int k1 (k : Int))) hT (.inl ⟨rfl, rfl⟩) (.inr ⟨_, _, rfl, by omega, by simp⟩) (Nat.zero_le k) h1
  have hz : (if c = 0 then A else A.map (·.add (0 * s))) = A := by
    split
    · rfl
    · cases A <;> simp [add_zero']
  rw [hz] at hr
  simp only [execOp, hF.ev hx, Option.map_some, hF.ev hy, Option.map_none, Sem.run_bind, hr, Result.andThen_ok, Sem.run_pure, Nat.sub_zero]
theorem v_view0 (hF : FH n L a) {T e : TypeId} {x y : Operand} {s : Nat} {A : Option Addr} {c m k : Nat} {k1 : IntKind} (hx : lkO L x = some (.slice A m c)) (hy : lkO L y = some (.int k1 (k : Int)))
    (hT : pSlc P T = some (e, s)) (h1 : k ≤ m) (h2 : m ≤ c) : Val P a W (.slice T x (some y) none none) (.slice (vw A c k s) (m - k) (c - k)) := fun d ty pos af g => by
  have hr := run_slice_sl (P := P) (W := W) (A := A) (m := m) (low := some (.int k1 (k : Int))) (high := none) hT (.inr ⟨_, _, rfl, by omega, by simp⟩) (.inl ⟨rfl, rfl⟩) h1 h2
  simp only [execOp, hF.ev hx, Option.map_some, hF.ev hy, Option.map_none, Sem.run_bind, hr, Result.andThen_ok, Sem.run_pure, vw]
end
end Go.Pod
