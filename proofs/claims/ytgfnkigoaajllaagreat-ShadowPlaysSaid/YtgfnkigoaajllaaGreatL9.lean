/- Plain words for walks: slices that are cut, bytes and strings, function values. Nothing of the program in it. -/
import Derived.Test.YtgfnkigoaajllaaGreatL8
set_option linter.unusedVariables false
set_option linter.unusedSimpArgs false
namespace Go.Pod
open Go.RowKit

/-! ### Cutting -/
def Bnd (v : Option Value) (dflt lo : Nat) : Prop := (v = none ∧ lo = dflt) ∨ ∃ k i, v = some (.int k i) ∧ 0 ≤ i ∧ i.toNat = lo
section
variable {P : Program} {W : World} {α : Type} {κ : Kd α}
theorem run_bound {v : Value} {k : IntKind} {i : Int} {y : Nat} {code : BoundsCode} (h : v = .int k i) (h0 : 0 ≤ i) (h1 : i.toNat ≤ y) : (Instr.sliceBound v y code).run P W = .ok i.toNat W := by
  subst h
  simp only [Instr.sliceBound, asIntOf, Sem.run_bind, Sem.run_pure, Result.andThen_ok]
  rw [if_pos ⟨h0, by omega⟩]
  simp
theorem run_slice_sl {T e : TypeId} {s : Nat} {A : Option Addr} {m c lo hi : Nat} {low high : Option Value} (hT : pSlc P T = some (e, s)) (hlo : Bnd low 0 lo) (hhi : Bnd high m hi) (h1 : lo ≤ hi) (h2 : hi ≤ c) :
    (Instr.sliceAt T (.slice A m c) low high none).run P W = .ok (.slice (if c = lo then A else A.map (·.add (lo * s))) (hi - lo) (c - lo)) W := by
  obtain ⟨hu, hs⟩ := pSlc_und hT
  have eh : (match high with | some v => Instr.sliceBound v c .sliceAcap | none => (pure m : Sem Nat)).run P W = .ok hi W := by
    rcases hhi with ⟨rfl, rfl⟩ | ⟨k, i, rfl, h0, hi'⟩
    · simp
    · subst hi'; exact run_bound rfl h0 h2
  have el : (match low with | some v => Instr.sliceBound v hi .sliceB | none => (pure 0 : Sem Nat)).run P W = .ok lo W := by
    rcases hlo with ⟨rfl, rfl⟩ | ⟨k, i, rfl, h0, hi'⟩
    · simp
    · subst hi'; exact run_bound rfl h0 h1
  have eb : (Instr.sliceBounds true m c low high none).run P W = .ok (lo, hi, c) W := by
    cases high <;> cases low <;> simp only [Instr.sliceBounds, Sem.run_bind, Sem.run_pure, Result.andThen_ok, if_true, Option.isSome_none, Bool.false_eq_true, if_false] at eh el ⊢ <;> simp_all
  simp only [Instr.sliceAt, Sem.run_bind, run_underlying hu, Result.andThen_ok, Instr.slice, eb, run_sizeOf' hs, Sem.run_pure]
theorem SlR.cut {M : Nat → Prop} {A : Option Addr} {c : Nat} {xs : List α} (h : SlR κ M W A c xs) {lo hi : Nat} (h1 : lo ≤ hi) (h2 : hi ≤ xs.length) :
    SlR κ M W (if c = lo then A else A.map (·.add (lo * κ.sz))) (c - lo) ((xs.take hi).drop lo) := by
  have hc := h.1
  refine ⟨by simp; omega, by have := h.2.1; omega, fun hA => ?_, fun i x hx => ?_⟩
  · have hn : A = none := by
      split at hA
      · exact hA
      · simpa using hA
    obtain ⟨e1, e2⟩ := h.2.2.1 hn
    subst e1; subst e2
    simp
  · rw [List.getElem?_drop, List.getElem?_take] at hx
    split at hx
    case isFalse => cases hx
    rename_i hlt
    obtain ⟨a, cs, hA, hm, hb, hcs, hr⟩ := h.2.2.2 _ x hx
    rw [if_neg (by omega), hA]
    refine ⟨_, cs, rfl, by rw [add_block]; exact hm, by rw [add_block]; exact hb, ?_, hr⟩
    rw [add_add, ← Nat.add_mul]
    exact hcs
theorem cut_len (xs : List α) {lo hi : Nat} (h2 : hi ≤ xs.length) : ((xs.take hi).drop lo).length = hi - lo := by simp; omega

variable {a : Act} {n : Nat} {L : List (Nat × Value)}
def lkOpt (L : List (Nat × Value)) : Option Operand → Option (Option Value)
  | none => some none
  | some x => (lkO L x).map some
theorem lkOpt_map (hF : FH n L a) {x : Option Operand} {v : Option Value} (h : lkOpt L x = some v) : x.map a.eval = v := by
  cases x with
  | none => simp [lkOpt] at h; subst h; rfl
  | some y =>
    simp only [lkOpt, Option.map_eq_some_iff] at h
    obtain ⟨u, hu, rfl⟩ := h
    simp [hF.ev hu]
/-- A slice of a slice that is read. -/
theorem v_slice (hF : FH n L a) {T e : TypeId} {x : Operand} {low high : Option Operand} {lv hv : Option Value} {A : Option Addr} {c lo hi : Nat} {xs : List α} (hx : lkO L x = some (.slice A xs.length c)) (hl : lkOpt L low = some lv) (hh : lkOpt L high = some hv)
    (hT : pSlc P T = some (e, κ.sz)) (hlo : Bnd lv 0 lo) (hhi : Bnd hv xs.length hi) (h1 : lo ≤ hi) (h2 : hi ≤ xs.length) (hc : xs.length ≤ c) :
    Val P a W (.slice T x low high none) (.slice (if c = lo then A else A.map (·.add (lo * κ.sz))) ((xs.take hi).drop lo).length (c - lo)) := fun d ty pos af g => by
  have hr := run_slice_sl (P := P) (W := W) (A := A) hT hlo hhi h1 (Nat.le_trans h2 hc)
  simp only [execOp, hF.ev hx, lkOpt_map hF hl, lkOpt_map hF hh, Option.map_none, Sem.run_bind, hr, Result.andThen_ok, Sem.run_pure, cut_len xs h2]
/-- 's[:len(s):len(s)]'. -/
theorem v_clip (hF : FH n L a) {T e : TypeId} {x y z : Operand} {s : Nat} {A : Option Addr} {c m : Nat} (hx : lkO L x = some (.slice A m c)) (hy : lkO L y = some (.int .i64 m)) (hz : lkO L z = some (.int .i64 m))
    (hT : pSlc P T = some (e, s)) (hc : m ≤ c) : Val P a W (.slice T x none (some y) (some z)) (.slice A m m) := fun d ty pos af g => by
  obtain ⟨hu, hs⟩ := pSlc_und hT
  have e1 : ∀ code y, m ≤ y → (Instr.sliceBound (.int .i64 (m : Int)) y code).run P W = .ok m W := fun code y hy => by
    have := run_bound (P := P) (W := W) (code := code) (y := y) (v := .int .i64 (m : Int)) rfl (by omega) (by simpa using hy)
    simpa using this
  have eb : (Instr.sliceBounds true m c none (some (.int .i64 (m : Int))) (some (.int .i64 (m : Int)))).run P W = .ok (0, m, m) W := by
    simp only [Instr.sliceBounds, Sem.run_bind, if_true, e1 _ c hc, e1 _ m (Nat.le_refl _), Result.andThen_ok, Sem.run_pure]
  simp only [execOp, hF.ev hx, Option.map_none, Option.map_some, hF.ev hy, hF.ev hz, Instr.sliceAt, Sem.run_bind, run_underlying hu, Result.andThen_ok, Instr.slice, eb, run_sizeOf' hs, Sem.run_pure]
  cases A <;> by_cases h0 : m = 0 <;> simp [h0, add_zero']
theorem v_sliceS (hF : FH n L a) {T : TypeId} {x : Operand} {low high : Option Operand} {lv hv : Option Value} {b : ByteArray} {lo hi : Nat} (hx : lkO L x = some (.string b)) (hl : lkOpt L low = some lv) (hh : lkOpt L high = some hv)
    (hT : P.underlying T = some .string) (hlo : Bnd lv 0 lo) (hhi : Bnd hv b.size hi) (h1 : lo ≤ hi) (h2 : hi ≤ b.size) : Val P a W (.slice T x low high none) (.string (b.extract lo hi)) := fun d ty pos af g => by
  have eh : (match hv with | some v => Instr.sliceBound v b.size .sliceAlen | none => (pure b.size : Sem Nat)).run P W = .ok hi W := by
    rcases hhi with ⟨rfl, rfl⟩ | ⟨k, i, rfl, h0, hi'⟩
    · simp
    · subst hi'; exact run_bound rfl h0 h2
  have el : (match lv with | some v => Instr.sliceBound v hi .sliceB | none => (pure 0 : Sem Nat)).run P W = .ok lo W := by
    rcases hlo with ⟨rfl, rfl⟩ | ⟨k, i, rfl, h0, hi'⟩
    · simp
    · subst hi'; exact run_bound rfl h0 h1
  have eb : (Instr.sliceBounds false b.size b.size lv hv none).run P W = .ok (lo, hi, b.size) W := by
    cases hv <;> cases lv <;> simp only [Instr.sliceBounds, Sem.run_bind, Sem.run_pure, Result.andThen_ok, Bool.false_eq_true, if_false, Option.isSome_none] at eh el ⊢ <;> simp_all
  simp only [execOp, hF.ev hx, lkOpt_map hF hl, lkOpt_map hF hh, Option.map_none, Instr.sliceAt, Sem.run_bind, run_underlying hT, Result.andThen_ok, Instr.slice, eb, Option.isSome_none, Bool.false_eq_true, if_false, Sem.run_pure]

/-! ### Bytes and strings -/
def bytesL (s : ByteArray) : List Int := s.data.toList.map fun b => (b.toNat : Int)
def toBytes (s : ByteArray) : Option (List Int) := if s.size ≤ 140737488351232 then some (bytesL s) else none
theorem v_toStr {M : Nat → Prop} (hF : FH n L a) {S T e : TypeId} {x : Operand} {A : Option Addr} {c : Nat} {xs : List Int} (hx : lkO L x = some (.slice A xs.length c)) (hsrc : Src (kInt .u8) M W A xs)
    (hS : P.underlying S = some (.slice e)) (he : P.underlying e = some (.int .u8)) (hT : P.underlying T = some .string) : Val P a W (.convert S T x) (.string (strOfNums xs)) := fun d ty pos af g => by
  obtain ⟨css, hel, hc, hn⟩ := hsrc
  have hcs : css.flatten = xs.map (Value.int .u8) := by
    have h1 := hel.1
    have h2 := hel.2
    clear hel hc hn hx
    induction css generalizing xs with
    | nil => simp at h1; rw [List.eq_nil_of_length_eq_zero h1.symm]; rfl
    | cons cc css ih =>
      cases xs with
      | nil => simp at h1
      | cons x xs =>
        have h0 : cc = [.int .u8 x] := h2 0 cc x rfl rfl
        have := ih (xs := xs) (by simpa using h1) (fun i cs y ha hb => h2 (i + 1) cs y (by simpa using ha) (by simpa using hb))
        simp [h0, this]
  have hr : (convert S T (.slice A xs.length c)).run P W = .ok (.string (strOfNums xs)) W := by
    cases A with
    | none =>
      have := hn rfl
      subst this
      rw [run_convert_bytes_nil W S e hS he _ _ T hT]
      rfl
    | some ad =>
      have hl : (loadCells ad xs.length).run P W = .ok (xs.map (Value.int .u8)).toArray W := by
        have h3 := run_loadCells_list (P := P) W ad (xs.map (Value.int .u8)) (by rw [← hcs]; exact hc ad rfl)
        simpa using h3
      rw [run_convert_bytes_string W S T e _ xs.length c hS he hT, run_bytesToString W _ xs.length c xs hl, foldl_push_bytes]
      simp [strOfNums, ByteArray.empty, ByteArray.emptyWithCapacity]
      rfl
  simp only [execOp, hF.ev hx, Sem.run_bind, hr, Result.andThen_ok, Sem.run_pure]
end
section
variable {P : Program} {ops : Array Oper} {Q : Exit → Act → World → Prop} {a : Act} {W : World} {rest : List Oper} {n : Nat} {L : List (Nat × Value)}
  {d : Nat} {op : Op} {ty : TypeId} {pos : String} {af : Array Edge} {g : Option (Nat × Bool)} {v : Value}
  {M0 : Nat → Prop} {w0 : World} {bs : List Box} {rs : List Row} {fs : List Fact} {α : Type} {κ : Kd α}
/-- A row of the call's own that a law has made. -/
theorem St.addOwn {W' : World} (hS : St M0 w0 bs rs fs W) (hB : Bl W.heap.size W W') {E : TypeId} {A : Option Addr} {c : Nat} {css : List (List Value)} {xs : List α} (he : Els κ (Mut M0 bs rs) W css xs)
    (ho : OwnR W' W.heap.size E κ.sz A c xs.length css.flatten) : St M0 w0 bs (⟨κ, E, A, c, xs⟩ :: rs) fs W' := by
  have s : Stp (Mut M0 bs rs) W (Mut (Mut M0 bs rs) [] [⟨κ, E, A, c, xs⟩]) W' := by
    refine ⟨hB.size, fun k hk _ => hB.block k hk, fun k hk hm => ?_⟩
    rintro (h1 | ⟨_, h2, _⟩ | ⟨r, hr, e⟩)
    · exact hm h1
    · cases h2
    · rcases List.mem_singleton.1 hr with rfl
      have := (ho.lt e).1
      omega
  have k : St (Mut M0 bs rs) W [] [⟨κ, E, A, c, xs⟩] [] W' := by
    refine ⟨hS.mut_lt, hB, by simp, fun r hr => ?_, by simp, by simp, by simp, by simp⟩
    rcases List.mem_singleton.1 hr with rfl
    exact ⟨css, he.st s, ho⟩
  simpa using hS.join k
theorem sq_toBytes {S T e : TypeId} {x : Operand} {s : ByteArray} {ys : List Int} (hF : FH n L a) (hS : St M0 w0 bs rs fs W) (hx : lkO L x = some (.string s)) (hu : P.underlying S = some .string) (hT : P.underlying T = some (.slice e)) (he : P.underlying e = some (.int .u8)) (hb : toBytes s = some ys) (hd : d < n)
    (K : ∀ A c a W, FH n ((d, .slice A ys.length c) :: L) a → St M0 w0 bs (⟨kInt .u8, e, A, c, ys⟩ :: rs) fs W → wpList P ops Q rest a W) :
    wpList P ops Q (⟨some d, .convert S T x, ty, pos, af, none⟩ :: rest) a W := by
  unfold toBytes at hb
  split at hb
  case isFalse => cases hb
  rename_i hsz
  cases hb
  have hr := Lib.run_convert_string_bytes (P := P) W S T e s hu hT he
  have hds : s.data.toList.length = s.size := by rw [Array.length_toList]; rfl
  have hlen : (bytesL s).length = s.size := by unfold bytesL; rw [List.length_map]; exact hds
  have hrun : (execOp a.eval ⟨some d, .convert S T x, ty, pos, af, none⟩).run P W = .ok (.value (.slice (some ⟨W.heap.size, 0, none⟩) (bytesL s).length (grownCap W s.size 0 e))) (Lib.bytesWorld W e s) := by
    simp only [execOp, hF.ev hx, Sem.run_bind, hr, Result.andThen_ok, Sem.run_pure, hlen]
  have hB0 : Below W.heap.size W (Lib.bytesWorld W e s) :=
    ⟨by simp [Lib.bytesWorld, World.freeze, World.alloc, World.drew, -World.alloc_eq, -World.drew_eq], by simp [Lib.bytesWorld, World.freeze, World.alloc, World.drew, -World.alloc_eq, -World.drew_eq], by simp [Lib.bytesWorld, World.freeze, World.alloc, World.drew, -World.alloc_eq, -World.drew_eq], by rw [Lib.bytesWorld_size]; omega, fun k hk => Lib.bytesWorld_at_old W e s k hk⟩
  have hB : Bl W.heap.size W (Lib.bytesWorld W e s) := ⟨hB0, run_drawn _ _ _ _ hr⟩
  have hge := grownCap_ge W s.size 0 e
  have hcm : grownCap W s.size 0 e ≤ maxLen := grownCap_le_maxLen W s.size 0 e (by unfold maxLen; omega)
  have hfl : ((bytesL s).map fun x => [Value.int .u8 x]).flatten = s.data.toList.map fun b => Value.int .u8 b.toNat := by
    simp only [bytesL, List.map_map]
    generalize s.data.toList = l
    induction l with
    | nil => rfl
    | cons x l ih => simpa using ih
  have hcsz : (Lib.bytesCells W e s).size = grownCap W s.size 0 e := by
    simp only [Lib.bytesCells, Array.size_append, Array.size_map, Array.size_replicate]
    have h5 : s.data.size = s.size := rfl
    rw [h5]; omega
  refine sq_run hrun hF hd fun a hF => K _ _ a _ hF (hS.addOwn hB (css := (bytesL s).map fun x => [Value.int .u8 x]) ⟨by simp, fun i cs y h1 h2 => ?_⟩ ?_)
  · rw [List.getElem?_map, h2] at h1
    simp at h1
    exact h1.symm
  · refine ⟨by rw [hfl, hlen, List.length_map, hds]; exact (Nat.mul_one _).symm, .inr ⟨W.heap.size, Lib.bytesCells W e s, _, rfl, Nat.le_refl _, Lib.bytesWorld_at_new W e s, by rw [hlen]; exact hge, hcm, by rw [hcsz]; exact Nat.le_of_eq (Nat.mul_one _), .inr ⟨rfl, Nat.le_refl _⟩, ?_⟩⟩
    rw [hfl, hlen]
    show List.take (s.size * 1) _ = _
    simp only [Lib.bytesCells, Array.toList_append, Array.toList_map, Nat.mul_one]
    rw [List.take_append_of_le_length (by rw [List.length_map, hds]; exact Nat.le_refl _)]
    exact List.take_of_length_le (by rw [List.length_map, hds]; exact Nat.le_refl _)
end
end Go.Pod
