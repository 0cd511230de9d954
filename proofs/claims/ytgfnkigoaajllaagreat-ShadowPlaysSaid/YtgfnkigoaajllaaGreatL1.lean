/- Plain words for proofs about calls: what a frame's slots hold, what memory of the call's own holds, what is shared and unchanged. Nothing of the program in it. -/
import Derived.Test.YtgfnkigoaajllaaGreatL0
set_option linter.unusedVariables false
namespace Go.Pod
open Go.RowKit

/-! ### From one world to a later one: what lies below and is not written stays -/
structure Stp (M : Nat → Prop) (W : World) (M' : Nat → Prop) (W' : World) : Prop where
  size : W.heap.size ≤ W'.heap.size
  blk : ∀ k, k < W.heap.size → ¬ M k → W'.heap[k]? = W.heap[k]?
  mu : ∀ k, k < W.heap.size → ¬ M k → ¬ M' k

theorem Stp.refl (M : Nat → Prop) (W : World) : Stp M W M W := ⟨Nat.le_refl _, fun _ _ _ => rfl, fun _ _ h => h⟩
theorem Stp.trans {M M' M'' : Nat → Prop} {W W' W'' : World} (h : Stp M W M' W') (k : Stp M' W' M'' W'') : Stp M W M'' W'' :=
  ⟨Nat.le_trans h.size k.size, fun i hi hm => (k.blk i (Nat.lt_of_lt_of_le hi h.size) (h.mu i hi hm)).trans (h.blk i hi hm),
   fun i hi hm => k.mu i (Nat.lt_of_lt_of_le hi h.size) (h.mu i hi hm)⟩
theorem Stp.below {M : Nat → Prop} {W W' : World} (h : Bl W.heap.size W W') : Stp M W M W' := ⟨h.size, fun k hk _ => h.block k hk, fun _ _ h => h⟩
theorem Stp.mut {M M' : Nat → Prop} {W : World} (h : ∀ k, k < W.heap.size → M' k → M k) : Stp M W M' W :=
  ⟨Nat.le_refl _, fun _ _ _ => rfl, fun k hk hm hm' => hm (h k hk hm')⟩

/-- Cells from an address on. -/
def CellsAt (W : World) (a : Addr) (cs : List Value) : Prop := ∀ (j : Nat) (u : Value), cs[j]? = some u → W.cell? (a.add j) = some u

theorem add_block (a : Addr) (j : Nat) : (a.add j).block = a.block := by unfold Addr.add; split <;> rfl
theorem add_add (a : Addr) (i j : Nat) : (a.add i).add j = a.add (i + j) := by
  unfold Addr.add
  by_cases hi : i = 0
  · subst hi; simp
  · by_cases hj : j = 0
    · subst hj; simp [hi]
    · simp [hi, hj, Nat.add_assoc]
theorem add_zero' (a : Addr) : a.add 0 = a := by simp [Addr.add]
theorem add_plain (g o j : Nat) : (⟨g, o, none⟩ : Addr).add j = ⟨g, o + j, none⟩ := by unfold Addr.add; split <;> simp_all

theorem cell_lt {W : World} {a : Addr} {v : Value} (h : W.cell? a = some v) : a.block < W.heap.size := World.block_lt_of_cell? W a h
theorem CellsAt.stp {M M' : Nat → Prop} {W W' : World} {a : Addr} {cs : List Value} (h : CellsAt W a cs) (hm : ¬ M a.block) (s : Stp M W M' W') : CellsAt W' a cs := by
  intro j u hj
  have h1 := h j u hj
  have hb : (a.add j).block = a.block := add_block a j
  have hlt := cell_lt h1
  rw [World.cell?_of_block (w := W) (s.blk _ hlt (by rw [hb]; exact hm))]
  exact h1
theorem CellsAt.sub {W : World} {a : Addr} {cs ds : List Value} {o : Nat} (h : CellsAt W a cs) (hs : ∀ (j : Nat) (u : Value), ds[j]? = some u → cs[o + j]? = some u) : CellsAt W (a.add o) ds := by
  intro j u hj
  rw [add_add]
  exact h _ _ (hs j u hj)

/-! ### Kinds: how a value stands in cells -/
structure Kd (α : Type) where
  sz : Nat
  R : (Nat → Prop) → World → List Value → α → Prop
  len : ∀ {M W cs x}, R M W cs x → cs.length = sz
  one : ∀ {M W cs x}, R M W cs x → ∀ u ∈ cs, u.oneCell' = true
  st : ∀ {M W M' W' cs x}, R M W cs x → Stp M W M' W' → R M' W' cs x

/-- A kind whose cells hang on the value alone. -/
def Kd.flat {α : Type} (sz : Nat) (enc : α → List Value) (hl : ∀ x, (enc x).length = sz) (h1 : ∀ x, ∀ u ∈ enc x, u.oneCell' = true) : Kd α where
  sz := sz
  R := fun _ _ cs x => cs = enc x
  len := fun h => by rw [h]; exact hl _
  one := fun h => by rw [h]; exact h1 _
  st := fun h _ => h

def kInt (k : IntKind) : Kd Int := Kd.flat 1 (fun x => [.int k x]) (fun _ => rfl) (fun x u h => by simp at h; subst h; rfl)
def kBool : Kd Bool := Kd.flat 1 (fun x => [.bool x]) (fun _ => rfl) (fun x u h => by simp at h; subst h; rfl)
def kStr : Kd ByteArray := Kd.flat 1 (fun x => [.string x]) (fun _ => rfl) (fun x u h => by simp at h; subst h; rfl)

/-- A slice that is read: nil, empty or not; its elements lie where nothing is written. -/
def SlR {α : Type} (κ : Kd α) (M : Nat → Prop) (W : World) (A : Option Addr) (c : Nat) (xs : List α) : Prop :=
  xs.length ≤ c ∧ c ≤ maxLen ∧ (A = none → xs = [] ∧ c = 0) ∧
  ∀ i x, xs[i]? = some x → ∃ a cs, A = some a ∧ ¬ M a.block ∧ a.block < W.heap.size ∧ CellsAt W (a.add (i * κ.sz)) cs ∧ κ.R M W cs x

theorem SlR.st {α : Type} {κ : Kd α} {M M' : Nat → Prop} {W W' : World} {A : Option Addr} {c : Nat} {xs : List α} (h : SlR κ M W A c xs) (s : Stp M W M' W') : SlR κ M' W' A c xs := by
  refine ⟨h.1, h.2.1, h.2.2.1, fun i x hx => ?_⟩
  obtain ⟨a, cs, hA, hm, hlt, hc, hr⟩ := h.2.2.2 i x hx
  exact ⟨a, cs, hA, s.mu _ hlt hm, Nat.lt_of_lt_of_le hlt s.size, hc.stp (by rw [add_block]; exact hm) s, κ.st hr s⟩
theorem SlR.nil {α : Type} (κ : Kd α) (M : Nat → Prop) (W : World) : SlR κ M W none 0 [] := ⟨Nat.le_refl _, Nat.zero_le _, fun _ => ⟨rfl, rfl⟩, fun i x h => by simp at h⟩

/-- A slice inside a struct or a slice. -/
def kSl {α : Type} (κ : Kd α) : Kd (List α) where
  sz := 1
  R := fun M W cs xs => ∃ A c, cs = [.slice A xs.length c] ∧ SlR κ M W A c xs
  len := fun ⟨_, _, h, _⟩ => by rw [h]; rfl
  one := fun ⟨_, _, h, _⟩ u hu => by rw [h] at hu; simp at hu; subst hu; rfl
  st := fun ⟨A, c, h, k⟩ s => ⟨A, c, h, k.st s⟩

/-- Rows of cells, one an element. -/
def Els {α : Type} (κ : Kd α) (M : Nat → Prop) (W : World) (css : List (List Value)) (xs : List α) : Prop :=
  css.length = xs.length ∧ ∀ (i : Nat) (cs : List Value) (x : α), css[i]? = some cs → xs[i]? = some x → κ.R M W cs x

theorem Els.st {α : Type} {κ : Kd α} {M M' : Nat → Prop} {W W' : World} {css : List (List Value)} {xs : List α} (h : Els κ M W css xs) (s : Stp M W M' W') : Els κ M' W' css xs :=
  ⟨h.1, fun i cs x h1 h2 => κ.st (h.2 i cs x h1 h2) s⟩
theorem Els.nil {α : Type} (κ : Kd α) (M : Nat → Prop) (W : World) : Els κ M W [] [] := ⟨rfl, fun i cs x h => by simp at h⟩
theorem Els.append {α : Type} {κ : Kd α} {M : Nat → Prop} {W : World} {c1 c2 : List (List Value)} {x1 x2 : List α} (h : Els κ M W c1 x1) (k : Els κ M W c2 x2) : Els κ M W (c1 ++ c2) (x1 ++ x2) := by
  refine ⟨by simp [h.1, k.1], fun i cs x h1 h2 => ?_⟩
  rcases Nat.lt_or_ge i c1.length with hi | hi
  · rw [List.getElem?_append_left hi] at h1
    rw [List.getElem?_append_left (by rw [← h.1]; exact hi)] at h2
    exact h.2 i cs x h1 h2
  · rw [List.getElem?_append_right hi] at h1
    rw [List.getElem?_append_right (by rw [← h.1]; exact hi), ← h.1] at h2
    exact k.2 _ cs x h1 h2
theorem Els.one1 {α : Type} {κ : Kd α} {M : Nat → Prop} {W : World} {cs : List Value} {x : α} (h : κ.R M W cs x) : Els κ M W [cs] [x] := by
  refine ⟨rfl, fun i ds y h1 h2 => ?_⟩
  match i with
  | 0 => simp at h1 h2; subst h1; subst h2; exact h
  | i + 1 => simp at h1
theorem Els.take {α : Type} {κ : Kd α} {M : Nat → Prop} {W : World} {css : List (List Value)} {xs : List α} (h : Els κ M W css xs) (n : Nat) : Els κ M W (css.take n) (xs.take n) := by
  refine ⟨by simp [h.1], fun i cs x h1 h2 => ?_⟩
  simp only [List.getElem?_take] at h1 h2
  split at h1
  · rw [if_pos (by assumption)] at h2; exact h.2 i cs x h1 h2
  · simp at h1
theorem Els.set {α : Type} {κ : Kd α} {M : Nat → Prop} {W : World} {css : List (List Value)} {xs : List α} (h : Els κ M W css xs) (n : Nat) {cs : List Value} {x : α} (hr : κ.R M W cs x) : Els κ M W (css.set n cs) (xs.set n x) := by
  refine ⟨by simp [h.1], fun i ds y h1 h2 => ?_⟩
  simp only [List.getElem?_set] at h1 h2
  by_cases hn : n = i
  · subst hn
    rw [if_pos rfl] at h1 h2
    split at h1
    · split at h2
      · simp at h1 h2; subst h1; subst h2; exact hr
      · simp at h2
    · simp at h1
  · rw [if_neg hn] at h1 h2
    exact h.2 i ds y h1 h2
theorem flatten_length {css : List (List Value)} {n : Nat} (h : ∀ cs ∈ css, cs.length = n) : css.flatten.length = css.length * n := by
  induction css with
  | nil => simp
  | cons c cs ih =>
    simp only [List.flatten_cons, List.length_append, List.length_cons]
    rw [h c (by simp), ih (fun x hx => h x (by simp [hx])), Nat.add_mul, Nat.one_mul, Nat.add_comm]
theorem Els.lens {α : Type} {κ : Kd α} {M : Nat → Prop} {W : World} {css : List (List Value)} {xs : List α} (h : Els κ M W css xs) : ∀ cs ∈ css, cs.length = κ.sz := by
  intro cs hc
  obtain ⟨i, hi, rfl⟩ := List.getElem_of_mem hc
  exact κ.len (h.2 i _ (xs[i]'(by rw [← h.1]; exact hi)) (List.getElem?_eq_getElem hi) (List.getElem?_eq_getElem _))
theorem Els.ones {α : Type} {κ : Kd α} {M : Nat → Prop} {W : World} {css : List (List Value)} {xs : List α} (h : Els κ M W css xs) : ∀ u ∈ css.flatten, u.oneCell' = true := by
  intro u hu
  obtain ⟨cs, hc, hu⟩ := List.mem_flatten.1 hu
  obtain ⟨i, hi, rfl⟩ := List.getElem_of_mem hc
  exact κ.one (h.2 i _ (xs[i]'(by rw [← h.1]; exact hi)) (List.getElem?_eq_getElem hi) (List.getElem?_eq_getElem _)) u hu
theorem Els.flen {α : Type} {κ : Kd α} {M : Nat → Prop} {W : World} {css : List (List Value)} {xs : List α} (h : Els κ M W css xs) : css.flatten.length = xs.length * κ.sz := by
  rw [flatten_length h.lens, h.1]
/-- The i-th row's cells inside all of them. -/
theorem flatten_get {css : List (List Value)} {n : Nat} (h : ∀ cs ∈ css, cs.length = n) {i : Nat} {cs : List Value} (hi : css[i]? = some cs) {j : Nat} {u : Value} (hj : cs[j]? = some u) : css.flatten[i * n + j]? = some u := by
  induction css generalizing i with
  | nil => simp at hi
  | cons c rest ih =>
    have hc : c.length = n := h c (by simp)
    match i with
    | 0 =>
      simp at hi; subst hi
      simp only [List.flatten_cons, Nat.zero_mul, Nat.zero_add]
      rw [List.getElem?_append_left (List.getElem?_eq_some_iff.1 hj).1]
      exact hj
    | i + 1 =>
      simp only [List.getElem?_cons_succ] at hi
      simp only [List.flatten_cons]
      rw [List.getElem?_append_right (by rw [hc, Nat.add_mul]; omega)]
      have := ih (fun x hx => h x (by simp [hx])) hi
      rw [hc, Nat.add_mul, Nat.one_mul, show i * n + n + j - n = i * n + j from by omega]
      exact this

/-! ### A row of the call's own -/
def OwnR (W : World) (base : Nat) (E : TypeId) (sz : Nat) (A : Option Addr) (c n : Nat) (cs : List Value) : Prop :=
  cs.length = n * sz ∧ ((A = none ∧ c = 0 ∧ n = 0) ∨
    ∃ g cur fr, A = some ⟨g, 0, none⟩ ∧ base ≤ g ∧ W.heap[g]? = some (.cells cur E fr) ∧ n ≤ c ∧ c ≤ maxLen ∧ c * sz ≤ cur.size ∧ (fr = (0, 0) ∨ (sz = 1 ∧ cur.size ≤ fr.1)) ∧ cur.toList.take (n * sz) = cs)

theorem OwnR.nil (W : World) (base : Nat) (E : TypeId) (sz : Nat) : OwnR W base E sz none 0 0 [] := ⟨by simp, .inl ⟨rfl, rfl, rfl⟩⟩
theorem OwnR.lt {W : World} {base : Nat} {E : TypeId} {sz : Nat} {A : Option Addr} {c n : Nat} {cs : List Value} (h : OwnR W base E sz A c n cs) {k : Nat} (hk : A.map (·.block) = some k) : base ≤ k ∧ k < W.heap.size := by
  rcases h.2 with ⟨rfl, _⟩ | ⟨g, cur, fr, rfl, hb, hh, _⟩
  · simp at hk
  · simp at hk; subst hk; exact ⟨hb, (Array.getElem?_eq_some_iff.1 hh).1⟩
theorem OwnR.kept {W W' : World} {base : Nat} {E : TypeId} {sz : Nat} {A : Option Addr} {c n : Nat} {cs : List Value} (h : OwnR W base E sz A c n cs) (hk : ∀ k, A.map (·.block) = some k → W'.heap[k]? = W.heap[k]?) : OwnR W' base E sz A c n cs := by
  refine ⟨h.1, ?_⟩
  rcases h.2 with h0 | ⟨g, cur, fr, rfl, hb, hh, r⟩
  · exact .inl h0
  · exact .inr ⟨g, cur, fr, rfl, hb, by rw [hk g rfl]; exact hh, r⟩
theorem OwnR.base {W : World} {base base' : Nat} {E : TypeId} {sz : Nat} {A : Option Addr} {c n : Nat} {cs : List Value} (h : OwnR W base E sz A c n cs) (hb : base' ≤ base) : OwnR W base' E sz A c n cs := by
  refine ⟨h.1, ?_⟩
  rcases h.2 with h0 | ⟨g, cur, fr, hA, hg, r⟩
  · exact .inl h0
  · exact .inr ⟨g, cur, fr, hA, Nat.le_trans hb hg, r⟩
theorem OwnR.cells {W : World} {base : Nat} {E : TypeId} {sz : Nat} {A : Option Addr} {c n : Nat} {cs : List Value} (h : OwnR W base E sz A c n cs) {a : Addr} (ha : A = some a) : CellsAt W a cs := by
  rcases h.2 with ⟨rfl, _⟩ | ⟨g, cur, fr, rfl, hb, hh, _, _, _, _, ht⟩
  · simp at ha
  · simp at ha; subst ha
    intro j u hu
    rw [add_plain, cell_of_row W g (0 + j) cur E fr hh]
    rw [← ht, List.getElem?_take] at hu
    split at hu
    · simpa using hu
    · cases hu
theorem OwnR.caps {W : World} {base : Nat} {E : TypeId} {sz : Nat} {A : Option Addr} {c n : Nat} {cs : List Value} (h : OwnR W base E sz A c n cs) : n ≤ c ∧ c ≤ maxLen := by
  rcases h.2 with ⟨_, rfl, rfl⟩ | ⟨g, cur, fr, rfl, hb, hh, h1, h2, _⟩
  · exact ⟨Nat.le_refl _, Nat.zero_le _⟩
  · exact ⟨h1, h2⟩

structure Row where
  {α : Type}
  κ : Kd α
  E : TypeId
  A : Option Addr
  c : Nat
  xs : List α
def Row.blk (r : Row) : Option Nat := r.A.map (·.block)
def Row.ok (r : Row) (base : Nat) (M : Nat → Prop) (W : World) : Prop := ∃ css : List (List Value), Els r.κ M W css r.xs ∧ OwnR W base r.E r.κ.sz r.A r.c r.xs.length css.flatten

structure Box where
  b : Nat
  cs : List Value
  T : TypeId
def Box.ok (x : Box) (base : Nat) (W : World) : Prop := base ≤ x.b ∧ W.heap[x.b]? = some (.cells x.cs.toArray x.T (0, 0))

/-- What is known and stays known. -/
structure Fact where
  p : (Nat → Prop) → World → Prop
  st : ∀ {M W M' W'}, p M W → Stp M W M' W' → p M' W'

def fSl {α : Type} (κ : Kd α) (A : Option Addr) (c : Nat) (xs : List α) : Fact := ⟨fun M W => SlR κ M W A c xs, fun h s => h.st s⟩
def AtR {α : Type} (κ : Kd α) (M : Nat → Prop) (W : World) (a : Addr) (cs : List Value) (x : α) : Prop := ¬ M a.block ∧ a.block < W.heap.size ∧ CellsAt W a cs ∧ κ.R M W cs x
/-- A place that is read: its cells. -/
def fAt {α : Type} (κ : Kd α) (a : Addr) (cs : List Value) (x : α) : Fact :=
  ⟨fun M W => AtR κ M W a cs x, fun h s => ⟨s.mu _ h.2.1 h.1, Nat.lt_of_lt_of_le h.2.1 s.size, h.2.2.1.stp h.1 s, κ.st h.2.2.2 s⟩⟩
/-- A value's cells. -/
def fVal {α : Type} (κ : Kd α) (cs : List Value) (x : α) : Fact := ⟨fun M W => κ.R M W cs x, fun h s => κ.st h s⟩
/-- A variable that is written no more. -/
def fBox (b : Nat) (cs : List Value) (T : TypeId) : Fact :=
  ⟨fun M W => ¬ M b ∧ W.heap[b]? = some (.cells cs.toArray T (0, 0)), fun {M W M' W'} h s => by
    have hlt := (Array.getElem?_eq_some_iff.1 h.2).1
    exact ⟨s.mu _ hlt h.1, (s.blk _ hlt h.1).trans h.2⟩⟩

def Mut (M0 : Nat → Prop) (bs : List Box) (rs : List Row) : Nat → Prop := fun k => M0 k ∨ (∃ x ∈ bs, x.b = k) ∨ (∃ r ∈ rs, r.blk = some k)

structure St (M0 : Nat → Prop) (w0 : World) (bs : List Box) (rs : List Row) (fs : List Fact) (W : World) : Prop where
  valid : ∀ k, M0 k → k < w0.heap.size
  below : Bl w0.heap.size w0 W
  box : ∀ x ∈ bs, x.ok w0.heap.size W
  row : ∀ r ∈ rs, r.ok w0.heap.size (Mut M0 bs rs) W
  bnd : (bs.map (·.b)).Nodup
  rnd : rs.Pairwise (fun r r' => ∀ k, r.blk = some k → r'.blk ≠ some k)
  brd : ∀ x ∈ bs, ∀ r ∈ rs, r.blk ≠ some x.b
  fact : ∀ f ∈ fs, f.p (Mut M0 bs rs) W

theorem Box.ok.lt {x : Box} {base : Nat} {W : World} (h : x.ok base W) : x.b < W.heap.size := (Array.getElem?_eq_some_iff.1 h.2).1
theorem Row.ok.lt {r : Row} {base : Nat} {M : Nat → Prop} {W : World} (h : r.ok base M W) {k : Nat} (hk : r.blk = some k) : base ≤ k ∧ k < W.heap.size := by
  obtain ⟨css, _, ho⟩ := h
  exact ho.lt hk
theorem St.mut_lt {M0 : Nat → Prop} {w0 : World} {bs : List Box} {rs : List Row} {fs : List Fact} {W : World} (h : St M0 w0 bs rs fs W) : ∀ k, Mut M0 bs rs k → k < W.heap.size := by
  rintro k (hk | ⟨x, hx, rfl⟩ | ⟨r, hr, hk⟩)
  · exact Nat.lt_of_lt_of_le (h.valid k hk) h.below.size
  · exact (h.box x hx).lt
  · exact ((h.row r hr).lt hk).2
theorem St.refl {M : Nat → Prop} {W : World} {fs : List Fact} (hM : ∀ k, M k → k < W.heap.size) (hf : ∀ f ∈ fs, f.p M W) : St M W [] [] fs W :=
  ⟨hM, Bl.refl _ _, by simp, by simp, by simp, by simp, by simp, fun f h => (f.st (hf f h) (Stp.mut (fun k _ hk => by rcases hk with hk | ⟨_, h, _⟩ | ⟨_, h, _⟩ <;> first | exact hk | cases h)))⟩

theorem Mut_nil (M0 : Nat → Prop) : ∀ k, Mut M0 [] [] k → M0 k := by rintro k (hk | ⟨_, h, _⟩ | ⟨_, h, _⟩) <;> first | exact hk | cases h

section
variable {M0 : Nat → Prop} {w0 : World} {bs : List Box} {rs : List Row} {fs : List Fact} {W W' : World}

theorem St.fc (h : St M0 w0 bs rs fs W) {i : Nat} {f : Fact} (hi : fs[i]? = some f) : f.p (Mut M0 bs rs) W := h.fact f (List.mem_of_getElem? hi)
theorem St.bx (h : St M0 w0 bs rs fs W) {i : Nat} {x : Box} (hi : bs[i]? = some x) : x.ok w0.heap.size W := h.box x (List.mem_of_getElem? hi)
theorem St.rw_ (h : St M0 w0 bs rs fs W) {i : Nat} {r : Row} (hi : rs[i]? = some r) : r.ok w0.heap.size (Mut M0 bs rs) W := h.row r (List.mem_of_getElem? hi)

/-- The world has grown. -/
theorem St.grow (h : St M0 w0 bs rs fs W) (k : Bl W.heap.size W W') : St M0 w0 bs rs fs W' := by
  have s : Stp (Mut M0 bs rs) W (Mut M0 bs rs) W' := Stp.below k
  refine ⟨h.valid, h.below.trans (k.mono h.below.size), fun x hx => ?_, fun r hr => ?_, h.bnd, h.rnd, h.brd, fun f hf => f.st (h.fact f hf) s⟩
  · have hb := h.box x hx
    exact ⟨hb.1, (k.block _ hb.lt).trans hb.2⟩
  · obtain ⟨css, he, ho⟩ := h.row r hr
    exact ⟨css, he.st s, ho.kept fun j hj => k.block j (ho.lt hj).2⟩

theorem St.addFact (h : St M0 w0 bs rs fs W) {f : Fact} (hf : f.p (Mut M0 bs rs) W) : St M0 w0 bs rs (f :: fs) W :=
  ⟨h.valid, h.below, h.box, h.row, h.bnd, h.rnd, h.brd, fun g hg => by rcases List.mem_cons.1 hg with rfl | hg; exact hf; exact h.fact g hg⟩

/-- Fewer boxes, rows and facts. -/
theorem St.less {bs' : List Box} {rs' : List Row} {fs' : List Fact} (h : St M0 w0 bs rs fs W) (hb : List.Sublist bs' bs) (hr : List.Sublist rs' rs) (hf : ∀ f ∈ fs', f ∈ fs) : St M0 w0 bs' rs' fs' W := by
  have hm : ∀ k, Mut M0 bs' rs' k → Mut M0 bs rs k := by
    rintro k (hk | ⟨x, hx, hk⟩ | ⟨r, hr', hk⟩)
    · exact .inl hk
    · exact .inr (.inl ⟨x, hb.subset hx, hk⟩)
    · exact .inr (.inr ⟨r, hr.subset hr', hk⟩)
  have s : Stp (Mut M0 bs rs) W (Mut M0 bs' rs') W := Stp.mut fun k _ hk => hm k hk
  refine ⟨h.valid, h.below, fun x hx => h.box x (hb.subset hx), fun r hr' => ?_, h.bnd.sublist (hb.map _), h.rnd.sublist hr, fun x hx r hr' => h.brd x (hb.subset hx) r (hr.subset hr'), fun f hf' => f.st (h.fact f (hf f hf')) s⟩
  obtain ⟨css, he, ho⟩ := h.row r (hr.subset hr')
  exact ⟨css, he.st s, ho⟩

/-- A variable of the call's own, new. -/
theorem St.addBox (h : St M0 w0 bs rs fs W) (cs : List Value) (T : TypeId) : St M0 w0 (⟨W.heap.size, cs, T⟩ :: bs) rs fs (W.alloc (.cells cs.toArray T)) := by
  have hmb : ∀ x ∈ bs, x.b ≠ W.heap.size := fun x hx => Nat.ne_of_lt (h.box x hx).lt
  have s : Stp (Mut M0 bs rs) W (Mut M0 (⟨W.heap.size, cs, T⟩ :: bs) rs) (W.alloc (.cells cs.toArray T)) := by
    refine ⟨by simp, fun k hk _ => Below.heap_alloc _ _ _ hk, fun k hk hm => ?_⟩
    rintro (h1 | ⟨x, hx, rfl⟩ | h3)
    · exact hm (.inl h1)
    · rcases List.mem_cons.1 hx with rfl | hx
      · exact absurd hk (by simp)
      · exact hm (.inr (.inl ⟨x, hx, rfl⟩))
    · exact hm (.inr (.inr h3))
  refine ⟨h.valid, h.below.alloc h.below.size _, fun x hx => ?_, fun r hr => ?_, ?_, h.rnd, fun x hx r hr => ?_, fun f hf => f.st (h.fact f hf) s⟩
  · rcases List.mem_cons.1 hx with rfl | hx
    · exact ⟨h.below.size, heap_alloc_new W _⟩
    · have hb := h.box x hx
      exact ⟨hb.1, (Below.heap_alloc _ _ _ hb.lt).trans hb.2⟩
  · obtain ⟨css, he, ho⟩ := h.row r hr
    exact ⟨css, he.st s, ho.kept fun j hj => Below.heap_alloc _ _ _ (ho.lt hj).2⟩
  · simp only [List.map_cons, List.nodup_cons]
    refine ⟨fun hm => ?_, h.bnd⟩
    obtain ⟨x, hx, he⟩ := List.mem_map.1 hm
    exact hmb x hx he
  · rcases List.mem_cons.1 hx with rfl | hx
    · intro e
      have := ((h.row r hr).lt e).2
      simp at this
    · exact h.brd x hx r hr

/-- One block of the call's own is written; the others, and all that is known, stay. -/
theorem St.write_box (h : St M0 w0 bs rs fs W) {i : Nat} {x : Box} (hi : bs[i]? = some x) (cs : List Value)
    (hg : W.grownBy W' (some x.b)) (hd : W.drawn ≤ W'.drawn) (hw : W'.heap[x.b]? = some (.cells cs.toArray x.T (0, 0))) : St M0 w0 (bs.set i ⟨x.b, cs, x.T⟩) rs fs W' := by
  have hx : x ∈ bs := List.mem_of_getElem? hi
  have hil : i < bs.length := (List.getElem?_eq_some_iff.1 hi).1
  have hmap : (bs.set i ⟨x.b, cs, x.T⟩).map (·.b) = bs.map (·.b) := by
    rw [List.map_set]
    apply List.ext_getElem?
    intro j
    rw [List.getElem?_set]
    split
    · rename_i e; subst e
      simp only [List.length_map, hil, if_true, List.getElem?_map, hi, Option.map_some]
    · rfl
  have hmem : ∀ k, (∃ y ∈ bs.set i ⟨x.b, cs, x.T⟩, y.b = k) ↔ ∃ y ∈ bs, y.b = k := by
    intro k
    have e1 : (∃ y ∈ bs.set i ⟨x.b, cs, x.T⟩, y.b = k) ↔ k ∈ (bs.set i ⟨x.b, cs, x.T⟩).map (·.b) := (List.mem_map (f := fun (x : Box) => x.b)).symm
    have e2 : (∃ y ∈ bs, y.b = k) ↔ k ∈ bs.map (·.b) := (List.mem_map (f := fun (x : Box) => x.b)).symm
    rw [e1, e2, hmap]
  have hM : ∀ k, Mut M0 (bs.set i ⟨x.b, cs, x.T⟩) rs k ↔ Mut M0 bs rs k := fun k => by unfold Mut; rw [hmem k]
  have s : Stp (Mut M0 bs rs) W (Mut M0 (bs.set i ⟨x.b, cs, x.T⟩) rs) W' := by
    refine ⟨hg.size, fun k hk hm => hg.block k hk fun e => hm ?_, fun k _ hm hm' => hm ((hM k).1 hm')⟩
    injection e with e
    exact .inr (.inl ⟨x, hx, e.symm⟩)
  have hbl := h.below
  refine ⟨h.valid, hbl.grown hg hd hbl.size (fun k e => by injection e with e; subst e; exact (h.box x hx).1), fun y hy => ?_, fun r hr => ?_, by rw [hmap]; exact h.bnd, h.rnd, fun y hy r hr => ?_, fun f hf => f.st (h.fact f hf) s⟩
  · obtain ⟨j, hj⟩ := List.mem_iff_getElem?.1 hy
    rw [List.getElem?_set] at hj
    by_cases e : i = j
    · subst e
      simp only [if_true, hil, Option.some.injEq] at hj
      subst hj
      exact ⟨(h.box x hx).1, hw⟩
    · rw [if_neg e] at hj
      have hyb := h.box y (List.mem_of_getElem? hj)
      refine ⟨hyb.1, (hg.block _ hyb.lt fun e' => ?_).trans hyb.2⟩
      injection e' with e'
      have hjl : j < bs.length := (List.getElem?_eq_some_iff.1 hj).1
      have hn := List.pairwise_iff_getElem.1 h.bnd
      have e1 : bs[i] = x := (List.getElem?_eq_some_iff.1 hi).2
      have e2 : bs[j] = y := (List.getElem?_eq_some_iff.1 hj).2
      rcases Nat.lt_or_gt_of_ne e with h1 | h1
      · exact hn i j (by simpa using hil) (by simpa using hjl) h1 (by simp [e1, e2, e'])
      · exact hn j i (by simpa using hjl) (by simpa using hil) h1 (by simp [e1, e2, e'])
  · obtain ⟨css, he, ho⟩ := h.row r hr
    refine ⟨css, he.st s, ho.kept fun j hj => hg.block j (ho.lt hj).2 fun e => ?_⟩
    injection e with e
    exact h.brd x hx r hr (by rw [← e]; exact hj)
  · obtain ⟨z, hz, e⟩ := (hmem y.b).1 ⟨y, hy, rfl⟩
    rw [← e]
    exact h.brd z hz r hr

theorem pair_set {α : Type _} {R : α → α → Prop} {l : List α} (h : l.Pairwise R) (i : Nat) (x : α) (h1 : ∀ j y, l[j]? = some y → j < i → R y x) (h2 : ∀ j y, l[j]? = some y → i < j → R x y) : (l.set i x).Pairwise R := by
  rw [List.pairwise_iff_getElem] at h ⊢
  intro a b ha hb hab
  simp only [List.length_set] at ha hb
  simp only [List.getElem_set]
  by_cases ea : i = a
  · subst ea
    rw [if_pos rfl, if_neg (by omega)]
    exact h2 b _ (List.getElem?_eq_getElem hb) hab
  · rw [if_neg ea]
    by_cases eb : i = b
    · subst eb
      rw [if_pos rfl]
      exact h1 a _ (List.getElem?_eq_getElem ha) hab
    · rw [if_neg eb]
      exact h a b ha hb hab

theorem St.row_ne (h : St M0 w0 bs rs fs W) {i j : Nat} {r r' : Row} (hi : rs[i]? = some r) (hj : rs[j]? = some r') (hne : i ≠ j) : ∀ k, r.blk = some k → r'.blk ≠ some k := by
  intro k hk hk'
  obtain ⟨hil, e1⟩ := List.getElem?_eq_some_iff.1 hi
  obtain ⟨hjl, e2⟩ := List.getElem?_eq_some_iff.1 hj
  have hn := List.pairwise_iff_getElem.1 h.rnd
  rcases Nat.lt_or_gt_of_ne hne with h1 | h1
  · exact hn i j hil hjl h1 k (by rw [e1]; exact hk) (by rw [e2]; exact hk')
  · exact hn j i hjl hil h1 k (by rw [e2]; exact hk') (by rw [e1]; exact hk)

/-- A row of the call's own is written, or laid anew elsewhere. -/
theorem St.set_row (h : St M0 w0 bs rs fs W) {i : Nat} {r : Row} (hi : rs[i]? = some r) (r' : Row) (hg : W.grownBy W' r.blk) (hd : W.drawn ≤ W'.drawn) (css : List (List Value))
    (he : Els r'.κ (Mut M0 bs rs) W css r'.xs) (ho : OwnR W' w0.heap.size r'.E r'.κ.sz r'.A r'.c r'.xs.length css.flatten)
    (hb : ∀ k, r'.blk = some k → r.blk = some k ∨ W.heap.size ≤ k) : St M0 w0 bs (rs.set i r') fs W' := by
  have hr : r ∈ rs := List.mem_of_getElem? hi
  have hil : i < rs.length := (List.getElem?_eq_some_iff.1 hi).1
  have s : Stp (Mut M0 bs rs) W (Mut M0 bs (rs.set i r')) W' := by
    refine ⟨hg.size, fun k hk hm => hg.block k hk fun e => hm (.inr (.inr ⟨r, hr, e.symm⟩)), fun k hk hm => ?_⟩
    rintro (h1 | h2 | ⟨q, hq, e⟩)
    · exact hm (.inl h1)
    · exact hm (.inr (.inl h2))
    · rcases List.mem_or_eq_of_mem_set hq with hq | rfl
      · exact hm (.inr (.inr ⟨q, hq, e⟩))
      · rcases hb k e with e' | e'
        · exact hm (.inr (.inr ⟨r, hr, e'⟩))
        · omega
  refine ⟨h.valid, h.below.grown hg hd h.below.size (fun k e => ((h.row r hr).lt e).1), fun x hx => ?_, fun q hq => ?_, h.bnd, ?_, fun x hx q hq => ?_, fun f hf => f.st (h.fact f hf) s⟩
  · have hbx := h.box x hx
    exact ⟨hbx.1, (hg.block _ hbx.lt fun e => h.brd x hx r hr e.symm).trans hbx.2⟩
  · obtain ⟨j, hj⟩ := List.mem_iff_getElem?.1 hq
    rw [List.getElem?_set] at hj
    by_cases e : i = j
    · subst e
      simp only [if_true, hil, Option.some.injEq] at hj
      subst hj
      exact ⟨css, he.st s, ho⟩
    · rw [if_neg e] at hj
      obtain ⟨cs2, he2, ho2⟩ := h.row q (List.mem_of_getElem? hj)
      exact ⟨cs2, he2.st s, ho2.kept fun k hk => hg.block k (ho2.lt hk).2 fun e' => h.row_ne hi hj e k e'.symm hk⟩
  · refine pair_set h.rnd i r' (fun j y hy hji k hk hk' => ?_) (fun j y hy hji k hk hk' => ?_)
    · rcases hb k hk' with e' | e'
      · exact h.row_ne hi hy (by omega) k e' hk
      · have := ((h.row y (List.mem_of_getElem? hy)).lt hk).2
        omega
    · rcases hb k hk with e' | e'
      · exact h.row_ne hi hy (by omega) k e' hk'
      · have := ((h.row y (List.mem_of_getElem? hy)).lt hk').2
        omega
  · rcases List.mem_or_eq_of_mem_set hq with hq | rfl
    · exact h.brd x hx q hq
    · intro e
      rcases hb _ e with e' | e'
      · exact h.brd x hx r hr e'
      · have := (h.box x hx).lt
        omega

/-- What a call has made is joined to what there was. -/
theorem St.join {rs' : List Row} {fs' : List Fact} (h : St M0 w0 bs rs fs W) (k : St (Mut M0 bs rs) W [] rs' fs' W') : St M0 w0 bs (rs' ++ rs) (fs' ++ fs) W' := by
  have h0 := h.grow k.below
  have hnew : ∀ r ∈ rs', ∀ j, r.blk = some j → W.heap.size ≤ j := fun r hr j hj => ((k.row r hr).lt hj).1
  have s0 : Stp (Mut M0 bs rs) W (Mut M0 bs (rs' ++ rs)) W' := by
    refine ⟨k.below.size, fun j hj _ => k.below.block j hj, fun j hj hm => ?_⟩
    rintro (h1 | h2 | ⟨r, hr, e⟩)
    · exact hm (.inl h1)
    · exact hm (.inr (.inl h2))
    · rcases List.mem_append.1 hr with hr | hr
      · have := hnew r hr j e
        omega
      · exact hm (.inr (.inr ⟨r, hr, e⟩))
  have s1 : Stp (Mut (Mut M0 bs rs) [] rs') W' (Mut M0 bs (rs' ++ rs)) W' := by
    refine Stp.mut fun j _ => ?_
    rintro (h1 | h2 | ⟨r, hr, e⟩)
    · exact .inl (.inl h1)
    · exact .inl (.inr (.inl h2))
    · rcases List.mem_append.1 hr with hr | hr
      · exact .inr (.inr ⟨r, hr, e⟩)
      · exact .inl (.inr (.inr ⟨r, hr, e⟩))
  refine ⟨h.valid, h0.below, h0.box, fun r hr => ?_, h.bnd, ?_, fun x hx r hr => ?_, fun f hf => ?_⟩
  · rcases List.mem_append.1 hr with hr | hr
    · obtain ⟨css, he, ho⟩ := k.row r hr
      exact ⟨css, he.st s1, ho.base h.below.size⟩
    · obtain ⟨css, he, ho⟩ := h.row r hr
      exact ⟨css, he.st s0, ho.kept fun j hj => k.below.block j (ho.lt hj).2⟩
  · refine List.pairwise_append.2 ⟨k.rnd, h.rnd, fun r hr q hq j hj hj' => ?_⟩
    have h1 := hnew r hr j hj
    have h2 := ((h.row q hq).lt hj').2
    omega
  · rcases List.mem_append.1 hr with hr | hr
    · intro e
      have h1 := hnew r hr _ e
      have h2 := (h.box x hx).lt
      omega
    · exact h.brd x hx r hr
  · rcases List.mem_append.1 hf with hf | hf
    · exact f.st (k.fact f hf) s1
    · exact f.st (h.fact f hf) s0

/-- A row is written no more: it is read from now on. -/
theorem St.freeze (h : St M0 w0 bs rs fs W) {i : Nat} {r : Row} (hi : rs[i]? = some r) (hsz : 0 < r.κ.sz) : St M0 w0 bs (rs.eraseIdx i) (fSl r.κ r.A r.c r.xs :: fs) W := by
  have hsub : List.Sublist (rs.eraseIdx i) rs := List.eraseIdx_sublist rs i
  have h1 : St M0 w0 bs (rs.eraseIdx i) fs W := h.less (List.Sublist.refl _) hsub (fun f hf => hf)
  refine h1.addFact ?_
  have hr : r ∈ rs := List.mem_of_getElem? hi
  have s : Stp (Mut M0 bs rs) W (Mut M0 bs (rs.eraseIdx i)) W := Stp.mut fun k _ => by
    rintro (a | a | ⟨q, hq, e⟩)
    · exact .inl a
    · exact .inr (.inl a)
    · exact .inr (.inr ⟨q, hsub.subset hq, e⟩)
  obtain ⟨css, he, ho⟩ := h.row r hr
  refine ⟨ho.caps.1, ho.caps.2, fun e => ?_, fun j x hx => ?_⟩
  · rcases ho.2 with ⟨_, hc, hn⟩ | ⟨g, cur, fr, hA, _⟩
    · exact ⟨List.eq_nil_of_length_eq_zero hn, hc⟩
    · rw [e] at hA; cases hA
  · have hj : j < r.xs.length := (List.getElem?_eq_some_iff.1 hx).1
    rcases ho.2 with ⟨_, _, hn⟩ | ⟨g, cur, fr, hA, hb, hh, _⟩
    · omega
    · have hblk : r.blk = some g := by unfold Row.blk; rw [hA]; rfl
      have hjc : j < css.length := by rw [he.1]; exact hj
      have hcs : css[j]? = some css[j] := List.getElem?_eq_getElem hjc
      refine ⟨⟨g, 0, none⟩, css[j], hA, ?_, (Array.getElem?_eq_some_iff.1 hh).1, ?_, r.κ.st (he.2 j _ x hcs hx) s⟩
      · rintro (a | ⟨y, hy, e⟩ | ⟨q, hq, e⟩)
        · have := h.valid _ a
          exact absurd hb (Nat.not_le.2 this)
        · exact h.brd y hy r hr (by rw [hblk, e])
        · obtain ⟨m, hm⟩ := List.mem_iff_getElem?.1 hq
          rw [List.getElem?_eraseIdx] at hm
          split at hm
          · exact h.row_ne hi hm (by omega) g hblk e
          · exact h.row_ne hi hm (by omega) g hblk e
      · refine (ho.cells hA).sub fun l u hu => ?_
        exact flatten_get he.lens hcs hu

/-- A variable is written no more. -/
theorem St.freezeBox (h : St M0 w0 bs rs fs W) {i : Nat} {x : Box} (hi : bs[i]? = some x) : St M0 w0 (bs.eraseIdx i) rs (fBox x.b x.cs x.T :: fs) W := by
  have hsub : List.Sublist (bs.eraseIdx i) bs := List.eraseIdx_sublist bs i
  have h1 : St M0 w0 (bs.eraseIdx i) rs fs W := h.less hsub (List.Sublist.refl _) (fun f hf => hf)
  have hx : x ∈ bs := List.mem_of_getElem? hi
  refine h1.addFact ⟨?_, (h.box x hx).2⟩
  rintro (a | ⟨y, hy, e⟩ | ⟨q, hq, e⟩)
  · have := h.valid _ a
    have := (h.box x hx).1
    omega
  · obtain ⟨m, hm⟩ := List.mem_iff_getElem?.1 hy
    have hn := List.pairwise_iff_getElem.1 h.bnd
    obtain ⟨hil, e1⟩ := List.getElem?_eq_some_iff.1 hi
    rw [List.getElem?_eraseIdx] at hm
    have key : ∀ m', bs[m']? = some y → m' ≠ i → False := by
      intro m' hm' hne
      obtain ⟨hml, e2⟩ := List.getElem?_eq_some_iff.1 hm'
      rcases Nat.lt_or_gt_of_ne hne with h2 | h2
      · exact hn m' i (by simpa using hml) (by simpa using hil) h2 (by simp [e1, e2, e])
      · exact hn i m' (by simpa using hil) (by simpa using hml) h2 (by simp [e1, e2, e])
    split at hm
    · exact key _ hm (by omega)
    · exact key _ hm (by omega)
  · exact h.brd x hx q hq e
end
end Go.Pod
