/- Words that the walks share: a text as a list of bytes, lists of texts and of variables in memory, what a call keeps. -/
import Derived.WalkKit
import Derived.WalkLawsBesides
import Derived.WalkSpells
import Derived.Handy
import Derived.Lib.Hide
import Derived.Lib.Strings
import Derived.Test.YtopkcgdfebkbaaaGreatDoorProg
import Derived.Test.YtopkcgdfebkbaaaGreatDoorPure
namespace Go.Proofs.YtopkcgdfebkbaaaGreatDoor
open Go.RowKit

/-- A text out of its bytes. -/
def B (l : Bytes) : ByteArray := ⟨l.toArray⟩
theorem B_size (l : Bytes) : (B l).size = l.length := by unfold B; rw [ByteArray.size_mk']; simp
theorem B_toList (l : Bytes) : (B l).toList = l := by simp [B]
theorem B_data (l : Bytes) : (B l).data.toList = l := by simp [B]
theorem B_of (s : ByteArray) : B s.data.toList = s := Lib.mk_data s
theorem B_surj (s : ByteArray) : ∃ l, s = B l := ⟨s.data.toList, (B_of s).symm⟩
theorem B_extract (l : Bytes) (i j : Nat) : (B l).extract i j = B ((l.drop i).take (j - i)) := by unfold B; exact ByteArray.extract_mk l i j
theorem B_append (a b : Bytes) : B a ++ B b = B (a ++ b) := by unfold B; exact ByteArray.mk_append_mk a b
theorem B_get (l : Bytes) (i : Nat) (h : i < (B l).size) (h' : i < l.length) : (B l)[i]'h = l[i]'h' := by
  simp [B, ByteArray.getElem_eq_getElem_data]
theorem B_inj {a b : Bytes} (h : B a = B b) : a = b := by rw [← B_data a, h, B_data]
theorem B_mk (l : Bytes) : (⟨l.toArray⟩ : ByteArray) = B l := rfl

theorem drop_take_all (l : Bytes) (i : Nat) : List.take (l.length - i) (l.drop i) = l.drop i := List.take_of_length_le (by simp)

/-! ### What a call keeps -/
theorem bcell {w W : World} (hb : Below w.heap.size w W) : (∀ b o, b < w.heap.size → W.cell? ⟨b, o, none⟩ = w.cell? ⟨b, o, none⟩) ∧ (∀ b o, b < w.heap.size → W.frozen? ⟨b, o, none⟩ = w.frozen? ⟨b, o, none⟩) :=
  ⟨fun b o h => hb.cell (p := ⟨b, o, none⟩) h, fun b o h => hb.frozen (p := ⟨b, o, none⟩) h⟩
theorem below_grown {w W : World} (h : Below w.heap.size w W) (row : Option Nat) : w.grownBy W row := ⟨h.os, h.tape, h.output, h.size, fun i hi _ => h.block i hi⟩
theorem grown_below {w W : World} (h : w.grownBy W none) : Below w.heap.size w W := ⟨h.os, h.tape, h.output, h.size, fun i hi => h.block i hi (by simp)⟩
theorem below_then {n : Nat} {w w1 w2 : World} (h : Below n w w1) (hB : n ≤ w1.heap.size) (k : Below w1.heap.size w1 w2) : Below n w w2 := h.trans (k.mono hB)
theorem grown_trans {w w1 w2 : World} {row : Option Nat} (h : w.grownBy w1 row) (k : w1.grownBy w2 row) : w.grownBy w2 row :=
  ⟨k.os.trans h.os, k.tape.trans h.tape, k.output.trans h.output, Nat.le_trans h.size k.size, fun i hi hne => (k.block i (Nat.lt_of_lt_of_le hi h.size) hne).trans (h.block i hi hne)⟩

/-! ### A row: a slice at the head of a block, or nil, with the cells xs -/
theorem row_low {w : World} {base base' e size n : Nat} {v : Value} {xs : List Value} (h : w.ownsRow base e size v n xs) (hb : base' ≤ base) : w.ownsRow base' e size v n xs := by
  refine ⟨h.1, ?_⟩
  rcases h.2 with h2 | ⟨g, cap, cur, hv, hg, r⟩
  · exact .inl h2
  · exact .inr ⟨g, cap, cur, hv, by omega, r⟩
theorem row_below {w W : World} {base e size n : Nat} {v : Value} {xs : List Value} (h : w.ownsRow base e size v n xs) (hb : Below w.heap.size w W) : W.ownsRow base e size v n xs :=
  h.kept (below_grown hb none) (by cases v.ownBlock <;> simp)
theorem row_lt {w : World} {base e size n : Nat} {v : Value} {xs : List Value} (h : w.ownsRow base e size v n xs) (k : Nat) (hk : v.ownBlock = some k) : k < w.heap.size := (h.lt k hk).2
/-- Two rows of different element types never share a block. -/
theorem row_type_ne {w : World} {b b' e e' s s' n n' : Nat} {v v' : Value} {xs xs' : List Value} (h : w.ownsRow b e s v n xs) (h' : w.ownsRow b' e' s' v' n' xs') (hne : e ≠ e') : v.ownBlock = none ∨ v.ownBlock ≠ v'.ownBlock := by
  rcases h.2 with ⟨rfl, _⟩ | ⟨g, cap, cur, rfl, _, hh, _⟩
  · exact .inl rfl
  · refine .inr fun hk => ?_
    rcases h'.2 with ⟨rfl, _⟩ | ⟨g', cap', cur', rfl, _, hh', _⟩
    · simp [Value.ownBlock] at hk
    · have : g = g' := by simpa [Value.ownBlock] using hk
      subst this
      rw [hh] at hh'
      injection hh' with hh'
      injection hh' with _ ht
      exact hne ht

/-- A list of texts. -/
def strCells (l : List Bytes) : List Value := l.map fun x => .string (B x)
theorem strCells_length (l : List Bytes) : (strCells l).length = l.length := by simp [strCells]
def SR (w : World) (v : Value) (l : List Bytes) : Prop := w.ownsRow 0 9 1 v l.length (strCells l)
/-- A variable's three cells; a list of variables. -/
def varCells (x : Var) : List Value := [.string (B x.name), .string (B x.text), .bool x.simple]
def varsCells (l : List Var) : List Value := l.flatMap varCells
theorem varsCells_length (l : List Var) : (varsCells l).length = l.length * 3 := by
  induction l with
  | nil => rfl
  | cons x l ih => simp only [varsCells, List.flatMap_cons, List.length_append, List.length_cons] at ih ⊢; rw [ih]; simp [varCells]; omega
theorem varsCells_at (l : List Var) : ∀ (k : Nat) (x : Var), l[k]? = some x → (varsCells l)[k * 3]? = some (.string (B x.name)) ∧ (varsCells l)[k * 3 + 1]? = some (.string (B x.text)) ∧ (varsCells l)[k * 3 + 2]? = some (.bool x.simple) := by
  induction l with
  | nil => intro k x h; simp at h
  | cons y l ih =>
    intro k x h
    cases k with
    | zero => simp at h; subst h; simp [varsCells, varCells]
    | succ k =>
      have := ih k x (by simpa using h)
      have e1 : (k + 1) * 3 = k * 3 + 3 := by omega
      rw [e1]
      simpa [varsCells, varCells] using this
def VR (w : World) (v : Value) (l : List Var) : Prop := w.ownsRow 0 36 3 v l.length (varsCells l)

/-! ### A block that is known whole -/
def Blk (w : World) (g : Nat) (t : TypeId) (cs : Array Value) : Prop := w.heap[g]? = some (.cells cs t (0, 0))
theorem Blk.lt {w : World} {g : Nat} {t : TypeId} {cs : Array Value} (h : Blk w g t cs) : g < w.heap.size := (Array.getElem?_eq_some_iff.1 h).1
theorem Blk.c {w : World} {g : Nat} {t : TypeId} {cs : Array Value} (h : Blk w g t cs) : (∀ o, w.cell? ⟨g, o, none⟩ = cs[o]?) ∧ (∀ o, w.frozen? ⟨g, o, none⟩ = false) ∧ g < w.heap.size := by
  have e := h
  unfold Blk at e
  exact ⟨fun o => by simp [World.cell?, e], fun o => by simp [World.frozen?, e], h.lt⟩
theorem Blk.new (w : World) (t : TypeId) (cs : Array Value) {g : Nat} (hg : g = w.heap.size) : Blk (w.alloc (.cells cs t)) g t cs := by subst hg; exact heap_alloc_new w _
theorem Blk.alloc {w : World} {g : Nat} {t : TypeId} {cs : Array Value} (h : Blk w g t cs) (o : Obj) : Blk (w.alloc o) g t cs := (Below.heap_alloc w o g h.lt).trans h
theorem Blk.drew {w : World} {g : Nat} {t : TypeId} {cs : Array Value} (h : Blk w g t cs) : Blk w.drew g t cs := h
theorem Blk.drewN {w : World} {g : Nat} {t : TypeId} {cs : Array Value} (h : Blk w g t cs) (n : Nat) : Blk (w.drewN n) g t cs := h
theorem Blk.set_ {w : World} {g : Nat} {t : TypeId} {cs : Array Value} (h : Blk w g t cs) (i : Nat) (u : Value) : Blk (w.setCell ⟨g, i, none⟩ u) g t (cs.setIfInBounds i u) := by
  unfold Blk at h ⊢
  simp [World.setCell, Array.getElem?_modify, h]
theorem Blk.far {w : World} {g : Nat} {t : TypeId} {cs : Array Value} (h : Blk w g t cs) {p : Addr} (hp : g ≠ p.block) (u : Value) : Blk (w.setCell p u) g t cs := (Below.heap_setCell w p u g hp).trans h
theorem Blk.below {w W : World} {g : Nat} {t : TypeId} {cs : Array Value} (h : Blk w g t cs) (hb : Below w.heap.size w W) : Blk W g t cs := (hb.block g h.lt).trans h
theorem Blk.grown {w W : World} {g : Nat} {t : TypeId} {cs : Array Value} (h : Blk w g t cs) {row : Option Nat} (hb : w.grownBy W row) (hg : some g ≠ row) : Blk W g t cs := (hb.block g h.lt hg).trans h

/-! ### What the program's own variables hold -/
/-- How many blocks are the variables'. -/
def NG : Nat := 8
/-- What is asked of a world in which a statement begins. -/
def Start (W : World) : Prop := ∃ m : Int, W.cell? ⟨0, 0, none⟩ = some (.int .i64 m)
/-- The variables are what they were in such a world. -/
def Glob (w : World) : Prop := ∃ W : World, Start W ∧ NG ≤ W.heap.size ∧ ∀ i, i < NG → w.heap[i]? = W.heap[i]?
theorem Glob.same {w w' : World} (h : Glob w) (hs : ∀ i, i < NG → w'.heap[i]? = w.heap[i]?) : Glob w' := by
  obtain ⟨W, h1, h2, h3⟩ := h
  exact ⟨W, h1, h2, fun i hi => (hs i hi).trans (h3 i hi)⟩
theorem Glob.size {w : World} (h : Glob w) : NG ≤ w.heap.size := by
  obtain ⟨W, _, h2, h3⟩ := h
  have h4 := h3 (NG - 1) (by decide)
  have h5 : NG - 1 < W.heap.size := Nat.lt_of_lt_of_le (by decide) h2
  rw [Array.getElem?_eq_getElem h5] at h4
  have := (Array.getElem?_eq_some_iff.1 h4).1
  omega
theorem Glob.below {n : Nat} {w w' : World} (h : Glob w) (hb : Below n w w') (hn : NG ≤ n) : Glob w' := h.same fun i hi => hb.block i (by omega)

/-- The block that counts steps: one whole number; the variables lie below it. -/
structure Cnt (w : World) (sb : Nat) (n : Nat) : Prop where
  blk : Blk w sb 3 #[.int .i64 n]
  ng : NG ≤ sb
  glob : Glob w

end Go.Proofs.YtopkcgdfebkbaaaGreatDoor
