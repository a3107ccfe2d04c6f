/- Walks: a short text; a step that is counted; a scope within one. -/
import Derived.Test.YtopkcgdfebkbaaaGreatDoorBase
set_option linter.unusedVariables false
set_option linter.unusedSimpArgs false
namespace Go.Proofs.YtopkcgdfebkbaaaGreatDoor
open Go.RowKit
attribute [local go_sem] B_size B_toList

def tx : Except Nat Bytes → Bytes | .ok x => x | .error _ => []
def er : Except Nat Bytes → Int | .ok _ => 0 | .error e => e
def shortR (t : Bytes) : Except Nat Bytes := if 4000 < t.length then .error 3 else .ok t

set_option maxHeartbeats 400000 in
theorem short_any (t : Bytes) (w : World) :
    Calls Tryz.prog 85 #[.string (B t)] w fun e w' => e = .returned (.tuple #[.string (B (tx (shortR t))), .int .i64 (er (shortR t))]) ∧ w = w' := by
  by_cases hl : 4000 < t.length
  · have h1 : shortR t = .error 3 := if_pos hl
    rw [h1]
    clear h1
    go_enter Tryz.func85, Tryz.ntmps85
    go_wp2
    go_ret2
    exact ⟨rfl, rfl⟩
  · have h1 : shortR t = .ok t := if_neg hl
    rw [h1]
    clear h1
    go_enter Tryz.func85, Tryz.ntmps85
    go_wp2
    go_ret2
    exact ⟨rfl, rfl⟩

/-- A scope's value: its variables, how deep, where steps are counted. -/
def scV (A : Option Addr) (N C : Nat) (d : Nat) (sb : Nat) : Value := .agg #[.slice A N C, .int .i64 d, .pointer (some ⟨sb, 0, none⟩)]

theorem cnt_cell {w : World} {sb n : Nat} (h : Cnt w sb n) : w.cell? ⟨sb, 0, none⟩ = some (.int .i64 n) := (Blk.c h.blk).1 0
theorem cnt_frozen {w : World} {sb n : Nat} (h : Cnt w sb n) : w.frozen? ⟨sb, 0, none⟩ = false := (Blk.c h.blk).2.1 0
theorem cnt_lt {w : World} {sb n : Nat} (h : Cnt w sb n) : sb < w.heap.size := Blk.lt h.blk
theorem cnt_set {w : World} {sb n : Nat} (h : Cnt w sb n) (m : Nat) : Cnt (w.setCell ⟨sb, 0, none⟩ (.int .i64 m)) sb m := ⟨Blk.set_ h.blk 0 _, h.ng, h.glob.same fun i hi => Below.heap_setCell w _ _ i (by have := h.ng; simp; omega)⟩
theorem cnt_alloc {w : World} {sb n : Nat} (h : Cnt w sb n) (o : Obj) : Cnt (w.alloc o) sb n := ⟨Blk.alloc h.blk o, h.ng, h.glob.same fun i hi => Below.heap_alloc w o i (by have := h.ng; have := Blk.lt h.blk; omega)⟩
theorem cnt_same {w w' : World} {sb n : Nat} (h : Cnt w sb n) (hs : ∀ i, i ≤ sb → w'.heap[i]? = w.heap[i]?) : Cnt w' sb n := ⟨(hs sb (Nat.le_refl _)).trans h.blk, h.ng, h.glob.same fun i hi => hs i (by have := h.ng; omega)⟩

/-- What a call that counts steps keeps: all but its own counter, and where that stands now. -/
structure Keeps (sb n' : Nat) (w w' : World) : Prop where
  grown : w.grownBy w' (some sb)
  cnt : Cnt w' sb n'

theorem grown_alloc_ {w W : World} {row : Option Nat} (h : w.grownBy W row) (o : Obj) : w.grownBy (W.alloc o) row := grown_trans h (World.grownBy_alloc W o row)
theorem grown_set_ {w W : World} {row : Option Nat} (h : w.grownBy W row) (a : Addr) (v : Value) (ha : w.heap.size ≤ a.block ∨ some a.block = row) : w.grownBy (W.setCell a v) row :=
  ⟨h.os, h.tape, h.output, by simp [World.setCell, h.size], fun i hi hne => (Below.heap_setCell W a v i (by rintro rfl; rcases ha with ha | ha; omega; exact hne ha)).trans (h.block i hi hne)⟩

theorem keeps_alloc {sb n : Nat} {w W : World} (h : Keeps sb n w W) (o : Obj) : Keeps sb n w (W.alloc o) := ⟨grown_alloc_ h.grown o, cnt_alloc h.cnt o⟩
theorem keeps_step {sb n : Nat} {w : World} (h : Cnt w sb n) (m : Nat) : Keeps sb m w (w.setCell ⟨sb, 0, none⟩ (.int .i64 m)) := ⟨grown_set_ (World.grownBy.refl w _) _ _ (.inr rfl), cnt_set h m⟩
theorem keeps_refl {sb n : Nat} {w : World} (h : Cnt w sb n) : Keeps sb n w w := ⟨World.grownBy.refl w _, h⟩
theorem keeps_trans {sb n m : Nat} {w w1 w2 : World} (h : Keeps sb n w w1) (k : Keeps sb m w1 w2) : Keeps sb m w w2 := ⟨grown_trans h.grown k.grown, k.cnt⟩
theorem keeps_below {sb n : Nat} {w w1 w2 : World} (h : Keeps sb n w w1) (k : Below w1.heap.size w1 w2) : Keeps sb n w w2 :=
  ⟨grown_trans h.grown (below_grown k _), cnt_same h.cnt fun i hi => k.block i (by have := cnt_lt h.cnt; omega)⟩

/-- A step: an error behind 2000 of them. -/
def stepE (n : Nat) : Int := if 2000 < n + 1 then 12 else 0
set_option maxRecDepth 100000 in
set_option maxHeartbeats 400000 in
theorem step_any (A : Option Addr) (N C : Nat) (d sb n : Nat) (w : World) (hc : Cnt w sb n) (hn : n ≤ 100000) :
    Calls Tryz.prog 206 #[scV A N C d sb] w fun e w' => e = .returned (.int .i64 (stepE n)) ∧ Keeps sb (n + 1) w w' := by
  have h1 := cnt_cell hc
  have h2 := cnt_frozen hc
  have h3 := cnt_lt hc
  have fin : ∀ o, Keeps sb (n + 1) w ((w.setCell ⟨sb, 0, none⟩ (.int .i64 (↑n + 1))).alloc o) := fun o => keeps_alloc (keeps_step hc (n + 1)) o
  unfold scV
  by_cases hl : 2000 < n + 1
  · have e1 : stepE n = 12 := if_pos hl
    rw [e1]
    clear e1
    go_enter Tryz.func206, Tryz.ntmps206
    go_wp2
    go_ret
    exact ⟨rfl, fin _⟩
  · have e1 : stepE n = 0 := if_neg hl
    rw [e1]
    clear e1
    go_enter Tryz.func206, Tryz.ntmps206
    go_wp2
    go_ret
    exact ⟨rfl, fin _⟩

theorem Blk.keeps {sb m : Nat} {W w1 : World} {g : Nat} {cs : Array Value} {t : TypeId} (h : Blk W g t cs) (k : Keeps sb m W w1) (hne : g ≠ sb) : Blk w1 g t cs := h.grown k.grown (by simpa using hne)
theorem keeps_set {sb n : Nat} {w W : World} (h : Keeps sb n w W) (a : Addr) (v : Value) (ha : w.heap.size ≤ a.block) (hs : sb < a.block) : Keeps sb n w (W.setCell a v) := ⟨grown_set_ h.grown a v (.inl ha), ⟨Blk.far h.cnt.blk (by omega) v, h.cnt.ng, h.cnt.glob.same fun i hi => Below.heap_setCell W a v i (by have := h.cnt.ng; omega)⟩⟩
/-- What was new ahead of the call is none of its caller's. -/
theorem keeps_from {sb n : Nat} {w W W' : World} (h0 : Below w.heap.size w W) (h : Keeps sb n W W') : Keeps sb n w W' := ⟨grown_trans (below_grown h0 _) h.grown, h.cnt⟩

set_option maxRecDepth 100000 in
set_option maxHeartbeats 400000 in
/-- A scope within one: how deep it stands, and what is wrong. -/
theorem in_any (A : Option Addr) (N C : Nat) (d sb n : Nat) (w : World) (hc : Cnt w sb n) (hn : n ≤ 100000) (hd : d < 20) :
    Calls Tryz.prog 133 #[scV A N C d sb] w fun e w' => e = .returned (.tuple #[scV A N C (if 2000 < n + 1 then d else d + 1) sb, .int .i64 (stepE n)]) ∧ Keeps sb (n + 1) w w' := by
  have h3 := cnt_lt hc
  have H := Lib.hid hc
  clear hc
  unfold scV
  go_enter Tryz.func133, Tryz.ntmps133
  go_wp2_with fail
  refine (step_any A N C d sb n _ (cnt_alloc (cnt_alloc H.out _) _) hn).mono ?_
  rintro e w1 ⟨rfl, k⟩
  obtain ⟨b1, b2, b3⟩ := (((Blk.new w 104 _ rfl).alloc _).keeps k (g := w.heap.size) (by omega)).c
  obtain ⟨c1, c2, c3⟩ := ((Blk.new (w.alloc _) 104 _ (g := w.heap.size + 1) (by simp)).keeps k (by omega)).c
  have K := Lib.hid (keeps_from (w := w) (((Below.refl _ w).alloc (Nat.le_refl _) _).alloc (by simp) _) k)
  clear k
  by_cases hl : 2000 < n + 1
  · have e1 : stepE n = 12 := if_pos hl
    rw [e1]
    clear e1
    go_wp2
    refine bodyPost_ret (v := .tuple #[.agg #[.slice A N C, .int .i64 d, .pointer (some ⟨sb, 0, none⟩)], .int .i64 12]) (by simp [results, Tryz.results133, go_sem, b1, b2, c1, c2]) rfl ?_
    exact ⟨by rw [show stepE n = 12 from if_pos hl], keeps_set (keeps_set (keeps_set K.out _ _ (by simp) (by simp; omega)) _ _ (by simp) (by simp; omega)) _ _ (by simp) (by simp; omega)⟩
  · have e1 : stepE n = 0 := if_neg hl
    rw [e1]
    clear e1
    go_wp2
    refine bodyPost_ret (v := .tuple #[.agg #[.slice A N C, .int .i64 (↑d + 1), .pointer (some ⟨sb, 0, none⟩)], .int .i64 0]) (by simp [results, Tryz.results133, go_sem, b1, b2, c1, c2]) rfl ?_
    exact ⟨by rw [show stepE n = 0 from if_neg hl], keeps_set (keeps_set (keeps_set (keeps_set K.out _ _ (by simp) (by simp; omega)) _ _ (by simp) (by simp; omega)) _ _ (by simp) (by simp; omega)) _ _ (by simp) (by simp; omega)⟩

set_option maxRecDepth 100000 in
set_option maxHeartbeats 400000 in
theorem in_deep (A : Option Addr) (N C sb : Nat) (w : World) :
    Calls Tryz.prog 133 #[scV A N C 20 sb] w fun e w' => e = .returned (.tuple #[scV A N C 20 sb, .int .i64 15]) ∧ Below w.heap.size w w' := by
  unfold scV
  go_enter Tryz.func133, Tryz.ntmps133
  go_wp2
  refine bodyPost_ret (v := .tuple #[.agg #[.slice A N C, .int .i64 20, .pointer (some ⟨sb, 0, none⟩)], .int .i64 15]) (by simp [results, Tryz.results133, go_sem]) rfl ?_
  exact ⟨rfl, by go_grown⟩
end Go.Proofs.YtopkcgdfebkbaaaGreatDoor
