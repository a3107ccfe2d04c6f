/- Walks: the Builder; strings.Cut at one byte; Trim, Join. -/
import Derived.Test.YtopkcgdfebkbaaaGreatDoorW1
import Derived.Test.YtopkcgdfebkbaaaGreatDoorShelfA
import Derived.Lib.Builder
import Derived.Lib.AppendStr
import Derived.Lib.UnsafeStr
import Derived.Lib.CutLaws
import Derived.Lib.IndexBytes
import Derived.Laws.Externs
import Derived.Shelf.Strings.SlTrimAscii
set_option linter.unusedVariables false
set_option linter.unusedSimpArgs false
namespace Go.Proofs.YtopkcgdfebkbaaaGreatDoor
open Go.RowKit
attribute [local go_sem] B_size B_toList

theorem szBuilder : (Tryz.prog.info? 154).map (fun i => (i.size, i.bytes)) = some (2, 32) := by kernel_rfl
theorem info5 : (Tryz.prog.info? 5).map (fun i => (i.zero, i.size, i.bytes)) = some (some (.int .u8 0), 1, 1) := by kernel_rfl

set_option maxHeartbeats 1000000 in
set_option maxRecDepth 100000 in
theorem copyCheck_used (b : Nat) (w : World) (h0 : w.cell? ⟨b, 0, none⟩ = some (.pointer (some ⟨b, 0, none⟩))) :
    Calls Tryz.prog 132 #[.pointer (some ⟨b, 0, none⟩)] w fun e w' => e = .returned (.tuple #[]) ∧ w' = w := by
  obtain ⟨j, hj, _⟩ := Option.map_eq_some_iff.1 szBuilder
  go_enter Tryz.func132, Tryz.ntmps132
  go_wp2
  rw [Lib.run_neq_ptr_same w _ Tryz.underlying152 hj]
  go_wp2
  go_end0
  exact ⟨rfl, rfl⟩

set_option maxHeartbeats 1000000 in
set_option maxRecDepth 100000 in
theorem copyCheck_fresh (b : Nat) (w : World) (h0 : w.cell? ⟨b, 0, none⟩ = some (.pointer none)) (hsh : w.shape? b = some (154, 2)) (hfz : w.frozen? ⟨b, 0, none⟩ = false) :
    Calls Tryz.prog 132 #[.pointer (some ⟨b, 0, none⟩)] w fun e w' => e = .returned (.tuple #[]) ∧ w' = w.setCell ⟨b, 0, none⟩ (.pointer (some ⟨b, 0, none⟩)) := by
  obtain ⟨j, hj, hjs⟩ := Option.map_eq_some_iff.1 szBuilder
  have hjs' : j.size = 2 := by simp only [Prod.mk.injEq] at hjs; exact hjs.1
  go_enter Tryz.func132, Tryz.ntmps132
  go_wp2
  rw [Lib.run_to_unsafe w ⟨b, 0, none⟩ Tryz.underlying152 Tryz.underlying261 hj (by omega) hsh (Nat.zero_lt_succ 1)]
  simp only [Result.andThen]
  rw [Oper.upon_value]
  go_wp2
  rw [run_callFunc_extern Tryz.func205 (by kernel_rfl) (by kernel_rfl) (by kernel_rfl) (e := Extern.AbiNoEscape.same) (by kernel_rfl)]
  rw [Lib.run_noEscape]
  simp only [Result.andThen]
  rw [Oper.upon_value]
  go_wp2
  rw [Lib.run_from_unsafe w ⟨b, 0, none⟩ Tryz.underlying261 Tryz.underlying152 hj hsh (by kernel_rfl)]
  simp only [Result.andThen]
  rw [Oper.upon_value]
  go_wp2
  go_end0
  exact ⟨rfl, rfl⟩

theorem copyCheck_any (n b : Nat) (bs : List Value) (w : World) (h : Lib.IsBuilder 154 5 n b bs w) :
    Calls Tryz.prog 132 #[.pointer (some ⟨b, 0, none⟩)] w fun e w' => e = .returned (.tuple #[]) ∧ (Lib.BuilderAt 154 5 n b (.pointer (some ⟨b, 0, none⟩)) bs w' ∧ Below n w w') := by
  rcases h with h | h
  · refine (copyCheck_fresh b w h.cell0 h.shape h.frozen0).mono ?_
    rintro e w' ⟨rfl, rfl⟩
    exact ⟨rfl, h.used _, (Below.refl n w).setCell (p := ⟨b, 0, none⟩) h.1 _⟩
  · refine (copyCheck_used b w h.cell0).mono ?_
    rintro e w' ⟨rfl, rfl⟩
    exact ⟨rfl, h, Below.refl n _⟩

set_option maxHeartbeats 2000000 in
set_option maxRecDepth 100000 in
theorem writeString_raw (n b : Nat) (bs : List Value) (s : ByteArray) (w : World) (h : Lib.IsBuilder 154 5 n b bs w) (hlen : bs.length + s.size ≤ 140737488355328) (hBw : n ≤ w.heap.size) :
    Calls Tryz.prog 84 #[.pointer (some ⟨b, 0, none⟩), .string s] w fun e w' => e = .returned (.tuple #[.int .i64 s.size, .nilIface]) ∧ (Lib.BuilderAt 154 5 n b (.pointer (some ⟨b, 0, none⟩)) (bs ++ Lib.strCells s) w' ∧ Below n w w') := by
  obtain ⟨i0, hi, hz0, hz1, hz2⟩ := info_parts info5
  go_enter Tryz.func84, Tryz.ntmps84
  go_wp2_with (go_at_call 132; refine (copyCheck_any n b bs _ h).mono ?_)
  rintro e w1 ⟨rfl, h1, hb1⟩
  obtain ⟨hB, v, hbk, hown, hne⟩ := h1
  have c0 : w1.cell? ⟨b, 0, none⟩ = some (.pointer (some ⟨b, 0, none⟩)) := by rw [Lib.cell_of_heap hbk]; rfl
  have c1 : w1.cell? ⟨b, 1, none⟩ = some v := by rw [Lib.cell_of_heap hbk]; rfl
  have k5 : n ≤ w1.heap.size := by have := hb1.size; omega
  go_wp2_with (at_builtin; refine Lib.wpList_append_own_string _ rfl _ _ 131 9 rfl n 5 i0 Tryz.underlying131 Tryz.underlying9 hi hz0 hz1 hz2 _ _ _ rfl hown s rfl (by unfold maxLen; omega) (by omega) k5 ?_)
  intro v' w2 hown' hgrow _
  have hlt : b < w1.heap.size := by
    rcases Nat.lt_or_ge b w1.heap.size with h' | h'
    · exact h'
    · simp [Array.getElem?_eq_none h'] at hbk
  have hb2 : w2.heap[b]? = some (.cells #[.pointer (some ⟨b, 0, none⟩), v] 154 (0, 0)) := by
    rw [hgrow.block b hlt (fun e => hne e.symm)]
    exact hbk
  have d0 : w2.cell? ⟨b, 0, none⟩ = some (.pointer (some ⟨b, 0, none⟩)) := by rw [Lib.cell_of_heap hb2]; rfl
  have d1 : w2.cell? ⟨b, 1, none⟩ = some v := by rw [Lib.cell_of_heap hb2]; rfl
  have f1 : w2.frozen? ⟨b, 1, none⟩ = false := Lib.frozen_of_heap hb2 1
  obtain ⟨ao, n', cap, rfl⟩ : ∃ ao n' cap, v' = .slice ao n' cap := by
    rcases hown'.2 with ⟨hv, _⟩ | ⟨g, cap, cur, hv, _⟩
    · exact ⟨_, _, _, hv⟩
    · exact ⟨_, _, _, hv⟩
  go_wp2
  go_ret2
  refine ⟨rfl, ?_, ?_⟩
  · exact Lib.BuilderAt.put (T := 154) (e := 5) hB hb2 (bs' := bs ++ Lib.strCells s) (by simpa [Lib.strCells_length] using hown') (by decide)
  · exact (hb1.grown hgrow (by have := hb1.size; omega) (fun k hk => (hown.lt k hk).1)).setCell (p := ⟨b, 1, none⟩) hB _

/-- A Builder that holds a text. -/
def Bld (w : World) (n b : Nat) (l : Bytes) : Prop := Lib.IsBuilder 154 5 n b (Lib.byteCells l) w
theorem byteCells_append (a b : Bytes) : Lib.byteCells (a ++ b) = Lib.byteCells a ++ Lib.byteCells b := by simp [Lib.byteCells]
theorem byteCells_len (a : Bytes) : (Lib.byteCells a).length = a.length := by simp [Lib.byteCells]
theorem strCells_B (l : Bytes) : Lib.strCells (B l) = Lib.byteCells l := by simp [Lib.strCells, Lib.byteCells, B]

theorem write_any (n b : Nat) (l s : Bytes) (w : World) (h : Bld w n b l) (hlen : l.length + s.length ≤ 140737488355328) (hBw : n ≤ w.heap.size) :
    Calls Tryz.prog 84 #[.pointer (some ⟨b, 0, none⟩), .string (B s)] w fun e w' => e = .returned (.tuple #[.int .i64 s.length, .nilIface]) ∧ Bld w' n b (l ++ s) ∧ Below n w w' := by
  refine (writeString_raw n b _ (B s) w h (by rw [byteCells_len, B_size]; exact hlen) hBw).mono ?_
  rintro e w' ⟨rfl, h1, h2⟩
  refine ⟨by rw [B_size], ?_, h2⟩
  unfold Bld
  rw [byteCells_append, ← strCells_B s]
  exact .inr h1
theorem string_any (n b : Nat) (l : Bytes) (w : World) (h : Bld w n b l) (hBw : n ≤ w.heap.size) :
    Calls Tryz.prog 86 #[.pointer (some ⟨b, 0, none⟩)] w fun e w' => e = .returned (.string (B l)) ∧ Below n w w' :=
  Tryz.Builder_String_any n b l w h hBw
theorem Bld.fresh (w : World) {b : Nat} (hb : b = w.heap.size) : Bld (w.alloc (.cells #[.pointer none, .slice none 0 0] 154)) b b [] := by subst hb; exact Lib.fresh_isBuilder 154 5 w
theorem Bld.lt {w : World} {n b : Nat} {l : Bytes} (h : Bld w n b l) : b < w.heap.size := by rcases h with h | h <;> exact h.lt
/-- What is written elsewhere leaves it: a block that is no Builder's and holds no bytes. -/
theorem Bld.grown {w W : World} {n b : Nat} {l : Bytes} (h : Bld w n b l) {g : Nat} (hg : w.grownBy W (some g)) {t : TypeId} {cs : Array Value} (hk : Blk w g t cs) (h1 : t ≠ 154) (h2 : t ≠ 5) : Bld W n b l := by
  have key : ∀ p, Lib.BuilderAt 154 5 n b p (Lib.byteCells l) w → Lib.BuilderAt 154 5 n b p (Lib.byteCells l) W := by
    rintro p ⟨hB, v, hb, hown, hne⟩
    have hgb : b ≠ g := by
      rintro rfl
      unfold Blk at hk
      rw [hb] at hk
      injection hk with hk
      injection hk with _ e
      exact h1 e.symm
    refine ⟨hB, v, (hg.block b (Array.getElem?_eq_some_iff.1 hb).1 (by simpa using hgb)).trans hb, hown.kept hg (.inr ?_), hne⟩
    intro e
    rcases hown.2 with ⟨rfl, _⟩ | ⟨g', cap, cur, rfl, _, hh, _⟩
    · simp [Value.ownBlock] at e
    · have : g' = g := by simpa [Value.ownBlock] using e
      subst this
      unfold Blk at hk
      rw [hh] at hk
      injection hk with hk
      injection hk with _ e
      exact h2 e.symm
  rcases h with h | h
  · exact .inl (key _ h)
  · exact .inr (key _ h)
theorem Bld.below {w W : World} {n b : Nat} {l : Bytes} (h : Bld w n b l) (hg : Below w.heap.size w W) : Bld W n b l := by
  have key : ∀ p, Lib.BuilderAt 154 5 n b p (Lib.byteCells l) w → Lib.BuilderAt 154 5 n b p (Lib.byteCells l) W := by
    rintro p ⟨hB, v, hb, hown, hne⟩
    exact ⟨hB, v, (hg.block b (Array.getElem?_eq_some_iff.1 hb).1).trans hb, row_below hown hg, hne⟩
  rcases h with h | h
  · exact .inl (key _ h)
  · exact .inr (key _ h)
end Go.Proofs.YtopkcgdfebkbaaaGreatDoor
