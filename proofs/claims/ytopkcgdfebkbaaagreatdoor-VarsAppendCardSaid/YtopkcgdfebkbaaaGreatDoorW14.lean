/- Walks: a function's arguments; what is opened. -/
import Derived.Test.YtopkcgdfebkbaaaGreatDoorW13
set_option linter.unusedVariables false
set_option linter.unusedSimpArgs false
namespace Go.Proofs.YtopkcgdfebkbaaaGreatDoor
open Go.RowKit
attribute [local go_sem] B_size B_toList B_extract B_append drop_take_all

def sliceLen : Value → Nat
  | .slice _ n _ => n
  | _ => 0
theorem cutF_le (s : Bytes) (gs : List Bytes) : ∀ (m : Nat) (k : Bytes) (i : Nat), (cutF s gs m k i).1.length ≤ s.length ∧ (cutF s gs m k i).2.2.length ≤ s.length
  | 0, _, _ => by simp [cutF]
  | m + 1, k, i => by
    unfold cutF
    split
    · simp only
      split
      · simp; omega
      · exact cutF_le s gs m _ _
    · simp
theorem cutB_le (s : Bytes) (gs : List Bytes) : (cutB s gs).1.length ≤ s.length ∧ (cutB s gs).2.2.length ≤ s.length := cutF_le s gs _ _ _

theorem strCells_snoc (l : List Bytes) (b : Bytes) : strCells (l ++ [b]) = strCells l ++ [.string (B b)] := by simp [strCells]

theorem row_new (w : World) (xs : List Bytes) (hn : xs.length ≤ 1000) : (w.alloc (.cells (strCells xs).toArray 9)).ownsRow w.heap.size 9 1 (.slice (some ⟨w.heap.size, 0, none⟩) xs.length xs.length) xs.length (strCells xs) :=
  ⟨by simp [strCells], .inr ⟨w.heap.size, xs.length, (strCells xs).toArray, rfl, Nat.le_refl _, heap_alloc_new w _, Nat.le_refl _, Nat.le_trans hn (by decide), by simp [strCells], by simp only [Nat.mul_one]; exact List.take_of_length_le (by simp [strCells])⟩⟩

theorem below_append {w W1 W2 : World} {e size k : Nat} {v : Value} {xs : List Value} {o : Obj} (hb : Below w.heap.size w W1) (hr : W1.ownsRow w.heap.size e size v k xs) (hg : (W1.alloc o).grownBy W2 v.ownBlock) : Below w.heap.size w W2 := by
  have h1 : Below w.heap.size w (W1.alloc o) := hb.alloc hb.size o
  refine h1.grown hg (by have := hb.size; simp; omega) fun j ej => ?_
  rcases hr.2 with ⟨rfl, _⟩ | ⟨g, cap, cur, rfl, h, _⟩
  · simp [Value.ownBlock] at ej
  · obtain rfl : g = j := by simpa [Value.ownBlock] using ej
    exact h
/-- What is put behind a list of texts. -/
theorem append_fin {w W1 W2 : World} {v v' : Value} {l : List Bytes} {b : Bytes} {o : Obj} (hb : Below w.heap.size w W1) (hr : W1.ownsRow w.heap.size 9 1 v l.length (strCells l)) (hg : (W1.alloc o).grownBy W2 v.ownBlock) (hn : W2.ownsRow w.heap.size 9 1 v' (l.length + 1) (strCells l ++ [.string (B b)])) :
    ∃ A C, v' = .slice A (l ++ [b]).length C ∧ W2.ownsRow w.heap.size 9 1 (.slice A (l ++ [b]).length C) (l ++ [b]).length (strCells (l ++ [b])) ∧ Below w.heap.size w W2 := by
  obtain ⟨A, C, rfl⟩ := row_slice hn
  refine ⟨A, C, by simp, ?_, below_append hb hr hg⟩
  rw [strCells_snoc, List.length_append]
  exact hn

set_option maxRecDepth 100000 in
set_option maxHeartbeats 1000000 in
theorem arguments_any (s : Bytes) (most : Nat) (w : World) (hs : s.length ≤ 1000000000) (hm : most ≤ 1000) :
    Calls Tryz.prog 136 #[.string (B s), .int .i64 most] w fun e w' => ∃ A C, e = .returned (.slice A (argsB s most).length C) ∧ w'.ownsRow w.heap.size 9 1 (.slice A (argsB s most).length C) (argsB s most).length (strCells (argsB s most)) ∧ Below w.heap.size w w' := by
  obtain ⟨i0, hi, hz0, hz1, hz2⟩ := info_parts info9
  go_enter Tryz.func136, Tryz.ntmps136
  go_wp2_with fail
  go_loopw [0, 5] (fun t v wr => ∃ (r : Bytes) (l : List Bytes) (k : Nat), t = .string (B r) ∧ r.length ≤ s.length ∧ wr.ownsRow w.heap.size 9 1 v l.length (strCells l) ∧ l.length ≤ most ∧ most ≤ k + l.length ∧ argsF k r most l = argsB s most ∧ Below w.heap.size w wr)
    (fun t v wr => most - sliceLen v)
  case atStart => exact ⟨s, [], most, rfl, Nat.le_refl _, World.ownsRow_nil _ _ _ _, by simp, by simp, rfl, Below.refl _ _⟩
  case round =>
    obtain ⟨r, l, k, rfl, hr, hl, hlm, hk, ha, hb⟩ := hrel
    have HL := Lib.hid hl
    have HB := Lib.hid hb
    have HA := Lib.hid ha
    obtain ⟨A1, C1, rfl⟩ := row_slice hl
    clear hl hb ha
    have hlsz := HB.out.size
    have hml : l.length + 1 ≤ maxLen := Nat.le_trans (Nat.succ_le_succ (Nat.le_trans hlm hm)) (by decide)
    have hmb : (l.length + 1) * 16 ≤ 140737488355328 := by omega
    by_cases hlt : l.length + 1 < most
    · have hlt1 : (l.length : Int) + 1 < (most : Int) := by omega
      obtain ⟨k', rfl⟩ : ∃ k', k = k' + 1 := ⟨k - 1, by omega⟩
      have HQ : Hid ((if (cutB r [[44]]).2.1 = [] then l ++ [r] else argsF k' (cutB r [[44]]).2.2 most (l ++ [(cutB r [[44]]).1])) = argsB s most) := Lib.hid (by
        have := HA.out
        unfold argsF at this
        rw [if_pos hlt] at this
        exact this)
      have hle := cutB_le r [[44]]
      go_wp2_with fail
      refine (pcut_any r (some ⟨wr.heap.size, 0, none⟩) 1 [[44]] _ (row_low (row_new wr [[44]] (by decide)) (Nat.zero_le _)) (by omega) (by decide)).mono ?_
      rintro e w1 ⟨rfl, hb1⟩
      generalize cutB r [[44]] = q at *
      obtain ⟨q1, q2, q3⟩ := q
      simp only at hle HQ ⊢
      have HB0 : Hid (Below wr.heap.size wr w1) := Lib.hid (below_then ((Below.refl _ wr).alloc (Nat.le_refl _) _) (by simp) hb1)
      have HB1 := Lib.hid (below_then HB.out HB.out.size HB0.out)
      have HL1 := Lib.hid (row_below HL.out HB0.out)
      have hsz1 := HB1.out.size
      clear hb1 HL HB
      by_cases hq : q2 = []
      · rw [if_pos hq] at HQ
        subst hq
        go_wp2_with (at_builtin; go_loud (refine wpList_append_own _ rfl _ _ 58 rfl w.heap.size 9 i0 (.string ByteArray.empty) 1 16 Tryz.underlying58 hi hz0 hz1 hz2 rfl (by decide) _ l.length (strCells l) rfl (HL1.out.alloc _) ⟨w1.heap.size, 0, none⟩ 1 1 [.string (B r)] rfl rfl (cell_one_new _ _ _) (by simp [Value.oneCell']) hml hmb (by simp; omega) ?_; intro v' w2 hown' hgrow _; have hfin := Lib.hid (append_fin HB1.out HL1.out hgrow hown'); clear hown' hgrow))
        go_ret
        rw [← HQ.out]
        obtain ⟨A, C, h1, h2, h3⟩ := hfin.out
        exact ⟨A, C, congrArg Ending.returned h1, h2, h3⟩
      · rw [if_neg hq] at HQ
        have hqe : q2.isEmpty = false := by cases q2; exact absurd rfl hq; rfl
        go_wp2_with (at_builtin; go_loud (refine wpList_append_own _ rfl _ _ 58 rfl w.heap.size 9 i0 (.string ByteArray.empty) 1 16 Tryz.underlying58 hi hz0 hz1 hz2 rfl (by decide) _ l.length (strCells l) rfl (HL1.out.alloc _) ⟨w1.heap.size, 0, none⟩ 1 1 [.string (B q1)] rfl rfl (cell_one_new _ _ _) (by simp [Value.oneCell']) hml hmb (by simp; omega) ?_; intro v' w2 hown' hgrow _; have hfin := Lib.hid (append_fin HB1.out HL1.out hgrow hown'); clear hown' hgrow))
        obtain ⟨A, C, rfl, h2, h3⟩ := hfin.out
        have H2 := Lib.hid h2
        have H3 := Lib.hid h3
        clear h2 h3
        go_roundw
        case rel => exact ⟨q3, l ++ [q1], k', rfl, by omega, H2.out, by simp; omega, by simp; omega, HQ.out, H3.out⟩
        case measure => simp [sliceLen]; omega
    · have hlt1 : ¬ (l.length : Int) + 1 < (most : Int) := by omega
      have HQ : Hid (l ++ [r] = argsB s most) := Lib.hid (by
        have := HA.out
        cases k with
        | zero => exact this
        | succ k => unfold argsF at this; rw [if_neg hlt] at this; exact this)
      go_wp2_with (at_builtin; go_loud (refine wpList_append_own _ rfl _ _ 58 rfl w.heap.size 9 i0 (.string ByteArray.empty) 1 16 Tryz.underlying58 hi hz0 hz1 hz2 rfl (by decide) _ l.length (strCells l) rfl (HL.out.alloc _) ⟨wr.heap.size, 0, none⟩ 1 1 [.string (B r)] rfl rfl (cell_one_new _ _ _) (by simp [Value.oneCell']) hml hmb (by simp; omega) ?_; intro v' w2 hown' hgrow _; have hfin := Lib.hid (append_fin HB.out HL.out hgrow hown'); clear hown' hgrow))
      go_ret
      rw [← HQ.out]
      obtain ⟨A, C, h1, h2, h3⟩ := hfin.out
      exact ⟨A, C, congrArg Ending.returned h1, h2, h3⟩
end Go.Proofs.YtopkcgdfebkbaaaGreatDoor
