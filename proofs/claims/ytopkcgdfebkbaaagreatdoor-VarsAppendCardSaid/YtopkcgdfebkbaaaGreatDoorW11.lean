/- Walks: takes; the stack of what is open; parse.Cut. -/
import Derived.Test.YtopkcgdfebkbaaaGreatDoorW10
import Derived.WalkMore
set_option linter.unusedVariables false
set_option linter.unusedSimpArgs false
namespace Go.Proofs.YtopkcgdfebkbaaaGreatDoor
open Go.RowKit
attribute [local go_sem] B_size B_toList B_extract B_append drop_take_all

set_option maxRecDepth 100000 in
set_option maxHeartbeats 1000000 in
theorem takes_any (name : Bytes) (w : World) :
    Calls Tryz.prog 135 #[.string (B name)] w fun e w' => e = .returned (.tuple #[.int .i64 (takesB name).1, .int .i64 (takesB name).2]) ∧ w' = w := by
  by_cases h1 : name = sIf
  · have e1 : (name == [105, 102]) = true := by simpa [sIf] using h1
    go_enter Tryz.func135, Tryz.ntmps135
    go_wp2
    go_ret2
    exact ⟨by simp [takesB, h1], rfl⟩
  · have e1 : (name == [105, 102]) = false := by simpa [sIf] using h1
    by_cases h2 : name = sForeach
    · have e2 : (name == [102, 111, 114, 101, 97, 99, 104]) = true := by simpa [sForeach] using h2
      go_enter Tryz.func135, Tryz.ntmps135
      go_wp2
      go_ret2
      exact ⟨by simp [takesB, h1, h2, sIf, sForeach], rfl⟩
    · have e2 : (name == [102, 111, 114, 101, 97, 99, 104]) = false := by simpa [sForeach] using h2
      by_cases h3 : name = sCall
      · have e3 : (name == [99, 97, 108, 108]) = true := by simpa [sCall] using h3
        go_enter Tryz.func135, Tryz.ntmps135
        go_wp2
        go_ret2
        exact ⟨by simp [takesB, h3, sIf, sForeach, sCall], rfl⟩
      · have e3 : (name == [99, 97, 108, 108]) = false := by simpa [sCall] using h3
        go_enter Tryz.func135, Tryz.ntmps135
        go_wp2_with fail
        refine (many_any name w).mono ?_
        rintro e w1 ⟨rfl, rfl⟩
        go_wp2
        go_ret2
        exact ⟨by simp [takesB, h1, h2, h3], rfl⟩

/-- What is open, the innermost last: a row of bytes. -/
def byteCells (k : Bytes) : List Value := k.map fun b => .int .u8 b.toNat
theorem byteCells_length (k : Bytes) : (byteCells k).length = k.length := by simp [byteCells]
def KR (w : World) (v : Value) (k : Bytes) : Prop := w.ownsRow 0 5 1 v k.length (byteCells k)

set_option maxRecDepth 100000 in
set_option maxHeartbeats 1000000 in
theorem push_any (v : Value) (k : Bytes) (c : UInt8) (w : World) (hk : KR w v k) (hl : k.length ≤ 1000000000) :
    Calls Tryz.prog 269 #[v, .int .u8 c.toNat] w fun e w' => ∃ v', e = .returned v' ∧ KR w' v' (k ++ [c]) ∧ Below w.heap.size w w' := by
  obtain ⟨i0, hi, hz0, hz1, hz2⟩ := info_parts info5
  have hml : k.length + 1 ≤ maxLen := Nat.le_trans (Nat.succ_le_succ hl) (by decide)
  have hfin : byteCells (k ++ [c]) = byteCells k ++ [.int .u8 c.toNat] := by simp [byteCells]
  rcases hk.2 with ⟨rfl, h0⟩ | ⟨g, cap, cur, rfl, hb, hg, hle, hcm, hcs, htake⟩
  · obtain rfl : k = [] := List.length_eq_zero_iff.1 h0
    go_enter Tryz.func269, Tryz.ntmps269
    go_wp2_with (at_builtin; go_loud (refine wpList_append_own _ rfl _ _ 270 rfl w.heap.size 5 i0 (.int .u8 0) 1 1 Tryz.underlying270 hi hz0 hz1 hz2 rfl (by decide) _ 0 [] rfl (World.ownsRow_nil _ _ _ _) ⟨w.heap.size, 0, none⟩ 1 1 [.int .u8 c.toNat] rfl rfl (cell_one_new _ _ _) (by simp [Value.oneCell']) (by decide) (by decide) (by simp) ?_; intro v' w1 hown' hgrow _))
    go_ret
    refine ⟨_, rfl, row_low (by simpa [KR, byteCells] using hown') (Nat.zero_le _), ?_⟩
    exact grown_below (grown_trans (World.grownBy_alloc w _ none) hgrow)
  · have hcell : ∀ j u, (byteCells k)[j]? = some u → (w.alloc (.cells #[.int .u8 c.toNat] 5)).cell? ⟨g, 0 + j, none⟩ = some u := by
      intro j u hj
      have hgl : g < w.heap.size := (Array.getElem?_eq_some_iff.1 hg).1
      rw [Nat.zero_add, ((Below.refl _ w).alloc (Nat.le_refl _) (.cells #[.int .u8 c.toNat] 5)).cell (p := ⟨g, j, none⟩) hgl]
      have hjl : j < k.length := by rw [← byteCells_length]; exact (List.getElem?_eq_some_iff.1 hj).1
      rw [← htake] at hj
      rw [List.getElem?_take] at hj
      simp only [Nat.mul_one] at hj
      rw [if_pos hjl] at hj
      simp [World.cell?, hg]
      simpa using hj
    have hk0 : (0 : Int) ≤ (k.length : Int) := by omega
    have hkc : (k.length : Int) ≤ (cap : Int) := by omega
    go_enter Tryz.func269, Tryz.ntmps269
    go_wp2_with (at_builtin; go_loud (refine wpList_append_arg _ rfl _ _ 270 rfl 5 i0 (.int .u8 0) 1 1 Tryz.underlying270 hi hz0 hz1 hz2 rfl (by decide) g 0 k.length k.length (byteCells k) rfl (by simp [byteCells]) hcell ⟨w.heap.size, 0, none⟩ 1 1 [.int .u8 c.toNat] rfl rfl (cell_one_new _ _ _) (by simp [Value.oneCell']) (fun h => absurd h (by omega)) hml (by omega) (fun h => absurd h (by omega)) ?_; intro _ v' w1 hown' hgrow))
    go_ret
    refine ⟨_, rfl, ?_, grown_below (grown_trans (World.grownBy_alloc w _ none) hgrow)⟩
    have h2 := row_low hown' (Nat.zero_le _)
    simpa [KR, byteCells] using h2
end Go.Proofs.YtopkcgdfebkbaaaGreatDoor
