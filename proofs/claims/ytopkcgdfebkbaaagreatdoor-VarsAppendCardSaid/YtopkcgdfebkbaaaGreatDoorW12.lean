/- Walks: one step over a text; parse.Cut. -/
import Derived.Test.YtopkcgdfebkbaaaGreatDoorW11
set_option linter.unusedVariables false
set_option linter.unusedSimpArgs false
namespace Go.Proofs.YtopkcgdfebkbaaaGreatDoor
open Go.RowKit
attribute [local go_sem] B_size B_toList B_extract B_append drop_take_all

theorem hasPrefix_any (s p : Bytes) (w : World) : Calls Tryz.prog 99 #[.string (B s), .string (B p)] w fun e w' => e = .returned (.bool (Lib.hasPrefix s p)) ∧ w' = w := by
  have h := Tryz.strings_HasPrefix (B s) (B p) w
  rw [B_data, B_data] at h
  exact h

theorem nil_or_snoc (k : Bytes) : k = [] ∨ ∃ k' c, k = k' ++ [c] := by
  rcases List.eq_nil_or_concat k with h | ⟨k', c, h⟩
  · exact .inl h
  · exact .inr ⟨k', c, by rw [h, List.concat_eq_append]⟩
theorem KR_slice {w : World} {v : Value} {k : Bytes} (h : KR w v k) : ∃ A C, v = .slice A k.length C := row_slice h
theorem KR_pop {w : World} {A : Option Addr} {C : Nat} {k : Bytes} {c : UInt8} (h : KR w (.slice A (k.length + 1) C) (k ++ [c])) : KR w (.slice A k.length C) k := by
  refine ⟨by simp [byteCells], ?_⟩
  rcases h.2 with ⟨hv, h0⟩ | ⟨g, cap, cur, hv, hb, hg, hle, hcm, hcs, htake⟩
  · simp at h0
  · injection hv with e1 e2 e3
    subst e1; subst e3
    refine .inr ⟨g, C, cur, rfl, hb, hg, by simp at hle; omega, hcm, hcs, ?_⟩
    have h1 : (cur.toList.take ((k ++ [c]).length * 1)).take k.length = (byteCells (k ++ [c])).take k.length := by rw [htake]
    rw [List.take_take] at h1
    simp [byteCells] at h1
    simp [byteCells]
    rw [← h1]
theorem KR_last {w : World} {A : Option Addr} {C : Nat} {k : Bytes} {c : UInt8} (h : KR w (.slice A (k.length + 1) C) (k ++ [c])) : ∃ g, A = some ⟨g, 0, none⟩ ∧ w.cell? ⟨g, k.length, none⟩ = some (.int .u8 c.toNat) ∧ k.length + 1 ≤ C := by
  rcases h.2 with ⟨hv, h0⟩ | ⟨g, cap, cur, hv, hb, hg, hle, hcm, hcs, htake⟩
  · simp at h0
  · injection hv with e1 e2 e3
    subst e1; subst e3
    refine ⟨g, rfl, ?_, by simp at hle; exact hle⟩
    have h1 : (cur.toList.take ((k ++ [c]).length * 1))[k.length]? = (byteCells (k ++ [c]))[k.length]? := by rw [htake]
    rw [List.getElem?_take] at h1
    simp [byteCells] at h1
    simp [World.cell?, hg, h1]

set_option maxRecDepth 100000 in
set_option maxHeartbeats 1000000 in
theorem step_over (v : Value) (k s : Bytes) (w : World) (hk : KR w v k) (hl : k.length ≤ 1000000000) (hs : s ≠ []) :
    Calls Tryz.prog 217 #[v, .string (B s)] w fun e w' => ∃ v', e = .returned (.tuple #[v', .int .i64 (stepB k s).2.1, .bool (stepB k s).2.2]) ∧ KR w' v' (stepB k s).1 ∧ Below w.heap.size w w' := by
  have HK := Lib.hid hk
  obtain ⟨A, C, rfl⟩ := KR_slice hk
  clear hk
  unfold stepB
  cases h1 : Lib.hasPrefix s [36, 40] with
  | true =>
    rw [if_pos rfl]
    go_enter Tryz.func217, Tryz.ntmps217
    go_wp2_with fail
    refine (hasPrefix_any s [36, 40] w).mono ?_
    rintro e w1 ⟨rfl, rfl⟩
    rw [h1]
    go_wp2_with fail
    refine (push_any _ k 41 _ HK.out hl).mono ?_
    rintro e w1 ⟨v', rfl, hk', hb⟩
    have HK' := Lib.hid hk'
    clear hk'
    obtain ⟨A', C', rfl⟩ := KR_slice HK'.out
    go_wp2
    go_ret3
    exact ⟨_, rfl, (by have := HK'.out; rw [List.length_append] at this; exact this), hb⟩
  | false =>
    rw [if_neg (by simp)]
    cases h2 : Lib.hasPrefix s [36, 123] with
    | true =>
      rw [if_pos rfl]
      go_enter Tryz.func217, Tryz.ntmps217
      go_wp2_with fail
      refine (hasPrefix_any s [36, 40] w).mono ?_
      rintro e w1 ⟨rfl, rfl⟩
      rw [h1]
      go_wp2_with fail
      refine (hasPrefix_any s [36, 123] _).mono ?_
      rintro e w1 ⟨rfl, rfl⟩
      rw [h2]
      go_wp2_with fail
      refine (push_any _ k 125 _ HK.out hl).mono ?_
      rintro e w1 ⟨v', rfl, hk', hb⟩
      have HK' := Lib.hid hk'
      clear hk'
      obtain ⟨A', C', rfl⟩ := KR_slice HK'.out
      go_wp2
      go_ret3
      exact ⟨_, rfl, (by have := HK'.out; rw [List.length_append] at this; exact this), hb⟩
    | false =>
      rw [if_neg (by simp)]
      rcases nil_or_snoc k with rfl | ⟨k', c, rfl⟩
      · rw [if_neg (by simp)]
        have hd : decide ((0 : Int) < 0) = false := by decide
        go_enter Tryz.func217, Tryz.ntmps217
        go_wp2_with fail
        refine (hasPrefix_any s [36, 40] w).mono ?_
        rintro e w1 ⟨rfl, rfl⟩
        rw [h1]
        go_wp2_with fail
        refine (hasPrefix_any s [36, 123] _).mono ?_
        rintro e w1 ⟨rfl, rfl⟩
        rw [h2]
        go_wp2_with fail
        go_quiet (fail)
        go_wp2
        go_ret3
        exact ⟨_, rfl, HK.out, below_drewN _⟩
      · cases s with
        | nil => exact absurd rfl hs
        | cons b r =>
          have HL := Lib.hid hl
          rw [List.length_append] at HK ⊢
          obtain ⟨g, rfl, hcell, hC⟩ := KR_last HK.out
          have hC1 : k'.length ≤ C := by omega
          have hpop := Lib.hid (KR_pop HK.out)
          have hpos : (0 : Int) < (k'.length : Int) + 1 := by omega
          have hw1 : IntKind.i64.wrap (k'.length : Int) = (k'.length : Int) := wrap_small _ (by omega) (by simp at hl; omega)
          have hlt1 : (k'.length : Int) < (k'.length : Int) + 1 := by omega
          have hb0 : (B (b :: r))[0]'(by rw [B_size]; simp) = b := B_get _ 0 _ (by simp)
          have hsz : (0 : Int) < ((b :: r).length : Int) := by simp
          by_cases hbc : b = c
          · subst hbc
            rw [if_pos (by simp)]
            go_enter Tryz.func217, Tryz.ntmps217
            go_wp2_with fail
            refine (hasPrefix_any _ [36, 40] w).mono ?_
            rintro e w1 ⟨rfl, rfl⟩
            rw [h1]
            go_wp2_with fail
            refine (hasPrefix_any _ [36, 123] _).mono ?_
            rintro e w1 ⟨rfl, rfl⟩
            rw [h2]
            go_wp2_with fail
            go_quiet (fail)
            go_wp2
            go_ret3
            exact ⟨_, rfl, (by rw [List.dropLast_concat]; exact hpop.out), below_drewN _⟩
          · have hbc1 : ((b.toNat : Int) == (c.toNat : Int)) = false := by
              rw [beq_eq_false_iff_ne]; intro e; exact hbc (UInt8.toNat_inj.1 (by omega))
            have hn0 : ((k'.length : Int) + 1 == 0) = false := by rw [beq_eq_false_iff_ne]; omega
            rw [if_neg (by simp [hbc])]
            go_enter Tryz.func217, Tryz.ntmps217
            go_wp2_with fail
            refine (hasPrefix_any _ [36, 40] w).mono ?_
            rintro e w1 ⟨rfl, rfl⟩
            rw [h1]
            go_wp2_with fail
            refine (hasPrefix_any _ [36, 123] _).mono ?_
            rintro e w1 ⟨rfl, rfl⟩
            rw [h2]
            go_wp2_with fail
            go_quiet (fail)
            go_wp2
            go_ret3
            exact ⟨_, by simp, HK.out, below_drewN _⟩
end Go.Proofs.YtopkcgdfebkbaaaGreatDoor
