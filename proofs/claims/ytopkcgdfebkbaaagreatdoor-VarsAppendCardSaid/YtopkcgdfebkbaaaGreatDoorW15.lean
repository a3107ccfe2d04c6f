/- Walks: what an opening opens. -/
import Derived.Test.YtopkcgdfebkbaaaGreatDoorW14
set_option linter.unusedVariables false
set_option linter.unusedSimpArgs false
namespace Go.Proofs.YtopkcgdfebkbaaaGreatDoor
open Go.RowKit
attribute [local go_sem] B_size B_toList B_extract B_append drop_take_all

def innV (q : Option (Bytes × Bytes)) : Value := .tuple #[.string (B (q.getD ([], [])).1), .string (B (q.getD ([], [])).2), .bool q.isSome]

theorem B_cons (c : UInt8) (o : Bytes) : (⟨#[c]⟩ : ByteArray) ++ B o = B (c :: o) := B_append [c] o

set_option maxRecDepth 100000 in
set_option maxHeartbeats 1000000 in
theorem inner_any (s : Bytes) (w : World) (hs : s.length ≤ 1000000000) :
    Calls Tryz.prog 87 #[.string (B s)] w fun e w' => e = .returned (innV (innerB s)) ∧ Below w.heap.size w w' := by
  go_enter Tryz.func87, Tryz.ntmps87
  go_wp2_with fail
  go_loopw [5, 6] (fun v i wr => ∃ (o : Bytes) (at_ k : Nat), v = .string (B o) ∧ i = .int .i64 at_ ∧ at_ ≤ s.length ∧ (o ≠ [] → 2 ≤ at_) ∧ s.length < k + at_ ∧ innerF s k at_ o = innerB s ∧ o.length ≤ at_ ∧ Below w.heap.size w wr)
    (fun v i wr => s.length - (intOf i).toNat)
  case atStart => exact ⟨[], 0, s.length + 1, rfl, rfl, by omega, by simp, by omega, rfl, by simp, Below.refl _ _⟩
  case round =>
    obtain ⟨o, at_, k, rfl, rfl, hal, h2, hk, hf, hol, hb⟩ := hrel
    have HB := Lib.hid hb
    have HF := Lib.hid hf
    clear hb hf
    have ha0 : (0 : Int) ≤ (at_ : Int) := by omega
    by_cases hat : at_ < s.length
    · have ha1 : (at_ : Int) < (s.length : Int) := by omega
      have ha2 : (at_ : Int) ≤ (s.length : Int) := by omega
      obtain ⟨k', rfl⟩ : ∃ k', k = k' + 1 := ⟨k - 1, by omega⟩
      have hf := HF.out
      unfold innerF at hf
      rw [if_pos hat] at hf
      cases h1 : Lib.hasPrefix (s.drop at_) [36, 40] with
      | true =>
        rw [if_pos h1] at hf
        have hl2 := Lib.hasPrefix_le h1
        have hdl : (s.drop at_).length = s.length - at_ := List.length_drop
        simp only [List.length_cons, List.length_nil] at hl2
        have HF2 := Lib.hid hf
        clear hf
        go_wp2_with fail
        refine (hasPrefix_any (s.drop at_) [36, 40] _).mono ?_
        rintro e w1 ⟨rfl, rfl⟩
        rw [h1]
        go_wp2_with fail
        go_roundw
        case rel => exact ⟨41 :: o, at_ + 2, k', by rw [B_cons], by simp; omega, by omega, fun _ => by omega, by omega, HF2.out, by simp; omega, HB.out⟩
        case measure => simp [intOf]; omega
      | false =>
        rw [if_neg (by rw [h1]; simp)] at hf
        cases h3 : Lib.hasPrefix (s.drop at_) [36, 123] with
        | true =>
          rw [if_pos h3] at hf
          have hl2 := Lib.hasPrefix_le h3
          have hdl : (s.drop at_).length = s.length - at_ := List.length_drop
          simp only [List.length_cons, List.length_nil] at hl2
          have HF2 := Lib.hid hf
          clear hf
          go_wp2_with fail
          refine (hasPrefix_any (s.drop at_) [36, 40] _).mono ?_
          rintro e w1 ⟨rfl, rfl⟩
          rw [h1]
          go_wp2_with fail
          refine (hasPrefix_any (s.drop at_) [36, 123] _).mono ?_
          rintro e w1 ⟨rfl, rfl⟩
          rw [h3]
          go_wp2_with fail
          go_roundw
          case rel => exact ⟨125 :: o, at_ + 2, k', by rw [B_cons], by simp; omega, by omega, fun _ => by omega, by omega, HF2.out, by simp; omega, HB.out⟩
          case measure => simp [intOf]; omega
        | false =>
          rw [if_neg (by rw [h3]; simp)] at hf
          cases o with
          | nil =>
            have HF2 := Lib.hid hf
            clear hf
            go_wp2_with fail
            refine (hasPrefix_any (s.drop at_) [36, 40] _).mono ?_
            rintro e w1 ⟨rfl, rfl⟩
            rw [h1]
            go_wp2_with fail
            refine (hasPrefix_any (s.drop at_) [36, 123] _).mono ?_
            rintro e w1 ⟨rfl, rfl⟩
            rw [h3]
            go_wp2_with fail
            go_quiet (fail)
            have HB2 := Lib.hid (below_then HB.out HB.out.size (below_drewN nq))
            go_wp2_with fail
            go_roundw
            case rel => exact ⟨[], at_ + 1, k', rfl, by simp, by omega, by simp, by omega, HF2.out, by simp, HB2.out⟩
            case measure => simp [intOf]; omega
          | cons c r =>
            have h22 : 2 ≤ at_ := h2 (by simp)
            have hb0 : (B (c :: r))[0]'(by rw [B_size]; simp) = c := B_get _ 0 _ (by simp)
            have hbs : (B s)[at_]'(by rw [B_size]; exact hat) = s[at_] := B_get _ _ _ hat
            obtain ⟨x, hx⟩ : ∃ x, s[at_] = x := ⟨_, rfl⟩
            have hgd : s.getD at_ 0 = x := by rw [List.getD_eq_getElem?_getD, List.getElem?_eq_getElem hat]; exact hx
            rw [hx] at hbs
            simp only [hgd] at hf
            by_cases hxc : x = c
            · rw [if_pos hxc] at hf
              subst hxc
              cases r with
              | nil =>
                rw [if_pos rfl] at hf
                have HF2 := Lib.hid hf
                clear hf
                go_wp2_with fail
                refine (hasPrefix_any (s.drop at_) [36, 40] _).mono ?_
                rintro e w1 ⟨rfl, rfl⟩
                rw [h1]
                go_wp2_with fail
                refine (hasPrefix_any (s.drop at_) [36, 123] _).mono ?_
                rintro e w1 ⟨rfl, rfl⟩
                rw [h3]
                go_wp2_with fail
                go_quiet (fail)
                have HB2 := Lib.hid (below_then HB.out HB.out.size (below_drewN nq))
                go_wp2_with fail
                generalize w1.drewN nq = w5 at *
                have hi2 : (2 : Int) ≤ (at_ : Int) := by omega
                have hi3 : (at_ : Int) + 1 ≤ (s.length : Int) := by omega
                go_quiet (fail)
                have HB3 := Lib.hid (below_then HB2.out HB2.out.size (below_drewN nq))
                go_wp2_with fail
                go_ret3
                exact ⟨by rw [← HF2.out]; simp [innV], HB3.out⟩
              | cons c2 r2 =>
                rw [if_neg (by simp)] at hf
                have HF2 := Lib.hid hf
                clear hf
                have hne : (x :: c2 :: r2).length ≠ 0 := by simp
                have h1l : (1 : Int) ≤ ((x :: c2 :: r2).length : Int) := by simp; omega
                go_wp2_with fail
                refine (hasPrefix_any (s.drop at_) [36, 40] _).mono ?_
                rintro e w1 ⟨rfl, rfl⟩
                rw [h1]
                go_wp2_with fail
                refine (hasPrefix_any (s.drop at_) [36, 123] _).mono ?_
                rintro e w1 ⟨rfl, rfl⟩
                rw [h3]
                go_wp2_with fail
                go_quiet (fail)
                have HB2 := Lib.hid (below_then HB.out HB.out.size (below_drewN nq))
                go_wp2_with fail
                go_roundw
                case rel => exact ⟨c2 :: r2, at_ + 1, k', rfl, by simp, by omega, fun _ => by omega, by omega, HF2.out, by simp at hol ⊢; omega, HB2.out⟩
                case measure => simp [intOf]; omega
            · rw [if_neg hxc] at hf
              have hxc1 : ((x.toNat : Int) == (c.toNat : Int)) = false := by
                rw [beq_eq_false_iff_ne]; intro e; exact hxc (UInt8.toNat_inj.1 (by omega))
              have HF2 := Lib.hid hf
              clear hf
              go_wp2_with fail
              refine (hasPrefix_any (s.drop at_) [36, 40] _).mono ?_
              rintro e w1 ⟨rfl, rfl⟩
              rw [h1]
              go_wp2_with fail
              refine (hasPrefix_any (s.drop at_) [36, 123] _).mono ?_
              rintro e w1 ⟨rfl, rfl⟩
              rw [h3]
              go_wp2_with fail
              go_quiet (fail)
              have HB2 := Lib.hid (below_then HB.out HB.out.size (below_drewN nq))
              go_wp2_with fail
              go_roundw
              case rel => exact ⟨c :: r, at_ + 1, k', rfl, by simp, by omega, fun _ => by omega, by omega, HF2.out, by simp at hol ⊢; omega, HB2.out⟩
              case measure => simp [intOf]; omega
    · obtain rfl : at_ = s.length := by omega
      have HF2 : Hid (innerB s = none) := Lib.hid (by
        rw [← HF.out]
        cases k with
        | zero => rfl
        | succ k => unfold innerF; rw [if_neg (by omega)])
      go_wp2_with fail
      go_ret3
      exact ⟨by rw [HF2.out]; rfl, HB.out⟩
end Go.Proofs.YtopkcgdfebkbaaaGreatDoor
