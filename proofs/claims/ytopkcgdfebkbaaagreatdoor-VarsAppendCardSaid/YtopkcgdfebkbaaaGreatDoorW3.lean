/- Walks: where a variable stands, or would. -/
import Derived.Test.YtopkcgdfebkbaaaGreatDoorW2
import Derived.Test.YtopkcgdfebkbaaaGreatDoorPureSet
set_option linter.unusedVariables false
set_option linter.unusedSimpArgs false
namespace Go.Proofs.YtopkcgdfebkbaaaGreatDoor
open Go.RowKit
attribute [local go_sem] B_size B_toList

def cmpB (a b : Bytes) : Int := if Op.bytesLess a b then -1 else if a = b then 0 else 1

set_option maxHeartbeats 400000 in
theorem isNaN_any (x : Bytes) (w : World) : Calls Tryz.prog 148 #[.string (B x)] w fun e w' => e = .returned (.bool false) ∧ w = w' := by
  go_enter Tryz.func148, Tryz.ntmps148
  go_wp2
  go_ret
  exact ⟨by simp, rfl⟩

set_option maxHeartbeats 400000 in
theorem compare_any (a b : Bytes) (w : World) : Calls Tryz.prog 95 #[.string (B a), .string (B b)] w fun e w' => e = .returned (.int .i64 (cmpB a b)) ∧ w = w' := by
  by_cases h1 : Op.bytesLess a b = true
  · have e1 : cmpB a b = -1 := if_pos h1
    rw [e1]
    clear e1
    go_enter Tryz.func95, Tryz.ntmps95
    go_wp2_with (go_at_call 148; refine (isNaN_any _ _).mono ?_; rintro e w' ⟨rfl, rfl⟩)
    go_ret
    exact ⟨rfl, rfl⟩
  · have h1' : Op.bytesLess a b = false := by simpa using h1
    clear h1
    by_cases h2 : a = b
    · have e1 : cmpB a b = 0 := by unfold cmpB; rw [if_neg (by simp [h1']), if_pos h2]
      rw [e1]
      clear e1
      subst h2
      go_enter Tryz.func95, Tryz.ntmps95
      go_wp2_with (go_at_call 148; refine (isNaN_any _ _).mono ?_; rintro e w' ⟨rfl, rfl⟩)
      go_ret
      exact ⟨rfl, rfl⟩
    · have e1 : cmpB a b = 1 := by unfold cmpB; rw [if_neg (by simp [h1']), if_neg h2]
      rw [e1]
      clear e1
      have h3 : (a == b) = false := by simpa using h2
      clear h2
      go_enter Tryz.func95, Tryz.ntmps95
      go_wp2_with (go_at_call 148; refine (isNaN_any _ _).mono ?_; rintro e w' ⟨rfl, rfl⟩)
      go_ret
      exact ⟨rfl, rfl⟩

set_option maxRecDepth 100000 in
set_option maxHeartbeats 400000 in
theorem place1_any (a t name : Bytes) (s : Bool) (w : World) :
    Calls Tryz.prog 94 #[.agg #[.string (B a), .string (B t), .bool s], .string (B name)] w fun e w' => e = .returned (.int .i64 (cmpB a name)) ∧ Below w.heap.size w w' := by
  go_enter Tryz.func94, Tryz.ntmps94
  go_wp2_with (go_at_call 95; refine (compare_any _ _ _).mono ?_; rintro e w' ⟨rfl, rfl⟩)
  go_ret
  exact ⟨rfl, by go_grown⟩

theorem cmpB_neg {a b : Bytes} (h : Op.bytesLess a b = true) : cmpB a b = -1 := if_pos h
theorem cmpB_nonneg {a b : Bytes} (h : Op.bytesLess a b = false) : 0 ≤ cmpB a b := by unfold cmpB; rw [if_neg (by simp [h])]; split <;> omega

set_option maxRecDepth 100000 in
set_option maxHeartbeats 800000 in
theorem search_any (A : Option Addr) (N C : Nat) (l : List Var) (name : Bytes) (p : Nat) (w : World) (hv : VR w (.slice A N C) l) (hN2 : N ≤ 1000000000) (hp : Stands l name p) :
    Calls Tryz.prog 93 #[.slice A N C, .string (B name), .func (.func 94) #[] #[]] w fun e w' => e = .returned (.tuple #[.int .i64 p, .bool (isAt l name p)]) ∧ Below w.heap.size w w' := by
  obtain ⟨hN, hNC, hC, hA⟩ := hv.parts
  have HN := Lib.hid hN
  clear hN
  have hpN : p ≤ N := by rw [HN.out]; exact hp.le
  have HV := Lib.hid hv
  clear hv
  go_enter Tryz.func93, Tryz.ntmps93
  go_wp2
  go_loopw [9, 10] (fun i j wr => ∃ a b : Nat, i = .int .i64 a ∧ j = .int .i64 b ∧ a ≤ p ∧ p ≤ b ∧ b ≤ N ∧ Below w.heap.size w wr) (fun i j _ => (intOf j).toNat - (intOf i).toNat)
  case atStart => exact ⟨0, N, rfl, rfl, Nat.zero_le _, hpN, Nat.le_refl _, Below.refl _ _⟩
  case round =>
    obtain ⟨a, b, rfl, rfl, ha, hb, hbN, hw⟩ := hrel
    by_cases hlt : a < b
    · obtain ⟨g, rfl, hgl⟩ := hA (by omega)
      obtain ⟨x, hx⟩ : ∃ x, l[(a + b) / 2]? = some x := ⟨l[(a + b) / 2]'(by have := HN.out; omega), List.getElem?_eq_getElem _⟩
      obtain ⟨x1, x2, x3⟩ := (HV.out.below hw).cell hx
      have HX := Lib.hid hx
      clear hx
      by_cases hl : Op.bytesLess x.name name = true
      · have hap : (a + b) / 2 < p := by
          rcases Nat.lt_or_ge ((a + b) / 2) p with h | h
          · exact h
          · have := hp.behind _ x h HX.out; rw [hl] at this; cases this
        have hc := cmpB_neg hl
        clear hl
        go_wp2_with fail
        refine (place1_any _ _ _ _ _).mono ?_
        rintro e w1 ⟨rfl, hb1⟩
        rw [hc]
        clear hc
        go_wp2
        go_roundw
        case rel => exact ⟨(a + b) / 2 + 1, b, by go_num, rfl, by omega, hb, hbN, below_then hw hw.size hb1⟩
        case measure => simp [intOf]; omega
      · have hl' : Op.bytesLess x.name name = false := by simpa using hl
        have hap : p ≤ (a + b) / 2 := by
          rcases Nat.lt_or_ge ((a + b) / 2) p with h | h
          · have := hp.ahead _ x h HX.out; rw [hl'] at this; cases this
          · exact h
        have hc := cmpB_nonneg hl'
        clear hl hl'
        go_wp2_with fail
        refine (place1_any _ _ _ _ _).mono ?_
        rintro e w1 ⟨rfl, hb1⟩
        generalize cmpB x.name name = c at hc ⊢
        go_wp2
        go_roundw
        case rel => exact ⟨a, (a + b) / 2, rfl, by go_num, ha, hap, by omega, below_then hw hw.size hb1⟩
        case measure => simp [intOf]; omega
    · obtain rfl : a = p := by omega
      obtain rfl : b = a := by omega
      have HW := Lib.hid hw
      by_cases hbl : b < N
      · obtain ⟨g, rfl, hgl⟩ := hA (by omega)
        obtain ⟨x, hx⟩ : ∃ x, l[b]? = some x := ⟨l[b]'(by have := HN.out; omega), List.getElem?_eq_getElem _⟩
        obtain ⟨x1, x2, x3⟩ := (HV.out.below hw).cell hx
        have hnl := hp.behind b x (Nat.le_refl _) hx
        have hc : (cmpB x.name name == 0) = (x.name == name) := by
          unfold cmpB
          rw [if_neg (by simp [hnl])]
          by_cases h : x.name = name <;> simp [h]
        have hat : isAt l name b = (x.name == name) := by unfold isAt; rw [hx]
        have HX := Lib.hid hx
        have HAT := Lib.hid hat
        clear hx hnl hat
        go_wp2_with fail
        refine (place1_any _ _ _ _ _).mono ?_
        rintro e w1 ⟨rfl, hb1⟩
        have HC := Lib.hid hc
        clear hc
        go_wp2
        go_ret2
        exact ⟨by rw [HAT.out, ← HC.out]; rfl, below_then hw hw.size hb1⟩
      · have hat : isAt l name b = false := by
          unfold isAt
          rw [List.getElem?_eq_none (by have := HN.out; omega)]
        have HAT := Lib.hid hat
        clear hat
        go_wp2
        go_ret2
        exact ⟨by rw [HAT.out]; rfl, hw⟩

set_option maxRecDepth 100000 in
set_option maxHeartbeats 400000 in
theorem place_any (A : Option Addr) (N C : Nat) (l : List Var) (name : Bytes) (p : Nat) (w : World) (hv : VR w (.slice A N C) l) (hN2 : N ≤ 1000000000) (hp : Stands l name p) :
    Calls Tryz.prog 58 #[.agg #[.slice A N C], .string (B name)] w fun e w' => e = .returned (.tuple #[.int .i64 p, .bool (isAt l name p)]) ∧ Below w.heap.size w w' := by
  have HV := Lib.hid hv
  clear hv
  go_enter Tryz.func58, Tryz.ntmps58
  go_wp2_with fail
  refine (search_any A N C l name p _ (HV.out.below (by go_grown)) hN2 hp).mono ?_
  rintro e w1 ⟨rfl, hb⟩
  go_wp2
  go_ret2
  exact ⟨rfl, below_then (by go_grown) (by simp) hb⟩
end Go.Proofs.YtopkcgdfebkbaaaGreatDoor
