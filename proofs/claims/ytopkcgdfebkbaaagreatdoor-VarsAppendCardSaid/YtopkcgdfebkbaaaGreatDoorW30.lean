/- Walks: a name; Assign; of. -/
import Derived.Test.YtopkcgdfebkbaaaGreatDoorW29
import Derived.Test.YtopkcgdfebkbaaaGreatDoorPA
import Derived.ArgAppend
import Derived.Lib.ConvBytes
import Derived.Lib.AtoiErrMem
set_option linter.unusedVariables false
set_option linter.unusedSimpArgs false
namespace Go.Proofs.YtopkcgdfebkbaaaGreatDoor
open Go.RowKit
attribute [local go_sem] B_size B_toList B_extract B_append drop_take_all

set_option maxRecDepth 100000 in
set_option maxHeartbeats 1000000 in
theorem of_any (cf : CallF) (hC : OwesC cf) (hcf : CallFit cf) (v : List Var) (A : Option Addr) (N C K : Nat) (w : World) (t : Bytes) (r : Except Nat Bytes) (hv : VR w (.slice A N C) v) (henv : Env K v) (hK : K ≤ 9000) (hg : Glob w) (ht : t.length ≤ 100000) (hf : expandB cf v t = some r) :
    Calls Tryz.prog 28 #[.agg #[.slice A N C], .string (B t)] w fun e w' => e = .returned (.string (B (tx r))) ∧ Below w.heap.size w w' := by
  have HB0 := Lib.hid ((Below.refl _ w).alloc (Nat.le_refl _) (.cells #[.slice A N C] 25))
  have hcall := expandAll_any cf hC hcf v A N C K _ t r (row_below hv HB0.out) henv hK (hg.below HB0.out hg.size) ht hf
  clear hv henv hg hf
  go_enter Tryz.func28, Tryz.ntmps28
  go_wp2_with fail
  refine hcall.mono ?_
  rintro e w2 ⟨rfl, hb⟩
  have HB1 := Lib.hid (below_then HB0.out HB0.out.size hb)
  clear hb hcall
  unfold resV
  go_wp2_with fail
  go_ret
  exact ⟨rfl, HB1.out⟩

theorem nameC_iff (c : UInt8) : nameC c = true ↔ ((65 ≤ (c.toNat : Int) ∧ (c.toNat : Int) ≤ 90) ∨ (97 ≤ (c.toNat : Int) ∧ (c.toNat : Int) ≤ 122) ∨ (48 ≤ (c.toNat : Int) ∧ (c.toNat : Int) ≤ 57) ∨ (c.toNat : Int) = 95 ∨ (c.toNat : Int) = 45 ∨ (c.toNat : Int) = 46) := by
  have e : ∀ k : UInt8, (c == k) = true ↔ (c.toNat : Int) = k.toNat := fun k => by rw [beq_iff_eq, ← UInt8.toNat_inj]; omega
  simp only [nameC, Bool.or_eq_true, Bool.and_eq_true, decide_eq_true_eq, UInt8.le_iff_toNat_le, e]
  simp
  omega

set_option maxRecDepth 100000 in
set_option maxHeartbeats 4000000 in
theorem name_any (s : Bytes) (w : World) (hs : s.length ≤ 1000000000) : Calls Tryz.prog 55 #[.string (B s)] w fun e w' => e = .returned (.bool (nameB s)) ∧ Below w.heap.size w w' := by
  have hconv := Lib.run_convert_string_bytes (P := Tryz.prog) w 9 131 5 (B s) Tryz.underlying9 Tryz.underlying131 Tryz.underlying5
  go_enter Tryz.func55, Tryz.ntmps55
  go_wp2_with fail
  have hcell : ∀ j (hj : j < s.length), (Lib.bytesWorld w 5 (B s)).cell? ⟨w.heap.size, j, none⟩ = some (.int .u8 (s[j].toNat : Int)) := by
    intro j hj
    have := Lib.bytesWorld_cell w 5 (B s) j (by rw [B_size]; exact hj)
    rw [B_data] at this
    simpa [List.getD, hj] using this
  have HB := Lib.hid (Lib.bytesWorld_below w 5 (B s))
  have HCELL := Lib.hid hcell
  clear hcell hconv
  generalize Lib.bytesWorld w 5 (B s) = w1 at *
  go_loopw [8] (fun iv wr => ∃ (i : Nat), iv = .int .i64 i ∧ i ≤ s.length ∧ wr = w1 ∧ (s.take i).all nameC = true)
    (fun iv wr => s.length - (intOf iv).toNat)
  case atStart => exact ⟨0, rfl, by omega, rfl, rfl⟩
  case round =>
    obtain ⟨i, rfl, hil, rfl, hall⟩ := hrel
    have HALL := Lib.hid hall
    have hi0 : (0 : Int) ≤ (i : Int) := by omega
    clear hall
    by_cases hlt : i < s.length
    · have hi1 : (i : Int) < (s.length : Int) := by omega
      have hc := HCELL.out i hlt
      obtain ⟨c, hcc⟩ : ∃ c, s[i] = c := ⟨_, rfl⟩
      have HT : Hid (s.take (i + 1) = s.take i ++ [c]) := Lib.hid (by rw [← hcc, List.take_append_getElem])
      have HM : Hid (c ∈ s) := Lib.hid (by rw [← hcc]; exact List.getElem_mem hlt)
      rw [hcc] at hc
      clear hcc
      have HN : Hid (nameC c = true ↔ ((65 ≤ (c.toNat : Int) ∧ (c.toNat : Int) ≤ 90) ∨ (97 ≤ (c.toNat : Int) ∧ (c.toNat : Int) ≤ 122) ∨ (48 ≤ (c.toNat : Int) ∧ (c.toNat : Int) ≤ 57) ∨ (c.toNat : Int) = 95 ∨ (c.toNat : Int) = 45 ∨ (c.toNat : Int) = 46)) := Lib.hid (nameC_iff c)
      obtain ⟨n, hn⟩ : ∃ n : Int, (c.toNat : Int) = n := ⟨_, rfl⟩
      rw [hn] at hc HN
      clear hn
      have key : n ≤ 44 ∨ n = 45 ∨ n = 46 ∨ n = 47 ∨ (48 ≤ n ∧ n ≤ 57) ∨ (58 ≤ n ∧ n ≤ 64) ∨ (65 ≤ n ∧ n ≤ 90) ∨ (91 ≤ n ∧ n ≤ 94) ∨ n = 95 ∨ n = 96 ∨ (97 ≤ n ∧ n ≤ 122) ∨ 123 ≤ n := by omega
      have good : (nameC c = true) → Hid ((s.take (i + 1)).all nameC = true) := fun h => Lib.hid (by rw [HT.out, List.all_append, HALL.out]; simp [h])
      have bad : ¬ (nameC c = true) → Hid (nameB s = false) := fun h => Lib.hid (by
        have : s.all nameC = false := by
          rw [Bool.eq_false_iff]
          intro e
          exact h (List.all_eq_true.1 e c HM.out)
        simp [nameB, this])
      by_cases hgood : nameC c = true
      · have HG := good hgood
        have hh := HN.out.1 hgood
        clear good bad HN hgood
        rcases key with h | h | h | h | h | h | h | h | h | h | h | h
        all_goals try (exfalso; omega)
        all_goals
          clear hh
          first
          | have d65 : decide (n ≥ 65) = true := decide_eq_true (by omega)
          | have d65 : decide (n ≥ 65) = false := decide_eq_false (by omega)
          first
          | have d90 : decide (n ≤ 90) = true := decide_eq_true (by omega)
          | have d90 : decide (n ≤ 90) = false := decide_eq_false (by omega)
          first
          | have d97 : decide (n ≥ 97) = true := decide_eq_true (by omega)
          | have d97 : decide (n ≥ 97) = false := decide_eq_false (by omega)
          first
          | have d122 : decide (n ≤ 122) = true := decide_eq_true (by omega)
          | have d122 : decide (n ≤ 122) = false := decide_eq_false (by omega)
          first
          | have d48 : decide (n ≥ 48) = true := decide_eq_true (by omega)
          | have d48 : decide (n ≥ 48) = false := decide_eq_false (by omega)
          first
          | have d57 : decide (n ≤ 57) = true := decide_eq_true (by omega)
          | have d57 : decide (n ≤ 57) = false := decide_eq_false (by omega)
          first
          | have q95 : (n == 95) = true := beq_iff_eq.2 (by omega)
          | have q95 : (n == 95) = false := beq_eq_false_iff_ne.2 (by omega)
          first
          | have q45 : (n == 45) = true := beq_iff_eq.2 (by omega)
          | have q45 : (n == 45) = false := beq_eq_false_iff_ne.2 (by omega)
          first
          | have q46 : (n == 46) = true := beq_iff_eq.2 (by omega)
          | have q46 : (n == 46) = false := beq_eq_false_iff_ne.2 (by omega)
          clear h
          go_wp2_with fail
          go_roundw
          case rel => exact ⟨i + 1, by rw [Int.natCast_add]; rfl, by omega, (by first | trivial | rfl), HG.out⟩
          case measure => simp [intOf]; omega
      · have HG := bad hgood
        have hh := fun e => hgood (HN.out.2 e)
        clear good bad HN hgood
        rcases key with h | h | h | h | h | h | h | h | h | h | h | h
        all_goals try (exfalso; exact hh (by omega))
        all_goals
          clear hh
          first
          | have d65 : decide (n ≥ 65) = true := decide_eq_true (by omega)
          | have d65 : decide (n ≥ 65) = false := decide_eq_false (by omega)
          first
          | have d90 : decide (n ≤ 90) = true := decide_eq_true (by omega)
          | have d90 : decide (n ≤ 90) = false := decide_eq_false (by omega)
          first
          | have d97 : decide (n ≥ 97) = true := decide_eq_true (by omega)
          | have d97 : decide (n ≥ 97) = false := decide_eq_false (by omega)
          first
          | have d122 : decide (n ≤ 122) = true := decide_eq_true (by omega)
          | have d122 : decide (n ≤ 122) = false := decide_eq_false (by omega)
          first
          | have d48 : decide (n ≥ 48) = true := decide_eq_true (by omega)
          | have d48 : decide (n ≥ 48) = false := decide_eq_false (by omega)
          first
          | have d57 : decide (n ≤ 57) = true := decide_eq_true (by omega)
          | have d57 : decide (n ≤ 57) = false := decide_eq_false (by omega)
          first
          | have q95 : (n == 95) = true := beq_iff_eq.2 (by omega)
          | have q95 : (n == 95) = false := beq_eq_false_iff_ne.2 (by omega)
          first
          | have q45 : (n == 45) = true := beq_iff_eq.2 (by omega)
          | have q45 : (n == 45) = false := beq_eq_false_iff_ne.2 (by omega)
          first
          | have q46 : (n == 46) = true := beq_iff_eq.2 (by omega)
          | have q46 : (n == 46) = false := beq_eq_false_iff_ne.2 (by omega)
          clear h
          go_wp2_with fail
          go_ret
          refine ⟨?_, HB.out⟩
          rw [HG.out]
          rfl
    · obtain rfl : i = s.length := by omega
      have HA : Hid (s.all nameC = true) := Lib.hid (by have := HALL.out; rwa [List.take_length] at this)
      by_cases h0 : s = []
      · subst h0
        go_wp2_with fail
        go_ret
        exact ⟨rfl, HB.out⟩
      · have hne : (s != []) = true := by simpa using h0
        have hem : s.isEmpty = false := by cases s; exact absurd rfl h0; rfl
        by_cases h40 : s.length ≤ 40
        · have h40' : (s.length : Int) ≤ 40 := by omega
          have HR : Hid (nameB s = true) := Lib.hid (by simp [nameB, HA.out, h0, h40])
          go_wp2_with fail
          go_ret
          refine ⟨?_, HB.out⟩
          rw [HR.out]
          rfl
        · have h40' : ¬ (s.length : Int) ≤ 40 := by omega
          have HR : Hid (nameB s = false) := Lib.hid (by simp [nameB, HA.out, h0]; omega)
          go_wp2_with fail
          go_ret
          refine ⟨?_, HB.out⟩
          rw [HR.out]
          rfl
end Go.Proofs.YtopkcgdfebkbaaaGreatDoor
