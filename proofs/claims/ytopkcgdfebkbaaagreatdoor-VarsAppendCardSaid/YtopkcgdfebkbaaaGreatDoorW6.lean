/- Walks: strings.Cut at one byte; blanks taken off; words put together. -/
import Derived.Test.YtopkcgdfebkbaaaGreatDoorW5
import Derived.Deep.QuietTactic
import Derived.BigQuiet
set_option linter.unusedVariables false
set_option linter.unusedSimpArgs false
namespace Go.Proofs.YtopkcgdfebkbaaaGreatDoor
open Go.RowKit
attribute [local go_sem] B_size B_toList B_extract B_append drop_take_all

theorem below_drewN {w : World} (n : Nat) : Below w.heap.size w (w.drewN n) := ⟨rfl, rfl, rfl, Nat.le_refl _, fun _ _ => rfl⟩

/-- A text cut at its first byte of a kind. -/
def cut1 (s : Bytes) (c : UInt8) : Bytes × Bytes × Bool := Lib.cut s [c]

theorem cut1_length (s : Bytes) (c : UInt8) : (cut1 s c).1.length + (cut1 s c).2.1.length ≤ s.length := by
  unfold cut1 Lib.cut
  split
  · simp; omega
  · simp
theorem trimLeft_any (s : Bytes) (w : World) :
    Calls Tryz.prog 101 #[.string (B s), .string (B blanks)] w fun e w' => e = .returned (.string (B (Lib.trimLeftS s blanks))) ∧ Below w.heap.size w w' := by
  have h := Any.strings_TrimLeft_laid Tryz.lays161 (by kernel_rfl) (B s) (B blanks) w (by rw [B_size]; decide) (by rw [B_data]; exact ascii_of_all (by decide))
  rw [B_data, B_data] at h
  exact h
theorem trim_raw (s : Bytes) (w : World) (hs : s.length ≤ 9223372036854775807) :
    Calls Tryz.prog 129 #[.string (B s), .string (B blanks)] w fun e w' => e = .returned (.string (B (trimB s))) ∧ Below w.heap.size w w' := by
  have h := Any.strings_Trim_laid Tryz.lays160 (by kernel_rfl) (B s) (B blanks) w (by rw [B_size]; exact hs) (by rw [B_size]; decide) (by rw [B_data]; exact ascii_of_all (by decide))
  rw [B_data, B_data] at h
  exact h
theorem trim_any (s : Bytes) (w : World) (hs : s.length ≤ 9223372036854775807) :
    Calls Tryz.prog 80 #[.string (B s)] w fun e w' => e = .returned (.string (B (trimB s))) ∧ Below w.heap.size w w' := by
  go_enter Tryz.func80, Tryz.ntmps80
  go_wp2_with fail
  refine (trim_raw s _ hs).mono ?_
  rintro e w1 ⟨rfl, hb⟩
  go_wp2
  go_ret
  exact ⟨rfl, hb⟩

set_option maxRecDepth 100000 in
set_option maxHeartbeats 400000 in
theorem join_any (A : Option Addr) (N C : Nat) (l : List Bytes) (w : World) (hv : SR w (.slice A N C) l) (hlen : (joinB l).length ≤ 140737488355328) (hl : l.length ≤ 140737488355328) :
    Calls Tryz.prog 79 #[.slice A N C] w fun e w' => e = .returned (.string (B (joinB l))) ∧ Below w.heap.size w w' := by
  have key : Calls Tryz.prog 128 #[.slice A N C, .string (B [32])] w fun e w' => e = .returned (.string (B (joinB l))) ∧ Below w.heap.size w w' := by
    rcases hv.2 with ⟨h2, h3⟩ | ⟨g, cap, cur, h2, _, h4, h5, _⟩
    · injection h2 with e1 e2 e3
      subst e1; subst e2; subst e3
      have hnil : l = [] := List.eq_nil_of_length_eq_zero h3
      subst hnil
      refine (Tryz.strings_Join_none none 0 (B [32]) w).mono ?_
      rintro e w' ⟨rfl, rfl⟩
      exact ⟨rfl, Below.refl _ _⟩
    · injection h2 with e1 e2 e3
      subst e1; subst e2; subst e3
      have hc := hv.cells (g := g) rfl
      have hg : g < w.heap.size := (Array.getElem?_eq_some_iff.1 h4).1
      have e1 : (l.map B).map (fun s => s.data.toList) = l := by
        rw [List.map_map]
        have : ((fun s : ByteArray => s.data.toList) ∘ B) = id := funext fun x => B_data x
        rw [this, List.map_id]
      have h := Tryz.strings_Join g 0 C (l.map B) (B [32]) w (fun j x hx => by
        have h1 := hc j (.string x) (by
          rw [List.getElem?_map] at hx
          unfold strCells
          rw [List.getElem?_map]
          cases hl : l[j]? with
          | none => rw [hl] at hx; cases hx
          | some y => rw [hl] at hx; cases hx; rfl)
        rw [Nat.zero_add]
        have ha : (⟨g, 0, none⟩ : Addr).add j = ⟨g, j, none⟩ := by unfold Addr.add; split <;> simp_all
        rwa [ha] at h1) hg (by rw [List.length_map]; exact hl) (by rw [List.length_map]; exact h5) (by rw [e1, B_data]; exact hlen)
      rw [e1, B_data, List.length_map] at h
      exact h
  go_enter Tryz.func79, Tryz.ntmps79
  go_wp2_with fail
  refine key.mono ?_
  rintro e w1 ⟨rfl, hb⟩
  go_wp2
  go_ret
  exact ⟨rfl, hb⟩

set_option maxRecDepth 100000 in
set_option maxHeartbeats 400000 in
theorem cut_raw (s : Bytes) (c : UInt8) (w : World) (hs : s.length ≤ 4611686018427387904) :
    Calls Tryz.prog 131 #[.string (B s), .string (B [c])] w fun e w' => e = .returned (.tuple #[.string (B (cut1 s c).1), .string (B (cut1 s c).2.1), .bool (cut1 s c).2.2]) ∧ Below w.heap.size w w' := by
  have hidx : Lib.index s [c] = Lib.indexByte s c := Lib.index_one s c
  have hge := Lib.index_ge s [c]
  have hle := Lib.index_le s [c]
  have hcon := Tryz.stringslite_Index_one (B s) c w
  rw [B_data] at hcon
  by_cases h0 : 0 ≤ Lib.indexByte s c
  · obtain ⟨k, hk⟩ : ∃ k : Nat, Lib.indexByte s c = k := ⟨(Lib.indexByte s c).toNat, by omega⟩
    have hroom : k + 1 ≤ s.length := by
      have := Lib.index_room s [c] (by rw [hidx]; exact h0)
      rw [hidx, hk] at this
      have h2 : (([c] : Bytes).length : Int) = 1 := rfl
      omega
    have hcut : cut1 s c = (s.take k, s.drop (k + 1), true) := by
      unfold cut1 Lib.cut
      rw [hidx, hk, if_pos (by omega)]
      simp
    rw [hcut]
    rw [hk] at hcon
    clear hidx hge hle h0 hk hcut
    go_enter Tryz.func131, Tryz.ntmps131
    go_wp2_with fail
    refine hcon.mono ?_
    rintro e w1 ⟨rfl, rfl⟩
    clear hcon
    have hk1 : (0 : Int) ≤ (k : Int) := by omega
    have hk2 : (k : Int) ≤ (s.length : Int) := by omega
    have hk3 : (k : Int) + 1 ≤ (s.length : Int) := by omega
    go_wp2
    go_quiet (fail)
    go_wp2
    go_ret3
    exact ⟨rfl, below_drewN _⟩
  · have hcut : cut1 s c = (s, [], false) := by
      unfold cut1 Lib.cut
      rw [hidx, if_neg h0]
    rw [hcut]
    have h1 : Lib.indexByte s c < 0 := by omega
    generalize Lib.indexByte s c = r at *
    clear hidx hle hcut h0
    go_enter Tryz.func131, Tryz.ntmps131
    go_wp2_with fail
    refine hcon.mono ?_
    rintro e w1 ⟨rfl, rfl⟩
    clear hcon
    go_wp2
    go_ret3
    exact ⟨rfl, Below.refl _ _⟩
set_option maxRecDepth 100000 in
set_option maxHeartbeats 400000 in
theorem cut_any (s : Bytes) (c : UInt8) (w : World) (hs : s.length ≤ 4611686018427387904) :
    Calls Tryz.prog 83 #[.string (B s), .string (B [c])] w fun e w' => e = .returned (.tuple #[.string (B (cut1 s c).1), .string (B (cut1 s c).2.1), .bool (cut1 s c).2.2]) ∧ Below w.heap.size w w' := by
  go_enter Tryz.func83, Tryz.ntmps83
  go_wp2_with fail
  refine (cut_raw s c _ hs).mono ?_
  rintro e w1 ⟨rfl, hb⟩
  go_wp2
  go_ret3
  exact ⟨rfl, hb⟩

/-- glob -/
theorem count_any (s : Bytes) (c : UInt8) (w : World) : Calls Tryz.prog 182 #[.string (B s), .string (B [c])] w fun e w' => e = .returned (.int .i64 (Lib.countByte s c)) ∧ w = w' := by
  have h := Tryz.strings_Count_one (B s) c w
  rw [B_data] at h
  exact h.mono fun e w' ⟨h1, h2⟩ => ⟨h1, h2.symm⟩
theorem nat_eq_one (n : Nat) : ((n : Int) == 1) = (n == 1) := by rw [Bool.eq_iff_iff]; simp; omega
theorem open_any (p : Bytes) (w : World) : Calls Tryz.prog 218 #[.string (B p)] w fun e w' => e = .returned (.bool (openB p)) ∧ w = w' := by
  go_enter Tryz.func218, Tryz.ntmps218
  go_wp2_with fail
  refine (count_any p 37 _).mono ?_
  rintro e w1 ⟨rfl, rfl⟩
  go_wp2
  go_ret
  exact ⟨by show Ending.returned (.bool ((Lib.countByte p 37 : Int) == 1)) = _; unfold openB; rw [nat_eq_one], rfl⟩
theorem right_any (p : Bytes) (w : World) : Calls Tryz.prog 257 #[.string (B p)] w fun e w' => e = .returned (.bool (rightB p)) ∧ w = w' := by
  cases p with
  | nil =>
    go_enter Tryz.func257, Tryz.ntmps257
    go_wp2
    go_ret
    exact ⟨rfl, rfl⟩
  | cons x p =>
    have h1 : ((x :: p : Bytes) == []) = false := rfl
    have e1 : rightB (x :: p) = decide (Lib.countByte (x :: p) 37 ≤ 1) := by unfold rightB; simp
    rw [e1]
    clear e1
    generalize x :: p = q at *
    go_enter Tryz.func257, Tryz.ntmps257
    go_wp2_with (go_at_call 182; refine (count_any _ 37 _).mono ?_; rintro e w1 ⟨rfl, rfl⟩)
    go_ret
    exact ⟨congrArg (fun b => Ending.returned (.bool b)) (show decide ((Lib.countByte q 37 : Int) ≤ 1) = _ by rw [decide_eq_decide]; omega), rfl⟩

theorem cutPrefix_any (s p : Bytes) (w : World) : Calls Tryz.prog 234 #[.string (B s), .string (B p)] w fun e w' => e = .returned (.tuple #[.string (B (Lib.trimPrefix s p)), .bool (Lib.hasPrefix s p)]) ∧ w = w' := by
  have h := Tryz.strings_CutPrefix (B s) (B p) w
  rw [B_data, B_data] at h
  exact h.mono fun e w' ⟨h1, h2⟩ => ⟨h1, h2.symm⟩
theorem cutSuffix_any (s p : Bytes) (w : World) (hs : s.length ≤ 9223372036854775807) : Calls Tryz.prog 235 #[.string (B s), .string (B p)] w fun e w' => e = .returned (.tuple #[.string (B (Lib.trimSuffix s p)), .bool (Lib.hasSuffix s p)]) ∧ w = w' := by
  have h := Tryz.strings_CutSuffix (B s) (B p) w (by rw [B_size]; exact hs)
  rw [B_data, B_data] at h
  exact h.mono fun e w' ⟨h1, h2⟩ => ⟨h1, h2.symm⟩

def matchT (p s : Bytes) : Bytes := (matchB p s).getD []
def matchOk (p s : Bytes) : Bool := (matchB p s).isSome

set_option maxRecDepth 100000 in
set_option maxHeartbeats 400000 in
theorem match_any (p s : Bytes) (w : World) (hp : p.length ≤ 4611686018427387904) (hs : s.length ≤ 4611686018427387904) :
    Calls Tryz.prog 197 #[.string (B p), .string (B s)] w fun e w' => e = .returned (.tuple #[.string (B (matchT p s)), .bool (matchOk p s)]) ∧ Below w.heap.size w w' := by
  cases hr : rightB p with
  | false =>
    have e1 : matchB p s = none := by unfold matchB; simp [hr]
    unfold matchT matchOk
    rw [e1]
    clear e1
    go_enter Tryz.func197, Tryz.ntmps197
    go_wp2_with fail
    refine (cut_any p 37 _ hp).mono ?_
    rintro e w1 ⟨rfl, hb⟩
    generalize cut1 p 37 = q
    obtain ⟨q1, q2, q3⟩ := q
    go_wp2_with fail
    refine (right_any p _).mono ?_
    rintro e w2 ⟨rfl, rfl⟩
    rw [hr]
    go_wp2
    go_ret2
    exact ⟨rfl, hb⟩
  | true =>
    cases h3 : (cut1 p 37).2.2 with
    | false =>
      have e1 : matchB p s = if p = s then some [] else none := by unfold matchB; simp only [hr, if_true]; rw [show (Lib.cut p [37]).2.2 = false from h3]; simp
      have e2 : matchT p s = [] := by unfold matchT; rw [e1]; split <;> rfl
      have e3 : matchOk p s = (p == s) := by
        unfold matchOk; rw [e1]
        by_cases h : p = s <;> simp [h]
      rw [e2, e3]
      clear e1 e2 e3
      go_enter Tryz.func197, Tryz.ntmps197
      go_wp2_with fail
      refine (cut_any p 37 _ hp).mono ?_
      rintro e w1 ⟨rfl, hb⟩
      rw [h3]
      go_wp2_with fail
      refine (right_any p _).mono ?_
      rintro e w2 ⟨rfl, rfl⟩
      rw [hr]
      go_wp2
      go_ret2
      exact ⟨rfl, hb⟩
    | true =>
      obtain ⟨q1, q2, hq⟩ : ∃ q1 q2, cut1 p 37 = (q1, q2, true) := ⟨_, _, by rw [← h3]⟩
      have hq' : Lib.cut p [37] = (q1, q2, true) := hq
      cases h4 : Lib.hasPrefix s q1 with
      | false =>
        have e1 : matchB p s = none := by unfold matchB; simp [hr, hq', h4]
        unfold matchT matchOk
        rw [e1]
        clear e1 hq' h3
        go_enter Tryz.func197, Tryz.ntmps197
        go_wp2_with fail
        refine (cut_any p 37 _ hp).mono ?_
        rintro e w1 ⟨rfl, hb⟩
        rw [hq]
        go_wp2_with fail
        refine (right_any p _).mono ?_
        rintro e w2 ⟨rfl, rfl⟩
        rw [hr]
        go_wp2_with fail
        refine (cutPrefix_any s q1 _).mono ?_
        rintro e w2 ⟨rfl, rfl⟩
        rw [h4]
        go_wp2_with fail
        refine (cutSuffix_any _ q2 _ (Nat.le_trans (Lib.trimPrefix_le s q1) (by omega))).mono ?_
        rintro e w2 ⟨rfl, rfl⟩
        go_wp2
        go_ret2
        exact ⟨rfl, hb⟩
      | true =>
        have e0 : Lib.trimPrefix s q1 = s.drop q1.length := by unfold Lib.trimPrefix; rw [if_pos h4]
        cases h5 : Lib.hasSuffix (s.drop q1.length) q2 with
        | false =>
          have e1 : matchB p s = none := by unfold matchB; simp [hr, hq', h4, h5]
          unfold matchT matchOk
          rw [e1]
          clear e1 hq' h3
          have E0 := Lib.hid e0
          clear e0
          go_enter Tryz.func197, Tryz.ntmps197
          go_wp2_with fail
          refine (cut_any p 37 _ hp).mono ?_
          rintro e w1 ⟨rfl, hb⟩
          rw [hq]
          go_wp2_with fail
          refine (right_any p _).mono ?_
          rintro e w2 ⟨rfl, rfl⟩
          rw [hr]
          go_wp2_with fail
          refine (cutPrefix_any s q1 _).mono ?_
          rintro e w2 ⟨rfl, rfl⟩
          rw [h4, E0.out]
          go_wp2_with fail
          refine (cutSuffix_any _ q2 _ (by rw [List.length_drop]; omega)).mono ?_
          rintro e w2 ⟨rfl, rfl⟩
          rw [h5]
          go_wp2
          go_ret2
          exact ⟨rfl, hb⟩
        | true =>
          have e2 : Lib.trimSuffix (s.drop q1.length) q2 = (s.drop q1.length).take (s.length - q1.length - q2.length) := by unfold Lib.trimSuffix; rw [if_pos h5, List.length_drop]
          have e1 : matchB p s = some ((s.drop q1.length).take (s.length - q1.length - q2.length)) := by unfold matchB; simp [hr, hq', h4, h5]
          unfold matchT matchOk
          rw [e1]
          clear e1 hq' h3
          have E0 := Lib.hid e0
          have E2 := Lib.hid e2
          clear e0 e2
          go_enter Tryz.func197, Tryz.ntmps197
          go_wp2_with fail
          refine (cut_any p 37 _ hp).mono ?_
          rintro e w1 ⟨rfl, hb⟩
          rw [hq]
          go_wp2_with fail
          refine (right_any p _).mono ?_
          rintro e w2 ⟨rfl, rfl⟩
          rw [hr]
          go_wp2_with fail
          refine (cutPrefix_any s q1 _).mono ?_
          rintro e w2 ⟨rfl, rfl⟩
          rw [h4, E0.out]
          go_wp2_with fail
          refine (cutSuffix_any _ q2 _ (by rw [List.length_drop]; omega)).mono ?_
          rintro e w2 ⟨rfl, rfl⟩
          rw [h5, E2.out]
          go_wp2
          go_ret2
          exact ⟨rfl, hb⟩

set_option maxRecDepth 100000 in
set_option maxHeartbeats 400000 in
theorem fill_any (p stem : Bytes) (w : World) (hp : p.length ≤ 1000000000000) (hs : stem.length ≤ 1000000000000) :
    Calls Tryz.prog 199 #[.string (B p), .string (B stem)] w fun e w' => e = .returned (.string (B (fillB p stem))) ∧ Below w.heap.size w w' := by
  cases ho : openB p with
  | false =>
    have e1 : fillB p stem = p := by unfold fillB; rw [ho]; rfl
    rw [e1]
    clear e1
    go_enter Tryz.func199, Tryz.ntmps199
    go_wp2_with fail
    refine (open_any p _).mono ?_
    rintro e w2 ⟨rfl, rfl⟩
    rw [ho]
    go_wp2
    go_ret
    exact ⟨rfl, Below.refl _ _⟩
  | true =>
    have e1 : fillB p stem = (cut1 p 37).1 ++ stem ++ (cut1 p 37).2.1 := by unfold fillB; rw [ho]; rfl
    rw [e1]
    clear e1
    have hl := cut1_length p 37
    go_enter Tryz.func199, Tryz.ntmps199
    go_wp2_with fail
    refine (open_any p _).mono ?_
    rintro e w2 ⟨rfl, rfl⟩
    rw [ho]
    go_wp2_with fail
    refine (cut_any p 37 _ (by omega)).mono ?_
    rintro e w1 ⟨rfl, hb⟩
    obtain ⟨q, hq⟩ : ∃ q, q = cut1 p 37 := ⟨_, rfl⟩
    rw [← hq] at hl ⊢
    have HQ := Lib.hid hq
    clear hq
    obtain ⟨q1, q2, q3⟩ := q
    simp only at hl ⊢
    go_wp2
    go_ret
    exact ⟨by rw [← HQ.out]; simp [List.append_assoc], hb⟩

set_option maxRecDepth 100000 in
set_option maxHeartbeats 400000 in
theorem subst_any (p q s : Bytes) (w : World) (hp : p.length ≤ 1000000000000) (hq : q.length ≤ 1000000000000) (hs : s.length ≤ 1000000000000) :
    Calls Tryz.prog 220 #[.string (B p), .string (B q), .string (B s)] w fun e w' => e = .returned (.string (B (substB p q s))) ∧ Below w.heap.size w w' := by
  cases hm : matchB p s with
  | none =>
    have e1 : substB p q s = s := by unfold substB; rw [hm]
    rw [e1]
    clear e1
    go_enter Tryz.func220, Tryz.ntmps220
    go_wp2_with fail
    refine (match_any p s _ (by omega) (by omega)).mono ?_
    rintro e w1 ⟨rfl, hb⟩
    simp only [matchT, matchOk, hm]
    go_wp2
    go_ret
    exact ⟨rfl, hb⟩
  | some stem =>
    have e1 : substB p q s = fillB q stem := by unfold substB; rw [hm]
    have hl : stem.length ≤ s.length := by
      unfold matchB at hm
      simp only at hm
      repeat' split at hm
      all_goals first | (cases hm; simp; done) | (cases hm; simp; omega) | cases hm
    rw [e1]
    clear e1
    go_enter Tryz.func220, Tryz.ntmps220
    go_wp2_with fail
    refine (match_any p s _ (by omega) (by omega)).mono ?_
    rintro e w1 ⟨rfl, hb⟩
    simp only [matchT, matchOk, hm]
    go_wp2_with fail
    refine (fill_any q stem _ hq (by omega)).mono ?_
    rintro e w2 ⟨rfl, hb2⟩
    go_wp2
    go_ret
    exact ⟨rfl, below_then hb hb.size hb2⟩
end Go.Proofs.YtopkcgdfebkbaaaGreatDoor
