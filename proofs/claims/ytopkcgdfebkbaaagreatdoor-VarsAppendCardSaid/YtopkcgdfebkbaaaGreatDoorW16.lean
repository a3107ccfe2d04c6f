/- Walks: a variable's value. -/
import Derived.Test.YtopkcgdfebkbaaaGreatDoorW15
set_option linter.unusedVariables false
set_option linter.unusedSimpArgs false
namespace Go.Proofs.YtopkcgdfebkbaaaGreatDoor
open Go.RowKit
attribute [local go_sem] B_size B_toList B_extract B_append drop_take_all

/-- Variables that a walk may meet. -/
structure Env (K : Nat) (v : List Var) : Prop where
  ord : InOrder v
  len : v.length ≤ K
  txt : ∀ x ∈ v, x.text.length ≤ 100000

def resV (r : Except Nat Bytes) : Value := .tuple #[.string (B (tx r)), .int .i64 (er r)]
/-- What function k of a scope and a text owes: f. -/
def Owes (k : Nat) (f : List Var → Bytes → St Bytes) (D K : Nat) : Prop :=
  ∀ (v : List Var) (A : Option Addr) (N C sb n : Nat) (w : World) (t : Bytes) (r : Except Nat Bytes) (n' : Nat), VR w (.slice A N C) v → Env K v → Cnt w sb n → n ≤ 2000 → t.length ≤ 100000 → f v t n = some (r, n') →
    Calls Tryz.prog k #[scV A N C D sb, .string (B t)] w fun e w' => e = .returned (resV r) ∧ Keeps sb n' w w'

theorem getV_mem : ∀ {v : List Var} {n : Bytes} {x : Var}, getV v n = some x → x ∈ v
  | [], _, _, h => by simp [getV] at h
  | y :: r, n, x, h => by
    unfold getV at h
    split at h
    · cases h; simp
    · exact List.mem_cons_of_mem _ (getV_mem h)

theorem VR_keeps {sb n m : Nat} {w W : World} {v : Value} {l : List Var} (h : VR w v l) (k : Keeps sb n w W) (hc : Cnt w sb m) : VR W v l := by
  refine h.kept k.grown ?_
  rcases h.2 with ⟨rfl, _⟩ | ⟨g, cap, cur, rfl, hb, hg, _⟩
  · exact .inl rfl
  · refine .inr fun e => ?_
    have e2 : g = sb := by simpa [Value.ownBlock] using e
    subst e2
    have hc := hc.blk
    unfold Blk at hc
    rw [hg] at hc
    cases hc

theorem scV_succ (A : Option Addr) (N C D sb : Nat) : scV A N C (D + 1) sb = .agg #[.slice A N C, .int .i64 ((D : Int) + 1), .pointer (some ⟨sb, 0, none⟩)] := by simp [scV]

set_option maxRecDepth 100000 in
set_option maxHeartbeats 1000000 in
theorem value_in (ex : List Var → Bytes → St Bytes) (D K : Nat) (hD : D < 20) (hE : Owes 51 ex (D + 1) K) : Owes 89 (valueB (some ex)) D K := by
  intro v A N C sb n w t r n' hv henv hc hn ht hf
  have HV := Lib.hid hv
  have HC := Lib.hid hc
  have hsb := cnt_lt hc
  have HE := Lib.hid hE
  have HF := Lib.hid hf
  have HENV := Lib.hid henv
  clear hv hc hE hf henv
  unfold scV
  go_enter Tryz.func89, Tryz.ntmps89
  go_wp2_with fail
  have HB0 : Hid (Below w.heap.size w (w.alloc (.cells #[.slice A N C, .int .i64 D, .pointer (some ⟨sb, 0, none⟩)] 104))) := Lib.hid ((Below.refl _ w).alloc (Nat.le_refl _) _)
  refine (get_any A N C v t _ (row_below HV.out HB0.out)).mono ?_
  rintro e w1 ⟨rfl, hb⟩
  have BX := Lib.hid ((Blk.new w 104 #[.slice A N C, .int .i64 D, .pointer (some ⟨sb, 0, none⟩)] rfl).below hb)
  have HB1 := Lib.hid (below_then HB0.out HB0.out.size hb)
  obtain ⟨b1, b2, b3⟩ := BX.out.c
  clear hb
  cases hg : getV v t with
  | none =>
    have HR : Hid (r = .ok [] ∧ n' = n) := Lib.hid (by
      have := HF.out
      unfold valueB at this
      rw [hg] at this
      simp [okS] at this
      exact ⟨this.1.symm, this.2.symm⟩)
    clear hg
    simp only [vrV, Option.isSome_none]
    go_wp2_with fail
    go_ret2
    rw [HR.out.1, HR.out.2]
    exact ⟨rfl, keeps_below (keeps_refl HC.out) (below_then HB1.out HB1.out.size (by go_grown))⟩
  | some x =>
    have HX : Hid (x ∈ v) := Lib.hid (getV_mem hg)
    simp only [vrV, Option.isSome_some]
    cases hs : x.simple with
    | true =>
      have HR : Hid (r = .ok x.text ∧ n' = n) := Lib.hid (by
        have := HF.out
        unfold valueB at this
        rw [hg] at this
        simp [okS, hs] at this
        exact ⟨this.1.symm, this.2.symm⟩)
      clear hg
      go_wp2_with fail
      go_ret2
      rw [HR.out.1, HR.out.2]
      exact ⟨rfl, keeps_below (keeps_refl HC.out) (below_then HB1.out HB1.out.size (by go_grown))⟩
    | false =>
      have HR : Hid (andS stepS (fun _ => ex v x.text) n = some (r, n')) := Lib.hid (by
        have := HF.out
        unfold valueB at this
        rw [hg] at this
        simpa [hs] using this)
      clear hg
      go_wp2_with fail
      have BY := Lib.hid (Blk.new w1 36 #[.string (B x.name), .string (B x.text), .bool false] rfl)
      have HB2 := Lib.hid (below_then HB1.out HB1.out.size ((Below.refl _ w1).alloc (Nat.le_refl _) (.cells #[.string (B x.name), .string (B x.text), .bool false] 36)))
      have HS2 : Hid (w1.heap.size < (w1.alloc (.cells #[.string (B x.name), .string (B x.text), .bool false] 36)).heap.size) := Lib.hid (by simp)
      generalize w1.alloc (.cells #[.string (B x.name), .string (B x.text), .bool false] 36) = w2 at *
      have HK2 := Lib.hid (keeps_below (keeps_refl HC.out) HB2.out)
      have hsb1 : sb < w1.heap.size := Nat.lt_of_lt_of_le hsb HB1.out.size
      clear b1 b2
      refine (in_any A N C D sb n w2 HK2.out.cnt (by omega) hD).mono ?_
      rintro e w3 ⟨rfl, k3⟩
      have HK3 := Lib.hid (keeps_trans HK2.out k3)
      have hw1 := HB1.out.size
      obtain ⟨c1, c2, c3⟩ := (BY.out.keeps k3 (by omega)).c
      clear k3
      unfold scV
      by_cases h2 : 2000 < n + 1
      · have HR2 : Hid (r = .error 12 ∧ n' = n + 1) := Lib.hid (by
          have := HR.out
          unfold andS stepS at this
          rw [if_pos h2] at this
          simp at this
          exact ⟨this.1.symm, this.2.symm⟩)
        have e1 : stepE n = 12 := if_pos h2
        rw [e1, if_pos h2]
        clear e1
        go_wp2_with fail
        go_ret2
        refine ⟨by rw [HR2.out.1]; rfl, ?_⟩
        rw [HR2.out.2]
        exact keeps_below HK3.out (by go_grown)
      · have HR2 : Hid (ex v x.text (n + 1) = some (r, n')) := Lib.hid (by
          have := HR.out
          unfold andS stepS at this
          rw [if_neg h2] at this
          exact this)
        have e1 : stepE n = 0 := if_neg h2
        rw [e1, if_neg h2]
        clear e1
        go_wp2_with fail
        have HK4 := Lib.hid (keeps_alloc HK3.out (.cells #[.slice A N C, .int .i64 (↑D + 1), .pointer (some ⟨sb, 0, none⟩)] 104))
        have hcall := HE.out v A N C sb (n + 1) _ x.text r n' (VR_keeps HV.out HK4.out HC.out) HENV.out HK4.out.cnt (by omega) (HENV.out.txt x HX.out) HR2.out
        rw [scV_succ] at hcall
        refine hcall.mono ?_
        rintro e w5 ⟨rfl, k5⟩
        have HK5 := Lib.hid (keeps_trans HK4.out k5)
        clear k5 hcall
        unfold resV
        go_wp2_with fail
        go_ret2
        exact ⟨rfl, HK5.out⟩

set_option maxRecDepth 100000 in
set_option maxHeartbeats 1000000 in
theorem value_deep (K : Nat) : Owes 89 (valueB none) 20 K := by
  intro v A N C sb n w t r n' hv henv hc hn ht hf
  have HV := Lib.hid hv
  have HC := Lib.hid hc
  have hsb := cnt_lt hc
  have HF := Lib.hid hf
  have HENV := Lib.hid henv
  clear hv hc hf henv
  unfold scV
  go_enter Tryz.func89, Tryz.ntmps89
  go_wp2_with fail
  have HB0 : Hid (Below w.heap.size w (w.alloc (.cells #[.slice A N C, .int .i64 20, .pointer (some ⟨sb, 0, none⟩)] 104))) := Lib.hid ((Below.refl _ w).alloc (Nat.le_refl _) _)
  refine (get_any A N C v t _ (row_below HV.out HB0.out)).mono ?_
  rintro e w1 ⟨rfl, hb⟩
  have BX := Lib.hid ((Blk.new w 104 #[.slice A N C, .int .i64 20, .pointer (some ⟨sb, 0, none⟩)] rfl).below hb)
  have HB1 := Lib.hid (below_then HB0.out HB0.out.size hb)
  obtain ⟨b1, b2, b3⟩ := BX.out.c
  clear hb
  cases hg : getV v t with
  | none =>
    have HR : Hid (r = .ok [] ∧ n' = n) := Lib.hid (by
      have := HF.out
      unfold valueB at this
      rw [hg] at this
      simp [okS] at this
      exact ⟨this.1.symm, this.2.symm⟩)
    clear hg
    simp only [vrV, Option.isSome_none]
    go_wp2_with fail
    go_ret2
    rw [HR.out.1, HR.out.2]
    exact ⟨rfl, keeps_below (keeps_refl HC.out) (below_then HB1.out HB1.out.size (by go_grown))⟩
  | some x =>
    have HX : Hid (x ∈ v) := Lib.hid (getV_mem hg)
    simp only [vrV, Option.isSome_some]
    cases hs : x.simple with
    | true =>
      have HR : Hid (r = .ok x.text ∧ n' = n) := Lib.hid (by
        have := HF.out
        unfold valueB at this
        rw [hg] at this
        simp [okS, hs] at this
        exact ⟨this.1.symm, this.2.symm⟩)
      clear hg
      go_wp2_with fail
      go_ret2
      rw [HR.out.1, HR.out.2]
      exact ⟨rfl, keeps_below (keeps_refl HC.out) (below_then HB1.out HB1.out.size (by go_grown))⟩
    | false =>
      have HR : Hid (r = .error 15 ∧ n' = n) := Lib.hid (by
        have := HF.out
        unfold valueB at this
        rw [hg] at this
        simp [errS, hs] at this
        exact ⟨this.1.symm, this.2.symm⟩)
      clear hg
      go_wp2_with fail
      have HB2 := Lib.hid (below_then HB1.out HB1.out.size ((Below.refl _ w1).alloc (Nat.le_refl _) (.cells #[.string (B x.name), .string (B x.text), .bool false] 36)))
      generalize w1.alloc (.cells #[.string (B x.name), .string (B x.text), .bool false] 36) = w2 at *
      clear b1 b2
      refine (in_deep A N C sb w2).mono ?_
      rintro e w3 ⟨rfl, k3⟩
      have HB3 := Lib.hid (below_then HB2.out HB2.out.size k3)
      clear k3
      unfold scV
      go_wp2_with fail
      go_ret2
      rw [HR.out.1, HR.out.2]
      exact ⟨rfl, keeps_below (keeps_refl HC.out) (below_then HB3.out HB3.out.size (by go_grown))⟩
end Go.Proofs.YtopkcgdfebkbaaaGreatDoor
