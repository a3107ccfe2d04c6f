/- Walks: parse.Cut; arguments. -/
import Derived.Test.YtopkcgdfebkbaaaGreatDoorW12
import Derived.Lib.Bytes2
set_option linter.unusedVariables false
set_option linter.unusedSimpArgs false
namespace Go.Proofs.YtopkcgdfebkbaaaGreatDoor
open Go.RowKit
attribute [local go_sem] B_size B_toList B_extract B_append drop_take_all

theorem SR_cell {w : World} {A : Option Addr} {m C : Nat} {l : List Bytes} (h : w.ownsRow 0 9 1 (.slice A m C) l.length (strCells l)) (j : Nat) (hj : j < l.length) : ∃ g, A = some ⟨g, 0, none⟩ ∧ w.cell? ⟨g, j, none⟩ = some (.string (B l[j])) := by
  rcases h.2 with ⟨hv, h0⟩ | ⟨g, cap, cur, hv, hb, hg, hle, hcm, hcs, htake⟩
  · omega
  · injection hv with e1 e2 e3
    subst e1; subst e3
    refine ⟨g, rfl, ?_⟩
    have h1 : (cur.toList.take (l.length * 1))[j]? = (strCells l)[j]? := by rw [htake]
    rw [List.getElem?_take] at h1
    simp [strCells, hj] at h1
    simp [World.cell?, hg, h1]

theorem row_below' {w W : World} {base e size n : Nat} {v : Value} {xs : List Value} (h : w.ownsRow base e size v n xs) (hb : Below w.heap.size w W) : W.ownsRow base e size v n xs := row_below h hb
theorem stepB_le (k s : Bytes) (hs : s ≠ []) : 1 ≤ (stepB k s).2.1 ∧ (stepB k s).2.1 ≤ s.length ∧ (stepB k s).1.length ≤ k.length + (stepB k s).2.1 := by
  have hp : ∀ (a b : UInt8), Lib.hasPrefix s [a, b] = true → 2 ≤ s.length := by
    intro a b h
    have := Lib.hasPrefix_le h
    simpa using this
  have h1 : 1 ≤ s.length := by cases s; exact absurd rfl hs; simp
  unfold stepB
  split
  · rename_i h; have := hp _ _ h; simp; omega
  · split
    · rename_i h; have := hp _ _ h; simp; omega
    · split
      · simp; omega
      · simp; omega

set_option maxRecDepth 100000 in
set_option maxHeartbeats 1000000 in
theorem pcut_any (s : Bytes) (A : Option Addr) (C : Nat) (gs : List Bytes) (w : World) (hg : w.ownsRow 0 9 1 (.slice A gs.length C) gs.length (strCells gs)) (hs : s.length ≤ 1000000000) (hgl : gs.length ≤ 1000000000) :
    Calls Tryz.prog 138 #[.string (B s), .slice A gs.length C] w fun e w' => e = .returned (.tuple #[.string (B (cutB s gs).1), .string (B (cutB s gs).2.1), .string (B (cutB s gs).2.2)]) ∧ Below w.heap.size w w' := by
  have HG := Lib.hid hg
  clear hg
  go_enter Tryz.func138, Tryz.ntmps138
  go_wp2_with fail
  go_loopw [7, 8] (fun v i wr => ∃ (k : Bytes) (at_ m : Nat), i = .int .i64 at_ ∧ KR wr v k ∧ k.length ≤ at_ ∧ at_ ≤ s.length ∧ s.length < m + at_ ∧ cutF s gs m k at_ = cutB s gs ∧ Below w.heap.size w wr)
    (fun v i wr => s.length - (intOf i).toNat)
  case atStart => exact ⟨[], 0, s.length + 1, rfl, World.ownsRow_nil _ _ _ _, by simp, by omega, by omega, rfl, Below.refl _ _⟩
  case round =>
    obtain ⟨k, at_, m, rfl, hk, hka, hal, hm, hcut, hb⟩ := hrel
    have HK := Lib.hid hk
    have HB := Lib.hid hb
    have HC := Lib.hid hcut
    obtain ⟨A1, C1, rfl⟩ := KR_slice hk
    clear hk hb hcut
    by_cases hat : at_ < s.length
    · have ha0 : (0 : Int) ≤ (at_ : Int) := by omega
      have ha1 : (at_ : Int) < (s.length : Int) := by omega
      have ha2 : (at_ : Int) ≤ (s.length : Int) := by omega
      have hne : s.drop at_ ≠ [] := by intro e; have := congrArg List.length e; simp at this; omega
      have hst := stepB_le k (s.drop at_) hne
      have HC2 : Hid (∃ m', m = m' + 1 ∧ (match (if (stepB k (s.drop at_)).2.2 then signB (s.drop at_) gs else none) with
          | some g => (s.take at_, g, (s.drop at_).drop g.length)
          | none => cutF s gs m' (stepB k (s.drop at_)).1 (at_ + (stepB k (s.drop at_)).2.1)) = cutB s gs) := Lib.hid (by
        obtain ⟨m', rfl⟩ : ∃ m', m = m' + 1 := ⟨m - 1, by omega⟩
        refine ⟨m', rfl, ?_⟩
        have := HC.out
        unfold cutF at this
        rw [if_pos hat] at this
        exact this)
      go_wp2_with fail
      refine (step_over _ k (s.drop at_) wr HK.out (by omega) hne).mono ?_
      rintro e w1 ⟨v', rfl, hk', hb1⟩
      generalize stepB k (s.drop at_) = q at *
      obtain ⟨k', n', out⟩ := q
      simp only at hst hk' HC2 ⊢
      have HK' := Lib.hid hk'
      have HB1 := Lib.hid (below_then HB.out HB.out.size hb1)
      obtain ⟨A2, C2, rfl⟩ := KR_slice hk'
      clear hk' hb1 HK HC
      have hdl : (s.drop at_).length = s.length - at_ := List.length_drop
      have hwn : wrap64 ((at_ : Int) + (n' : Int)) = (at_ : Int) + (n' : Int) := by unfold wrap64; omega
      have hnx : ∀ m', m = m' + 1 → cutF s gs m' k' (at_ + n') = cutB s gs → (∃ (k : Bytes) (b m : Nat), Value.int .i64 ((at_ : Int) + (n' : Int)) = .int .i64 (b : Int) ∧ KR w1 (.slice A2 k'.length C2) k ∧ k.length ≤ b ∧ b ≤ s.length ∧ s.length < m + b ∧ cutF s gs m k b = cutB s gs ∧ Below w.heap.size w w1) :=
        fun m' hm' hq => ⟨k', at_ + n', m', by rw [Int.natCast_add], HK'.out, by omega, by omega, by omega, hq, HB1.out⟩
      have HNX := Lib.hid hnx
      clear hnx
      cases out with
      | false =>
        obtain ⟨m', rfl, hq⟩ := HC2.out
        have HQ := Lib.hid hq
        clear hq
        go_wp2_with fail
        go_roundw
        case rel => exact HNX.out m' rfl HQ.out
        case measure => simp [intOf]; omega
      | true =>
        obtain ⟨m', rfl, hq⟩ := HC2.out
        have HQ := Lib.hid hq
        clear hq
        go_wp2_with fail
        go_hide hQ
        go_loopw [32] (fun j wr => ∃ i : Nat, j = .int .i64 i ∧ i ≤ gs.length ∧ signB (s.drop at_) (gs.drop i) = signB (s.drop at_) gs ∧ wr = w1) (fun j wr => gs.length - (intOf j).toNat)
        case atStart => exact ⟨0, rfl, by omega, rfl, rfl⟩
        case round =>
          obtain ⟨i, rfl, hi, hsg, rfl⟩ := hrel
          by_cases hlt : i < gs.length
          · have hi0 : (0 : Int) ≤ (i : Int) := by omega
            have hi1 : (i : Int) < (gs.length : Int) := by omega
            obtain ⟨g, hgi⟩ : ∃ g, gs[i] = g := ⟨_, rfl⟩
            have hdr : gs.drop i = g :: gs.drop (i + 1) := by rw [← hgi]; exact List.drop_eq_getElem_cons hlt
            obtain ⟨g0, hA, hcell⟩ := SR_cell (row_below' HG.out HB1.out) i hlt
            rw [hgi] at hcell
            subst hA
            have hsg : (if g ≠ [] ∧ Lib.hasPrefix (s.drop at_) g = true then some g else signB (s.drop at_) (gs.drop (i + 1))) = signB (s.drop at_) gs := by rw [← hsg, hdr]; rfl

            by_cases hge : g = []
            · rw [if_neg (by simp [hge])] at hsg
              have HS := Lib.hid hsg
              clear hsg hdr hgi
              subst hge
              go_wp2_with fail
              go_roundw
              case rel => exact ⟨i + 1, by simp, by omega, HS.out, trivial⟩
              case measure => simp [intOf]; omega
            · have hge1 : (B g).toList.isEmpty = false := by rw [B_toList]; cases g; exact absurd rfl hge; rfl
              have hge2 : g.isEmpty = false := by cases g; exact absurd rfl hge; rfl
              have hge3 : (g == []) = false := by simp [hge]
              cases hp : Lib.hasPrefix (s.drop at_) g with
              | true =>
                rw [if_pos ⟨hge, hp⟩] at hsg
                have hpl := Lib.hasPrefix_le hp
                have HRES : Hid ((s.take at_, g, (s.drop at_).drop g.length) = cutB s gs) := Lib.hid (by rw [← HQ.out]; simp only [if_true, ← hsg])
                have hpl1 : (g.length : Int) ≤ ((s.drop at_).length : Int) := by omega
                clear hsg hdr hgi
                go_wp2_with fail
                refine (hasPrefix_any _ g _).mono ?_
                rintro e w2 ⟨rfl, rfl⟩
                rw [hp]
                subst hQ
                go_wp2_with fail
                go_quiet (fail)
                go_wp2
                go_ret3
                have HT : (s.drop at_).drop g.length = List.take (s.length - at_ - g.length) (s.drop (at_ + g.length)) := by
                  rw [List.drop_drop, List.take_of_length_le (by simp; omega)]
                exact ⟨by rw [← HRES.out, HT]; rfl, below_then HB1.out HB1.out.size (below_drewN _)⟩
              | false =>
                rw [if_neg (by rw [hp]; simp)] at hsg
                have HS := Lib.hid hsg
                clear hsg hdr hgi
                go_wp2_with fail
                refine (hasPrefix_any _ g _).mono ?_
                rintro e w2 ⟨rfl, rfl⟩
                rw [hp]
                go_wp2_with fail
                go_roundw
                case rel => exact ⟨i + 1, by simp, by omega, HS.out, trivial⟩
                case measure => simp [intOf]; omega
          · obtain rfl : i = gs.length := by omega
            rw [List.drop_length] at hsg
            have HS : Hid (cutF s gs m' k' (at_ + n') = cutB s gs) := Lib.hid (by
              have h1 := HQ.out
              rw [← hsg] at h1
              exact h1)
            subst hQ
            go_wp2_with fail
            go_roundw
            case rel => exact HNX.out m' rfl HS.out
            case measure => simp [intOf]; omega
    · obtain rfl : at_ = s.length := by omega
      have HR : Hid (cutB s gs = (s, [], [])) := Lib.hid (by
        rw [← HC.out]
        obtain ⟨m', rfl⟩ : ∃ m', m = m' + 1 := ⟨m - 1, by omega⟩
        unfold cutF
        rw [if_neg (by omega)])
      go_wp2_with fail
      go_ret3
      exact ⟨by rw [HR.out]; rfl, HB.out⟩
end Go.Proofs.YtopkcgdfebkbaaaGreatDoor
