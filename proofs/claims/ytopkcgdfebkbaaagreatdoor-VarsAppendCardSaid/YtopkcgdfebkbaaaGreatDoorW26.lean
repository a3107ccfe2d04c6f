/- Walks: the function 'if'. -/
import Derived.Test.YtopkcgdfebkbaaaGreatDoorW25
set_option linter.unusedVariables false
set_option linter.unusedSimpArgs false
namespace Go.Proofs.YtopkcgdfebkbaaaGreatDoor
open Go.RowKit
attribute [local go_sem] B_size B_toList B_extract B_append drop_take_all

theorem getD_at {l : List Bytes} {i : Nat} (h : i < l.length) : l.getD i [] = l[i] := by rw [List.getD_eq_getElem?_getD, List.getElem?_eq_getElem h]; rfl

set_option maxRecDepth 100000 in
set_option maxHeartbeats 4000000 in
theorem function_if (cf : CallF) (L : Lev) (D K : Nat) (hE : Owes 51 L.ex D K) (fE : Fit 4000 L.ex K)
    (v : List Var) (A : Option Addr) (N C sb n : Nat) (w : World) (l : List Bytes) (A1 : Option Addr) (C1 : Nat) (r : Except Nat Bytes) (n' : Nat) (hv : VR w (.slice A N C) v) (henv : Env K v) (hc : Cnt w sb n) (hn : n ≤ 2000)
    (hlx : ∀ x ∈ l, x.length ≤ 100000) (h2 : 2 ≤ l.length) (h3 : l.length ≤ 3) (hr : w.ownsRow 0 9 1 (.slice A1 l.length C1) l.length (strCells l)) (hf : functionB cf L v sIf l n = some (r, n')) :
    Calls Tryz.prog 137 #[scV A N C D sb, .string (B sIf), .slice A1 l.length C1] w fun e w' => e = .returned (resV r) ∧ Keeps sb n' w w' := by
  have HV := Lib.hid hv
  have HC := Lib.hid hc
  have hsb := cnt_lt hc
  have HE := Lib.hid hE
  have HFE := Lib.hid fE
  have HENV := Lib.hid henv
  have HROW := Lib.hid hr
  have h0l : 0 < l.length := by omega
  have h1l : 1 < l.length := by omega
  obtain ⟨g, hA, c0⟩ := SR_cell hr 0 h0l
  obtain ⟨g', hA', c1⟩ := SR_cell hr 1 h1l
  subst hA
  cases hA'
  have hx0 := hlx _ (List.getElem_mem h0l)
  have hx1 := hlx _ (List.getElem_mem h1l)
  have HX2 : Hid (∀ h : 2 < l.length, l[2].length ≤ 100000) := Lib.hid (fun h => hlx _ (List.getElem_mem h))
  have hf' : andS (L.ex v l[0]) (fun first => if trimB first ≠ [] then L.ex v l[1] else if l.length < 3 then okS [] else L.ex v (l.getD 2 [])) n = some (r, n') := by
    have := hf
    unfold functionB at this
    rw [if_pos rfl, getD_at h0l, getD_at h1l] at this
    exact this
  obtain ⟨q, n2, hq, hor⟩ := andS_cases hf'
  have HFI := Lib.hid (fE v _ n q n2 henv hx0 hn hq)
  have HOR := Lib.hid hor
  have BX := Lib.hid (Blk.new w 104 #[.slice A N C, .int .i64 D, .pointer (some ⟨sb, 0, none⟩)] rfl)
  have BL := Lib.hid (Blk.new (w.alloc (.cells #[.slice A N C, .int .i64 D, .pointer (some ⟨sb, 0, none⟩)] 104)) 58 #[.slice (some ⟨g, 0, none⟩) l.length C1] (g := w.heap.size + 1) (by simp))
  have BX0 := Lib.hid (BX.out.alloc (.cells #[.slice (some ⟨g, 0, none⟩) l.length C1] 58))
  have HK0 := Lib.hid (keeps_alloc (keeps_alloc (keeps_refl HC.out) (.cells #[.slice A N C, .int .i64 D, .pointer (some ⟨sb, 0, none⟩)] 104)) (.cells #[.slice (some ⟨g, 0, none⟩) l.length C1] 58))
  have hs0 : ((w.alloc (.cells #[.slice A N C, .int .i64 D, .pointer (some ⟨sb, 0, none⟩)] 104)).alloc (.cells #[.slice (some ⟨g, 0, none⟩) l.length C1] 58)).heap.size = w.heap.size + 1 + 1 := by simp
  have hgl : g < w.heap.size := World.block_lt_of_cell? _ _ c0
  have hi0 : (0 : Int) < (l.length : Int) := by omega
  have hi1 : (1 : Int) < (l.length : Int) := by omega
  clear hv hc hE fE henv hr hf hf' hlx hor
  unfold scV
  go_enter Tryz.func137, Tryz.ntmps137
  go_wp2_with fail
  clear BX c0 c1
  generalize (w.alloc (.cells #[.slice A N C, .int .i64 D, .pointer (some ⟨sb, 0, none⟩)] 104)).alloc (.cells #[.slice (some ⟨g, 0, none⟩) l.length C1] 58) = w0 at *
  have HROW0 := Lib.hid (row9_keeps HROW.out HK0.out HC.out)
  obtain ⟨g', hg', c0⟩ := SR_cell HROW0.out 0 h0l
  cases hg'
  obtain ⟨f1, f2, f3⟩ := BX0.out.c
  obtain ⟨b1, b2, b3⟩ := BL.out.c
  have hcall := HE.out v A N C sb n w0.drew l[0] q n2 (VR_keeps HV.out (keeps_drew HK0.out) HC.out) HENV.out (keeps_drew HK0.out).cnt hn hx0 hq
  unfold scV at hcall
  go_wp2_with fail
  go_region_with (go_at_call 51; refine hcall.mono ?_; rintro e w1 ⟨rfl, k1⟩; unfold resV)
  all_goals
    have HK1 := Lib.hid (keeps_trans (keeps_drew HK0.out) k1)
    have BX1 := Lib.hid (Blk.keeps (W := w0.drew) BX0.out k1 (by omega))
    have BL1 := Lib.hid (Blk.keeps (W := w0.drew) BL.out k1 (by omega))
    have HROW1 := Lib.hid (row9_keeps (row_below HROW0.out (below_drew w0)) k1 (keeps_drew HK0.out).cnt)
    clear k1 hcall f1 f2 f3 b1 b2 b3 c0 HK0 BX0 BL HROW0 HROW
    have hor := HOR.out
    have hfine := HFI.out
    clear HOR HFI
    rcases hor with ⟨e, rfl, rfl, rfl⟩ | ⟨y, rfl, hgo⟩
    · have he0 : ((e : Int) != 0) = true := by have := hfine.1; simp; omega
      simp only [tx, er]
      go_wp2_with fail
      go_ret2
      exact ⟨rfl, HK1.out⟩
    · obtain ⟨hy, hn2⟩ := hfine
      have HGO := Lib.hid hgo
      clear hgo
      simp only [tx, er]
      go_wp2_with fail
      refine (trim_any y w1 (by omega)).mono ?_
      rintro e w2 ⟨rfl, hb2⟩
      have HK2 := Lib.hid (keeps_below HK1.out hb2)
      have BX2 := Lib.hid (BX1.out.below hb2)
      have BL2 := Lib.hid (BL1.out.below hb2)
      have HROW2 := Lib.hid (row_below HROW1.out hb2)
      clear hb2 HK1 BX1 BL1 HROW1
      obtain ⟨f1, f2, f3⟩ := BX2.out.c
      obtain ⟨b1, b2, b3⟩ := BL2.out.c
      by_cases ht : trimB y = []
      · have HG2 : Hid ((if l.length < 3 then okS [] else L.ex v (l.getD 2 [])) n2 = some (r, n')) := Lib.hid (by
          have := HGO.out
          rw [if_neg (by simpa using ht)] at this
          exact this)
        rw [ht]
        clear HGO ht
        by_cases hl3 : l.length < 3
        · have HR : Hid (r = .ok [] ∧ n' = n2) := Lib.hid (by
            have := HG2.out
            rw [if_pos hl3] at this
            simp [okS] at this
            exact ⟨this.1.symm, this.2.symm⟩)
          have hl3' : (l.length : Int) < 3 := by omega
          clear HG2
          go_wp2_with fail
          go_ret2
          rw [HR.out.1, HR.out.2]
          exact ⟨rfl, HK2.out⟩
        · have hl3' : ¬ (l.length : Int) < 3 := by omega
          have h2l : 2 < l.length := by omega
          have hi2 : (2 : Int) < (l.length : Int) := by omega
          have hex : L.ex v l[2] n2 = some (r, n') := by
            have := HG2.out
            rw [if_neg hl3, getD_at h2l] at this
            exact this
          have hx2 := HX2.out h2l
          obtain ⟨g', hg', c0⟩ := SR_cell HROW2.out 2 h2l
          cases hg'
          have hcall := HE.out v A N C sb n2 w2.drew l[2] r n' (VR_keeps HV.out (keeps_drew HK2.out) HC.out) HENV.out (keeps_drew HK2.out).cnt hn2 hx2 hex
          unfold scV at hcall
          clear HG2 hex
          go_wp2_with fail
          go_region_with (go_at_call 51; refine hcall.mono ?_; rintro e w3 ⟨rfl, k3⟩; unfold resV)
          all_goals
            have HK3 := Lib.hid (keeps_trans (keeps_drew HK2.out) k3)
            clear k3 hcall
            go_wp2_with fail
            go_ret2
            exact ⟨rfl, HK3.out⟩
      · have ht1 : (trimB y != []) = true := by simpa using ht
        have ht2 : (trimB y).isEmpty = false := by cases h : trimB y; exact absurd h ht; rfl
        have hex : L.ex v l[1] n2 = some (r, n') := by
          have := HGO.out
          rw [if_pos ht] at this
          exact this
        obtain ⟨g', hg', c0⟩ := SR_cell HROW2.out 1 h1l
        cases hg'
        have hcall := HE.out v A N C sb n2 w2.drew l[1] r n' (VR_keeps HV.out (keeps_drew HK2.out) HC.out) HENV.out (keeps_drew HK2.out).cnt hn2 hx1 hex
        unfold scV at hcall
        clear HGO hex
        go_wp2_with fail
        go_region_with (go_at_call 51; refine hcall.mono ?_; rintro e w3 ⟨rfl, k3⟩; unfold resV)
        all_goals
          have HK3 := Lib.hid (keeps_trans (keeps_drew HK2.out) k3)
          clear k3 hcall
          go_wp2_with fail
          go_ret2
          exact ⟨rfl, HK3.out⟩
end Go.Proofs.YtopkcgdfebkbaaaGreatDoor
