/- Walks: turned. -/
import Derived.Test.YtopkcgdfebkbaaaGreatDoorW21
set_option linter.unusedVariables false
set_option linter.unusedSimpArgs false
namespace Go.Proofs.YtopkcgdfebkbaaaGreatDoor
open Go.RowKit
attribute [local go_sem] B_size B_toList B_extract B_append drop_take_all

set_option maxRecDepth 100000 in
set_option maxHeartbeats 1000000 in
theorem turned_any (L : Lev) (D K : Nat) (hE : Owes 51 L.ex D K) (fE : Fit 4000 L.ex K) (hV : Owes 89 L.vl D K) (fV : Fit 100000 L.vl K) : OwesT (turnedB L) D K := by
  intro v A N C sb n w name p q r n' hv henv hc hn hnl hpl hql hf
  have HV := Lib.hid hv
  have HC := Lib.hid hc
  have hsb := cnt_lt hc
  have HE := Lib.hid hE
  have HL := Lib.hid hV
  have HFE := Lib.hid fE
  have HFV := Lib.hid fV
  have HENV := Lib.hid henv
  obtain ⟨qr, n2, hall, hor⟩ := andS_cases (show andS (allS (L.ex v) [name, p, q] []) _ n = some (r, n') from hf)
  have HALL := Lib.hid hall
  have HOR := Lib.hid hor
  have HFI := Lib.hid (allS_fine L.ex K fE v henv [name, p, q] [] n n2 qr (by intro x hx; simp at hx; rcases hx with rfl | rfl | rfl <;> assumption) (by simp) hn hall)
  clear hv hc hE hV fE fV hf henv hall hor
  have BX := Lib.hid (Blk.new w 104 #[.slice A N C, .int .i64 D, .pointer (some ⟨sb, 0, none⟩)] rfl)
  have BP := Lib.hid (Blk.new (w.alloc (.cells #[.slice A N C, .int .i64 D, .pointer (some ⟨sb, 0, none⟩)] 104)) 9 #[.string (B p)] (g := w.heap.size + 1) (by simp))
  have BQ := Lib.hid (Blk.new ((w.alloc (.cells #[.slice A N C, .int .i64 D, .pointer (some ⟨sb, 0, none⟩)] 104)).alloc (.cells #[.string (B p)] 9)) 9 #[.string (B q)] (g := w.heap.size + 1 + 1) (by simp))
  have HK0 := Lib.hid (keeps_alloc (keeps_alloc (keeps_alloc (keeps_refl HC.out) (.cells #[.slice A N C, .int .i64 D, .pointer (some ⟨sb, 0, none⟩)] 104)) (.cells #[.string (B p)] 9)) (.cells #[.string (B q)] 9))
  have BX0 := Lib.hid ((BX.out.alloc (.cells #[.string (B p)] 9)).alloc (.cells #[.string (B q)] 9))
  have BP0 := Lib.hid (BP.out.alloc (.cells #[.string (B q)] 9))
  unfold scV
  go_enter Tryz.func139, Tryz.ntmps139
  go_wp2_with fail
  have hw0 : (((w.alloc (.cells #[.slice A N C, .int .i64 D, .pointer (some ⟨sb, 0, none⟩)] 104)).alloc (.cells #[.string (B p)] 9)).alloc (.cells #[.string (B q)] 9)).heap.size = w.heap.size + 1 + 1 + 1 := by simp
  generalize ((w.alloc (.cells #[.slice A N C, .int .i64 D, .pointer (some ⟨sb, 0, none⟩)] 104)).alloc (.cells #[.string (B p)] 9)).alloc (.cells #[.string (B q)] 9) = w0 at *
  clear BX BP
  have HK1 := Lib.hid (keeps_alloc HK0.out (.cells (strCells [name, p, q]).toArray 9))
  have hcall := all_any L.ex D K HE.out HFE.out v A N C sb n _ [name, p, q] (some ⟨w0.heap.size, 0, none⟩) 3 qr n2 (VR_keeps HV.out HK1.out HC.out) HENV.out HK1.out.cnt hn (by intro x hx; simp at hx; rcases hx with rfl | rfl | rfl <;> assumption) (by simp) (row_low (row_new w0 [name, p, q] (by simp)) (Nat.zero_le _)) HALL.out
  rw [hw0] at hcall
  unfold scV at hcall
  have hsz0 : w0.heap.size < (w0.alloc (.cells (strCells [name, p, q]).toArray 9)).heap.size := by simp
  have HB0 := Lib.hid ((Below.refl _ w0).alloc (Nat.le_refl _) (.cells (strCells [name, p, q]).toArray 9))
  have hW : w0.alloc (.cells #[.string (B name), .string (B p), .string (B q)] 9) = w0.alloc (.cells (strCells [name, p, q]).toArray 9) := rfl
  rw [hW]
  clear hW
  generalize w0.alloc (.cells (strCells [name, p, q]).toArray 9) = w1 at *
  have HBX1 := Lib.hid (BX0.out.below HB0.out)
  have HBP1 := Lib.hid (BP0.out.below HB0.out)
  have HBQ1 := Lib.hid (BQ.out.below HB0.out)
  clear HB0 BX0 BP0 BQ HK0 HALL
  refine hcall.mono ?_
  intro e w2 hpost
  clear hcall
  obtain ⟨hpost, k2⟩ := hpost
  have HK2 := Lib.hid (keeps_trans HK1.out k2)
  have HBX2 := Lib.hid (HBX1.out.keeps k2 (by omega))
  have HBP2 := Lib.hid (HBP1.out.keeps k2 (by omega))
  have HBQ2 := Lib.hid (HBQ1.out.keeps k2 (by omega))
  clear k2 HBX1 HBP1 HBQ1 HK1
  rcases HFI.out with ⟨x, rfl, hx1, hx2⟩ | ⟨o, rfl, ho, hol, hn2⟩
  · have he0 : ((x : Int) != 0) = true := by simp; omega
    simp only at hpost
    subst hpost
    go_wp2_with fail
    go_ret2
    rcases HOR.out with ⟨e2, h1, rfl, rfl⟩ | ⟨y, h1, _⟩
    · cases h1
      exact ⟨rfl, HK2.out⟩
    · cases h1
  · obtain ⟨a, b, c, rfl⟩ : ∃ a b c, o = [a, b, c] := by
      match o, ho with
      | [a, b, c], _ => exact ⟨a, b, c, rfl⟩
    obtain ⟨A2, C2, he, hrow⟩ := hpost
    subst he
    have HROW := Lib.hid hrow
    have ha := hol a (by simp)
    have hb := hol b (by simp)
    have hcl := hol c (by simp)
    have HG : Hid (andS (L.vl v a) (fun s => if openB b then wordsS (fun w => okS (substB b c w)) s else wordsS (fun w => okS (substB (37 :: b) (37 :: c) w)) s) n2 = some (r, n')) := Lib.hid (by
      rcases HOR.out with ⟨e2, h1, _⟩ | ⟨y, h1, h2⟩
      · cases h1
      · cases h1; exact h2)
    clear HOR HFI hrow hol ho
    obtain ⟨qs, n3, hvl, hor⟩ := andS_cases HG.out
    have HFI := Lib.hid (HFV.out v a n2 qs n3 HENV.out (by omega) hn2 hvl)
    have HOR := Lib.hid hor
    have HVL := Lib.hid hvl
    clear hor hvl HG
    obtain ⟨g, hA, c0⟩ := SR_cell (row_low HROW.out (Nat.zero_le _)) 0 (by simp)
    subst hA
    obtain ⟨f1, f2, f3⟩ := HBX2.out.c
    have hcall := HL.out v A N C sb n2 w2.drew a qs n3 (VR_keeps HV.out (keeps_drew HK2.out) HC.out) HENV.out (keeps_drew HK2.out).cnt hn2 (by omega) HVL.out
    unfold scV at hcall
    simp only [List.getElem_cons_zero, List.length_cons, List.length_nil] at c0 ⊢
    go_wp2_with fail
    go_region_with (go_at_call 89; refine hcall.mono ?_; rintro e w3 ⟨rfl, k3⟩; unfold resV)
    all_goals
      have HK3 := Lib.hid (keeps_trans (keeps_drew HK2.out) k3)
      have HBP3 := Lib.hid (Blk.keeps (W := w2.drew) HBP2.out k3 (by omega))
      have HBQ3 := Lib.hid (Blk.keeps (W := w2.drew) HBQ2.out k3 (by omega))
      have HROW3 := Lib.hid (row9_keeps (row_below HROW.out (below_drew w2)) k3 (keeps_drew HK2.out).cnt)
      clear k3 hcall f1 f2 f3 c0 HK2 HBX2 HBP2 HBQ2 HROW
      have hor := HOR.out
      have hfine := HFI.out
      clear HOR HFI
      rcases hor with ⟨e, rfl, rfl, rfl⟩ | ⟨y, rfl, hgo⟩
      · have he0 : ((e : Int) != 0) = true := by have := hfine.1; simp; omega
        simp only [tx, er]
        go_wp2_with fail
        go_ret2
        exact ⟨rfl, HK3.out⟩
      · obtain ⟨hy, hn3⟩ := hfine
        have HGO := Lib.hid hgo
        clear hgo
        simp only [tx, er]
        obtain ⟨g1, hg1, c1⟩ := SR_cell (row_low HROW3.out (Nat.zero_le _)) 1 (by simp)
        cases hg1
        obtain ⟨g2, hg2, c2⟩ := SR_cell (row_low HROW3.out (Nat.zero_le _)) 2 (by simp)
        cases hg2
        simp only [List.getElem_cons_zero, List.getElem_cons_succ] at c1 c2
        obtain ⟨p1, p2, p3⟩ := HBP3.out.c
        obtain ⟨q1, q2, q3⟩ := HBQ3.out.c
        go_wp2_with fail
        go_region
        have HK4 := Lib.hid (keeps_drew (keeps_set (keeps_set HK3.out ⟨w.heap.size + 1, 0, none⟩ (.string (B b)) (by simp) (by simp; omega)) ⟨w.heap.size + 1 + 1, 0, none⟩ (.string (B c)) (by simp; omega) (by simp; omega)))
        have HBP4 : Hid (Blk ((w3.setCell ⟨w.heap.size + 1, 0, none⟩ (.string (B b))).setCell ⟨w.heap.size + 1 + 1, 0, none⟩ (.string (B c))).drew (w.heap.size + 1) 9 #[.string (B b)]) := Lib.hid ((HBP3.out.set_ 0 (.string (B b))).far (p := ⟨w.heap.size + 1 + 1, 0, none⟩) (by simp) (.string (B c)))
        have HBQ4 : Hid (Blk ((w3.setCell ⟨w.heap.size + 1, 0, none⟩ (.string (B b))).setCell ⟨w.heap.size + 1 + 1, 0, none⟩ (.string (B c))).drew (w.heap.size + 1 + 1) 9 #[.string (B c)]) := Lib.hid ((HBQ3.out.far (p := ⟨w.heap.size + 1, 0, none⟩) (by simp) (.string (B b))).set_ 0 (.string (B c)))
        generalize ((w3.setCell ⟨w.heap.size + 1, 0, none⟩ (.string (B b))).setCell ⟨w.heap.size + 1 + 1, 0, none⟩ (.string (B c))).drew = w4 at *
        clear HK3 HBP3 HBQ3 HROW3 c1 c2 p1 p2 p3 q1 q2 q3
        obtain ⟨p1, p2, p3⟩ := HBP4.out.c
        obtain ⟨q1, q2, q3⟩ := HBQ4.out.c
        go_wp2_with fail
        refine (open_any b w4).mono ?_
        rintro e w5 ⟨rfl, rfl⟩
        cases hop : openB b with
        | true =>
          have hw : wordsS (fun w => okS (substB b c w)) y n3 = some (r, n') := by
            have := HGO.out
            simp only [hop, if_true] at this
            exact this
          have hcall := wordsOf_any 219 Tryz.f219 _ _ (enters_of Tryz.func219 (by kernel_rfl) rfl) sb n3 n' w4 y r HK4.out.cnt hn3 (by omega) (turnedW (w.heap.size + 1) (w.heap.size + 1 + 1) b c sb w4 HBP4.out HBQ4.out (by omega) (by omega) (by omega) (by omega)) (turnedFit b c (by omega)) hw
          clear hw HGO hop
          go_wp2_with fail
          refine hcall.mono ?_
          rintro e w6 ⟨rfl, k6⟩
          have HK6 := Lib.hid (keeps_trans HK4.out k6)
          clear k6 hcall
          unfold resV
          go_wp2_with fail
          go_ret2
          exact ⟨rfl, HK6.out⟩
        | false =>
          have hw : wordsS (fun w => okS (substB (37 :: b) (37 :: c) w)) y n3 = some (r, n') := by
            have := HGO.out
            simp only [hop] at this
            exact this
          have HWW := Lib.hid hw
          clear hw HGO hop
          go_wp2_with fail
          go_region
          rw [show (⟨#[37]⟩ : ByteArray) ++ B b = B (37 :: b) from B_cons 37 b, show (⟨#[37]⟩ : ByteArray) ++ B c = B (37 :: c) from B_cons 37 c]
          have HK5 := Lib.hid (keeps_drew (keeps_set (keeps_set HK4.out ⟨w.heap.size + 1, 0, none⟩ (.string (B (37 :: b))) (by simp) (by simp; omega)) ⟨w.heap.size + 1 + 1, 0, none⟩ (.string (B (37 :: c))) (by simp; omega) (by simp; omega)))
          have HBP5 : Hid (Blk ((w4.setCell ⟨w.heap.size + 1, 0, none⟩ (.string (B (37 :: b)))).setCell ⟨w.heap.size + 1 + 1, 0, none⟩ (.string (B (37 :: c)))).drew (w.heap.size + 1) 9 #[.string (B (37 :: b))]) := Lib.hid ((HBP4.out.set_ 0 (.string (B (37 :: b)))).far (p := ⟨w.heap.size + 1 + 1, 0, none⟩) (by simp) (.string (B (37 :: c))))
          have HBQ5 : Hid (Blk ((w4.setCell ⟨w.heap.size + 1, 0, none⟩ (.string (B (37 :: b)))).setCell ⟨w.heap.size + 1 + 1, 0, none⟩ (.string (B (37 :: c)))).drew (w.heap.size + 1 + 1) 9 #[.string (B (37 :: c))]) := Lib.hid ((HBQ4.out.far (p := ⟨w.heap.size + 1, 0, none⟩) (by simp) (.string (B (37 :: b)))).set_ 0 (.string (B (37 :: c))))
          generalize ((w4.setCell ⟨w.heap.size + 1, 0, none⟩ (.string (B (37 :: b)))).setCell ⟨w.heap.size + 1 + 1, 0, none⟩ (.string (B (37 :: c)))).drew = w5 at *
          clear HK4 HBP4 HBQ4 p1 p2 p3 q1 q2 q3
          have hcall := wordsOf_any 219 Tryz.f219 _ _ (enters_of Tryz.func219 (by kernel_rfl) rfl) sb n3 n' w5 y r HK5.out.cnt hn3 (by omega) (turnedW (w.heap.size + 1) (w.heap.size + 1 + 1) (37 :: b) (37 :: c) sb w5 HBP5.out HBQ5.out (by omega) (by omega) (by simp; omega) (by simp; omega)) (turnedFit (37 :: b) (37 :: c) (by simp; omega)) HWW.out
          clear HWW
          go_wp2_with fail
          refine hcall.mono ?_
          rintro e w6 ⟨rfl, k6⟩
          have HK6 := Lib.hid (keeps_trans HK5.out k6)
          clear k6 hcall
          unfold resV
          go_wp2_with fail
          go_ret2
          exact ⟨rfl, HK6.out⟩
end Go.Proofs.YtopkcgdfebkbaaaGreatDoor
