/- Walks: the function 'foreach'. -/
import Derived.Test.YtopkcgdfebkbaaaGreatDoorW25
set_option linter.unusedVariables false
set_option linter.unusedSimpArgs false
namespace Go.Proofs.YtopkcgdfebkbaaaGreatDoor
open Go.RowKit
attribute [local go_sem] B_size B_toList B_extract B_append drop_take_all

theorem row_take {w : World} {base e size n C : Nat} {A : Option Addr} {xs : List Value} (h : w.ownsRow base e size (.slice A n C) n xs) (m : Nat) (hm : m ≤ n) : w.ownsRow base e size (.slice A m C) m (xs.take (m * size)) := by
  have h1 := h.1
  refine ⟨by rw [List.length_take, h1, Nat.min_eq_left (Nat.mul_le_mul_right _ hm)], ?_⟩
  rcases h.2 with ⟨hv, h0⟩ | ⟨g, cap, cur, hv, hb, hg, hle, hcm, hcs, htake⟩
  · injection hv with e1 e2 e3
    obtain rfl : m = 0 := by omega
    exact .inl ⟨by rw [e1, e3], rfl⟩
  · injection hv with e1 e2 e3
    subst e1; subst e3
    refine .inr ⟨g, C, cur, rfl, hb, hg, by omega, hcm, hcs, ?_⟩
    rw [← htake, List.take_take, Nat.min_eq_left (Nat.mul_le_mul_right _ hm)]

set_option maxRecDepth 100000 in
set_option maxHeartbeats 4000000 in
theorem function_foreach (cf : CallF) (L : Lev) (D K : Nat) (hE : Owes 51 L.ex D K) (hE1 : Owes 51 L.ex D (K + 1)) (fE : ∀ K, Fit 4000 L.ex K) (hK : K ≤ 10000)
    (v : List Var) (A : Option Addr) (N C sb n : Nat) (w : World) (a b c : Bytes) (A1 : Option Addr) (C1 : Nat) (r : Except Nat Bytes) (n' : Nat) (hv : VR w (.slice A N C) v) (henv : Env K v) (hc : Cnt w sb n) (hn : n ≤ 2000)
    (hlx : ∀ x ∈ [a, b, c], x.length ≤ 100000) (hr : w.ownsRow 0 9 1 (.slice A1 3 C1) 3 (strCells [a, b, c])) (hf : functionB cf L v sForeach [a, b, c] n = some (r, n')) :
    Calls Tryz.prog 137 #[scV A N C D sb, .string (B sForeach), .slice A1 3 C1] w fun e w' => e = .returned (resV r) ∧ Keeps sb n' w w' := by
  have HV := Lib.hid hv
  have HC := Lib.hid hc
  have hsb := cnt_lt hc
  have HE := Lib.hid hE
  have HE1 := Lib.hid hE1
  have HFE := Lib.hid fE
  have HENV := Lib.hid henv
  have HROW := Lib.hid hr
  have HLX := Lib.hid hlx
  have hNl : N ≤ 10000000 := by have := hv.parts.1; have := henv.len; omega
  obtain ⟨g, hA, _⟩ := SR_cell (l := [a, b, c]) hr 0 (by simp)
  subst hA
  have hf' : andS (allS (L.ex v) [a, b] []) (fun l => wordsS (fun w => andS stepS fun _ => L.ex (insV ⟨trimB (l.getD 0 []), w, true⟩ v) c) (l.getD 1 [])) n = some (r, n') := by
    have := hf
    unfold functionB at this
    rw [if_neg (by decide), if_pos rfl] at this
    exact this
  obtain ⟨q, n2, hq, hor⟩ := andS_cases hf'
  have HFI := Lib.hid (allS_fine L.ex K (fE K) v henv [a, b] [] n n2 q (fun x hx => hlx x (by simp at hx ⊢; rcases hx with rfl | rfl <;> simp)) (by simp) hn hq)
  have HOR := Lib.hid hor
  have HQ := Lib.hid hq
  have BX := Lib.hid (Blk.new w 104 #[.slice A N C, .int .i64 D, .pointer (some ⟨sb, 0, none⟩)] rfl)
  have BL := Lib.hid (Blk.new (w.alloc (.cells #[.slice A N C, .int .i64 D, .pointer (some ⟨sb, 0, none⟩)] 104)) 58 #[.slice (some ⟨g, 0, none⟩) 3 C1] (g := w.heap.size + 1) (by simp))
  have BX0 := Lib.hid (BX.out.alloc (.cells #[.slice (some ⟨g, 0, none⟩) 3 C1] 58))
  have HK0 := Lib.hid (keeps_alloc (keeps_alloc (keeps_refl HC.out) (.cells #[.slice A N C, .int .i64 D, .pointer (some ⟨sb, 0, none⟩)] 104)) (.cells #[.slice (some ⟨g, 0, none⟩) 3 C1] 58))
  have hs0 : ((w.alloc (.cells #[.slice A N C, .int .i64 D, .pointer (some ⟨sb, 0, none⟩)] 104)).alloc (.cells #[.slice (some ⟨g, 0, none⟩) 3 C1] 58)).heap.size = w.heap.size + 1 + 1 := by simp
  have hC1 : 3 ≤ C1 := by
    rcases hr.2 with ⟨hv, h0⟩ | ⟨g, cap, cur, hv, hb, hg, hle, _⟩
    · omega
    · injection hv with e1 e2 e3; omega
  have hC1' : (3 : Int) ≤ (C1 : Int) := by omega
  have hC2' : (2 : Int) ≤ (C1 : Int) := by omega
  clear hv hc hE hE1 fE henv hr hf hf' hlx hor hq
  unfold scV
  go_enter Tryz.func137, Tryz.ntmps137
  go_wp2_with fail
  clear BX
  generalize (w.alloc (.cells #[.slice A N C, .int .i64 D, .pointer (some ⟨sb, 0, none⟩)] 104)).alloc (.cells #[.slice (some ⟨g, 0, none⟩) 3 C1] 58) = w0 at *
  have HROW0 := Lib.hid (row9_keeps HROW.out HK0.out HC.out)
  obtain ⟨f1, f2, f3⟩ := BX0.out.c
  obtain ⟨b1, b2, b3⟩ := BL.out.c
  have hrow2 : w0.drew.ownsRow 0 9 1 (.slice (some ⟨g, 0, none⟩) ([a, b] : List Bytes).length C1) ([a, b] : List Bytes).length (strCells [a, b]) := row_take (m := 2) (row_below HROW0.out (below_drew w0)) (by omega)
  have hcall := all_any L.ex D K HE.out (HFE.out K) v A N C sb n w0.drew [a, b] (some ⟨g, 0, none⟩) C1 q n2 (VR_keeps HV.out (keeps_drew HK0.out) HC.out) HENV.out (keeps_drew HK0.out).cnt hn (fun x hx => HLX.out x (by simp at hx ⊢; rcases hx with rfl | rfl <;> simp)) (by simp) hrow2 HQ.out
  unfold scV at hcall
  simp only [List.length_cons, List.length_nil, Nat.zero_add, Nat.reduceAdd] at hcall
  clear hrow2
  rcases HFI.out with ⟨x, rfl, hx1, hx2⟩ | ⟨o, rfl, ho, hol, hn2⟩
  · have he0 : ((x : Int) != 0) = true := by simp; omega
    go_region_with (go_at_call 211; refine hcall.mono ?_; intro e w1 hpost; obtain ⟨he, k1⟩ := hpost; simp only at he; subst he)
    all_goals
      have HK1 := Lib.hid (keeps_trans (keeps_drew HK0.out) k1)
      clear k1 hcall
      go_wp2_with fail
      go_ret2
      rcases HOR.out with ⟨e2, h1, rfl, rfl⟩ | ⟨y, h1, _⟩
      · cases h1
        exact ⟨rfl, HK1.out⟩
      · cases h1
  · obtain ⟨y, z, rfl⟩ : ∃ y z, o = [y, z] := by
      match o, ho with
      | [y, z], _ => exact ⟨y, z, rfl⟩
    have hy := hol y (by simp)
    have hz := hol z (by simp)
    have HG : Hid (wordsS (fun w => andS stepS fun _ => L.ex (insV ⟨trimB y, w, true⟩ v) c) z n2 = some (r, n')) := Lib.hid (by
      rcases HOR.out with ⟨e2, h1, _⟩ | ⟨y, h1, h2⟩
      · cases h1
      · cases h1; exact h2)
    clear HOR HFI hol ho
    go_region_with (go_at_call 211; refine hcall.mono ?_; intro e w1 hpost; obtain ⟨⟨A2, C2, he, hrow⟩, k1⟩ := hpost; subst he)
    all_goals
      have HK1 := Lib.hid (keeps_trans (keeps_drew HK0.out) k1)
      have BX1 := Lib.hid (Blk.keeps (W := w0.drew) BX0.out k1 (by omega))
      have BL1 := Lib.hid (Blk.keeps (W := w0.drew) BL.out k1 (by omega))
      have HROW1 := Lib.hid (row9_keeps (row_below HROW0.out (below_drew w0)) k1 (keeps_drew HK0.out).cnt)
      have HR2 := Lib.hid (row_low (base' := 0) hrow (Nat.zero_le _))
      clear k1 hcall hrow f1 f2 f3 b1 b2 b3 HK0 BX0 BL HROW0 HROW
      obtain ⟨g2, hA2, c0⟩ := SR_cell HR2.out 0 (by simp)
      subst hA2
      simp only [List.getElem_cons_zero, List.length_cons, List.length_nil] at c0 ⊢
      go_wp2_with fail
      refine (trim_any y w1 (by omega)).mono ?_
      rintro e w2 ⟨rfl, hb2⟩
      have HK2 := Lib.hid (keeps_alloc (keeps_below HK1.out hb2) (.cells #[.string (B (trimB y))] 9))
      have BX2 := Lib.hid ((BX1.out.below hb2).alloc (.cells #[.string (B (trimB y))] 9))
      have BL2 := Lib.hid ((BL1.out.below hb2).alloc (.cells #[.string (B (trimB y))] 9))
      have BN2 := Lib.hid (Blk.new w2 9 #[.string (B (trimB y))] rfl)
      have HROW2 := Lib.hid ((row_below HROW1.out hb2).alloc (.cells #[.string (B (trimB y))] 9))
      have HR3 := Lib.hid ((row_below HR2.out hb2).alloc (.cells #[.string (B (trimB y))] 9))
      have hsz2 : w.heap.size + 1 < w2.heap.size := (BL1.out.below hb2).lt
      clear hb2 c0 HK1 BX1 BL1 HROW1 HR2
      obtain ⟨g2, hA2, c1⟩ := SR_cell HR3.out 1 (by simp)
      cases hA2
      simp only [List.getElem_cons_zero, List.getElem_cons_succ] at c1
      have hO := foreachW L.ex D K HE1.out v A N C sb (w2.alloc (.cells #[.string (B (trimB y))] 9)) w.heap.size w2.heap.size (w.heap.size + 1) (trimB y) [a, b, c] (some ⟨g, 0, none⟩) C1 n2 HK2.out.cnt (VR_keeps HV.out HK2.out HC.out) HENV.out hNl BX2.out BN2.out BL2.out HROW2.out (by simp) HLX.out (by omega) (by omega) (by omega)
      have hFW : FitW 1000000 (fun x => andS stepS fun _ => L.ex (insV ⟨trimB y, x, true⟩ v) ([a, b, c].getD 2 [])) := by
        intro x m q m2 hx hm hq
        exact fine_step hq fun h1 h2 => fine_mono (HFE.out (K + 1) _ _ _ _ _ (HENV.out.ins ⟨trimB y, x, true⟩ hx) (HLX.out c (by simp)) h1 h2) (by decide)
      have hcall := wordsOf_any 213 Tryz.f213 _ _ (enters_of Tryz.func213 (by kernel_rfl) rfl) sb n2 n' (w2.alloc (.cells #[.string (B (trimB y))] 9)) z r HK2.out.cnt hn2 (by omega) hO hFW HG.out
      clear hO hFW HG
      go_wp2_with fail
      refine hcall.mono ?_
      rintro e w4 ⟨rfl, k4⟩
      have HK4 := Lib.hid (keeps_trans HK2.out k4)
      clear k4 hcall
      unfold resV
      go_wp2_with fail
      go_ret2
      exact ⟨rfl, HK4.out⟩
end Go.Proofs.YtopkcgdfebkbaaaGreatDoor
