/- Walks: VarsAppend. -/
import Derived.Test.YtopkcgdfebkbaaaGreatDoorW33
set_option linter.unusedVariables false
set_option linter.unusedSimpArgs false
namespace Go.Proofs.YtopkcgdfebkbaaaGreatDoor
open Go.RowKit
attribute [local go_sem] B_size B_toList B_extract B_append drop_take_all

def apO (a b : Bytes) : List Var := [⟨vQ, b, false⟩, ⟨vS, a, true⟩, ⟨vR, a, false⟩]
theorem apO_rows (a b : Bytes) : rowsV (apO a b) = ap0 a b := rfl

theorem Lies.far {w : World} {b o : Nat} {l : List Var} (h : Lies w b o l) {p : Addr} (hne : b ≠ p.block) (u : Value) : Lies (w.setCell p u) b o l := fun k x hx => by
  obtain ⟨h1, h2, h3⟩ := h k x hx
  have e : ∀ a : Addr, a.block = b → (w.setCell p u).cell? a = w.cell? a := fun a ha => by
    unfold World.cell?
    rw [Below.heap_setCell w p u a.block (by rw [ha]; exact hne)]
  exact ⟨(e _ rfl).trans h1, (e _ rfl).trans h2, (e _ rfl).trans h3⟩
theorem env_of (v : List Var) (h1 : InOrder v) (h2 : v.length ≤ 30) (h3 : ∀ x ∈ v, x.text.length ≤ 1000) : Env 30 v := ⟨h1, h2, fun x hx => by have := h3 x hx; omega⟩
theorem ap0_env (a b : Bytes) (ha : a.length ≤ 200) (hb : b.length ≤ 200) : Env 30 (ap0 a b) := by
  refine env_of _ ?_ ?_ ?_
  · rw [ap0_eq]; simp [InOrder, vQ, vR, vS, Op.bytesLess]
  · rw [ap0_eq]; simp
  · intro x hx; rw [ap0_eq] at hx; simp at hx; rcases hx with rfl | rfl | rfl <;> simp <;> omega
theorem ap1_env (a b : Bytes) (ha : a.length ≤ 200) (hb : b.length ≤ 200) : Env 30 (ap1 a b) := by
  refine env_of _ ?_ ?_ ?_
  · simp [ap1, InOrder, vQ, vR, vS, Op.bytesLess]
  · simp [ap1]
  · intro x hx; simp [ap1] at hx; rcases hx with rfl | rfl | rfl <;> simp <;> omega
theorem ap2_env (a b : Bytes) (ha : a.length ≤ 200) (hb : b.length ≤ 200) : Env 30 (ap2 a b) := by
  refine env_of _ ?_ ?_ ?_
  · simp [ap2, InOrder, vQ, vR, vS, Op.bytesLess]
  · simp [ap2]
  · intro x hx; simp [ap2] at hx; rcases hx with rfl | rfl | rfl <;> simp [refB] <;> omega
theorem ap3_env (a b c : Bytes) (ha : a.length ≤ 200) (hb : b.length ≤ 200) (hc : c.length ≤ 200) : Env 30 (ap3 a b c) := by
  refine env_of _ ?_ ?_ ?_
  · simp [ap3, InOrder, vQ, vR, vS, Op.bytesLess]
  · simp [ap3]
  · intro x hx; simp [ap3] at hx; rcases hx with rfl | rfl | rfl <;> simp [refB] <;> omega
theorem ap4_env (a b c : Bytes) (ha : a.length ≤ 200) (hb : b.length ≤ 200) (hc : c.length ≤ 200) : Env 30 (ap4 a b c) := by
  refine env_of _ ?_ ?_ ?_
  · simp [ap4, InOrder, vQ, vR, vS, vN, Op.bytesLess]
  · simp [ap4]
  · intro x hx; simp [ap4] at hx; rcases hx with rfl | rfl | rfl | rfl <;> simp [refB] <;> omega

set_option maxRecDepth 100000 in
set_option maxHeartbeats 4000000 in
theorem varsAppend_any (a b c : Bytes) (w : World) (hg : Glob w) : Calls Tryz.prog 6 #[.string (B a), .string (B b), .string (B c)] w fun e w' => e = .returned (.bool true) ∧ Below w.heap.size w w' := by
  have HG := Lib.hid hg
  have hgs := hg.size
  have hsh := shown_any w hg
  clear hg
  go_enter Tryz.func6, Tryz.ntmps6
  go_wp2_with fail
  refine hsh.mono ?_
  rintro e w1 ⟨rfl, hb1⟩
  have HB1 := Lib.hid hb1
  clear hsh hb1
  by_cases hs : a.length ≤ 200 ∧ b.length ≤ 200 ∧ c.length ≤ 200
  · obtain ⟨ha, hb, hc⟩ := hs
    have ha' : ¬ (200 : Int) < (a.length : Int) := by omega
    have hb' : ¬ (200 : Int) < (b.length : Int) := by omega
    have hc' : ¬ (200 : Int) < (c.length : Int) := by omega
    have HSM : Hid (∀ x ∈ a ++ (b ++ c), x ∈ a ∨ x ∈ b ∨ x ∈ c) := Lib.hid (by intro x hx; simpa using hx)
    have HIN : Hid ((36 : UInt8) ∉ a ++ (b ++ c) → (36 : UInt8) ∉ a ∧ (36 : UInt8) ∉ b ∧ (36 : UInt8) ∉ c) := Lib.hid (by intro h; simp at h; exact h)
    have hsl : (a ++ (b ++ c)).length ≤ 600 := by simp; omega
    go_wp2_with fail
    generalize a ++ (b ++ c) = s at *
    go_loopw [9] (fun iv wr => ∃ (i : Nat), iv = .int .i64 i ∧ i ≤ s.length ∧ wr = w1 ∧ (36 : UInt8) ∉ s.take i)
      (fun iv wr => s.length - (intOf iv).toNat)
    case atStart => exact ⟨0, rfl, by omega, rfl, by simp⟩
    case round =>
      obtain ⟨i, rfl, hil, rfl, hno⟩ := hrel
      have HNO := Lib.hid hno
      have hi0 : (0 : Int) ≤ (i : Int) := by omega
      clear hno
      by_cases hlt : i < s.length
      · have hi1 : (i : Int) < (s.length : Int) := by omega
        have hbs : (B s)[i]'(by rw [B_size]; exact hlt) = s[i] := B_get _ _ _ hlt
        obtain ⟨x, hx⟩ : ∃ x, s[i] = x := ⟨_, rfl⟩
        have HT : Hid (s.take (i + 1) = s.take i ++ [x]) := Lib.hid (by rw [← hx, List.take_append_getElem])
        rw [hx] at hbs
        clear hx
        by_cases h36 : x = 36
        · subst h36
          go_wp2_with fail
          go_ret
          exact ⟨rfl, HB1.out⟩
        · have e36 : ((x.toNat : Int) == 36) = false := by
            rw [beq_eq_false_iff_ne]; intro e; exact h36 (UInt8.toNat_inj.1 (by show x.toNat = 36; omega))
          have HX : Hid (x ≠ 36) := Lib.hid h36
          clear h36
          go_wp2_with fail
          go_roundw
          case rel =>
            refine ⟨i + 1, by rw [Int.natCast_add]; rfl, by omega, by first | trivial | rfl, ?_⟩
            rw [HT.out]
            intro hm
            simp at hm
            rcases hm with hm | hm
            · exact HNO.out hm
            · exact HX.out hm.symm
          case measure => simp [intOf]; omega
      · obtain rfl : i = s.length := by omega
        have hno : (36 : UInt8) ∉ s := by have := HNO.out; rwa [List.take_length] at this
        have HNS := Lib.hid (HIN.out hno)
        clear hno HNO
        obtain ⟨w5, hw5⟩ : ∃ w5, w5 = wr := ⟨_, rfl⟩
        subst hw5
        have HB2 := Lib.hid ((HB1.out.alloc HB1.out.size (.cells #[.slice none 0 0] 25)).alloc (by simp; have := HB1.out.size; omega) (.cells (varsCells (apO a b)).toArray 36))
        have Q2 := Lib.hid ((Blk.new w5 25 #[.slice none 0 0] rfl).alloc (.cells (varsCells (apO a b)).toArray 36))
        have HL := Lib.hid (lies_new (w5.alloc (.cells #[.slice none 0 0] 25)) (apO a b))
        have hs2 : w5.heap.size + 1 < ((w5.alloc (.cells #[.slice none 0 0] 25)).alloc (.cells (varsCells (apO a b)).toArray 36)).heap.size := by simp
        have hwz : w.heap.size ≤ w5.heap.size := HB1.out.size
        have hcellsEq : ((w5.alloc (.cells #[.slice none 0 0] 25)).alloc (.cells #[.string ⟨#[113]⟩, .string (B b), .bool false, .string ⟨#[115]⟩, .string (B a), .bool true, .string ⟨#[114]⟩, .string (B a), .bool false] 36)) = ((w5.alloc (.cells #[.slice none 0 0] 25)).alloc (.cells (varsCells (apO a b)).toArray 36)) := rfl
        go_wp2_with fail
        clear hcellsEq
        have hl1 : (w5.alloc (.cells #[.slice none 0 0] 25)).heap.size = w5.heap.size + 1 := by simp
        rw [hl1] at HL
        generalize (w5.alloc (.cells #[.slice none 0 0] 25)).alloc (.cells (varsCells (apO a b)).toArray 36) = w2 at *
        go_loopw [12] (fun iv wr => ∃ (i : Nat) (A1 : Option Addr) (N1 C1 : Nat), iv = .int .i64 i ∧ i ≤ 3 ∧ Blk wr w5.heap.size 25 #[.slice A1 N1 C1] ∧ VR wr (.slice A1 N1 C1) (rowsV ((apO a b).take i)) ∧ Below w.heap.size w wr ∧ Lies wr (w5.heap.size + 1) 0 (apO a b))
          (fun iv wr => 3 - (intOf iv).toNat)
        case atStart => exact ⟨0, none, 0, 0, rfl, by omega, Q2.out, World.ownsRow_nil _ _ _ _, HB2.out, HL.out⟩
        case round =>
          obtain ⟨i, A1, N1, C1, rfl, hil2, hq, hvr, hb, hlies⟩ := hrel
          have HQ := Lib.hid hq
          have HVR := Lib.hid hvr
          have HB := Lib.hid hb
          have HLI := Lib.hid hlies
          have hj0 : (0 : Int) ≤ (i : Int) := by omega
          obtain ⟨c1, c2, c3⟩ := hq.c
          clear hq hvr hb hlies Q2 HL
          have hfine : ∀ x ∈ (apO a b).take i, rowFine x = true := fun x hx => by
            have := List.mem_of_mem_take hx
            simp [apO] at this
            rcases this with rfl | rfl | rfl <;> simp [rowFine, vQ, vR, vS] <;> omega
          obtain ⟨hord, hlen, _⟩ := rowsV_facts ((apO a b).take i) hfine
          have hN1 : N1 ≤ 100000000 := by have := HVR.out.parts.1; rw [List.length_take] at hlen; omega
          clear hfine hlen
          by_cases hlt2 : i < 3
          · have hj1 : (i : Int) < 3 := by omega
            obtain ⟨x, hx⟩ : ∃ x, (apO a b)[i]? = some x := ⟨(apO a b)[i]'(by simp [apO]; omega), List.getElem?_eq_getElem _⟩
            have HT : Hid ((apO a b).take (i + 1) = (apO a b).take i ++ [x]) := Lib.hid (by rw [List.take_add_one, hx]; rfl)
            obtain ⟨y1, y2, y3⟩ := HLI.out i x hx
            rw [Nat.zero_add] at y1 y2 y3
            have hset := set_any A1 N1 C1 (rowsV ((apO a b).take i)) x wr.drew (row_below HVR.out (below_drew wr)) hord hN1
            have hc7 := fun w7 (hb : Below wr.drew.heap.size wr.drew w7) => (Blk.below (w := wr.drew) HQ.out hb).c
            clear hx
            go_wp2_with fail
            go_region_with (go_at_call 27; refine hset.mono ?_; rintro e w7 ⟨A3, N3, C3, rfl, hv7, hb7⟩; obtain ⟨k1, k2, k3⟩ := hc7 w7 hb7)
            all_goals
              have HB7 := Lib.hid (below_then HB.out HB.out.size (below_then (below_drew wr) (Nat.le_refl _) hb7))
              have P2 := Lib.hid (Blk.below (w := wr.drew) HQ.out hb7)
              have HL7 := Lib.hid ((HLI.out.below (below_drew wr)).below hb7)
              have HV7 := Lib.hid hv7
              clear hv7 hb7 hc7 hset k1 k2 k3 c1 c2 c3 y1 y2 y3
              go_wp2_with fail
              go_roundw
              case rel =>
                refine ⟨i + 1, A3, N3, C3, by rw [Int.natCast_add]; rfl, by omega, P2.out.set_ 0 _, ?_, HB7.out.setCell (p := ⟨w5.heap.size, 0, none⟩) hwz _, ?_⟩
                · rw [HT.out, rowsV_snoc]
                  exact VR_far HV7.out P2.out (by decide) 0 _
                · exact HL7.out.far (by show w5.heap.size + 1 ≠ w5.heap.size; omega) _
              case measure => simp [intOf]; omega
          · obtain rfl : i = 3 := by omega
            have HV6 : Hid (VR wr (.slice A1 N1 C1) (ap0 a b)) := Lib.hid HVR.out
            have HB6 := HB
            clear HLI HVR hN1 hord
            have HA36 := Lib.hid HNS.out.1
            have HB36 := Lib.hid HNS.out.2.1
            have HC36 := Lib.hid HNS.out.2.2
            generalize wr = w6 at *
            have hcall := assign_any noCall noCall_owes noCall_fit (ap0 a b) A1 N1 C1 30 w6 vS [43, 61] (refB 113) _ HV6.out (ap0_env a b ha hb) (by decide) (HG.out.below HB6.out hgs) (by decide) (by decide) (ap_w noCall a b HB36.out hb)
            go_wp2_with fail
            refine hcall.mono ?_
            rintro e v6 ⟨hb6, A7, N7, C7, rfl, hv6⟩
            have HBv6 := Lib.hid (below_then HB6.out HB6.out.size hb6)
            have HV7 := Lib.hid (VR_alloc hv6 (.cells #[.slice A7 N7 C7] 25))
            have HB7 := Lib.hid (HBv6.out.alloc HBv6.out.size (.cells #[.slice A7 N7 C7] 25))
            have BX7 := Lib.hid (Blk.new v6 25 #[.slice A7 N7 C7] rfl)
            clear hcall hb6 hv6
            obtain ⟨c1, c2, c3⟩ := BX7.out.c
            have hcall := assign_any noCall noCall_owes noCall_fit (ap1 a b) A7 N7 C7 30 (v6.alloc (.cells #[.slice A7 N7 C7] 25)) vR [43, 61] (refB 113) _ HV7.out (ap1_env a b ha hb) (by decide) (HG.out.below HB7.out hgs) (by decide) (by decide) (ap_x noCall a b)
            go_wp2_with fail
            refine hcall.mono ?_
            rintro e v7 ⟨hb7, A8, N8, C8, rfl, hv7⟩
            have HBv7 := Lib.hid (below_then HB7.out HB7.out.size hb7)
            have HV8 := Lib.hid (VR_alloc hv7 (.cells #[.slice A8 N8 C8] 25))
            have HB8 := Lib.hid (HBv7.out.alloc HBv7.out.size (.cells #[.slice A8 N8 C8] 25))
            have BX8 := Lib.hid (Blk.new v7 25 #[.slice A8 N8 C8] rfl)
            clear hcall hb7 hv7
            obtain ⟨c1, c2, c3⟩ := BX8.out.c
            have hcall := assign_any noCall noCall_owes noCall_fit (ap2 a b) A8 N8 C8 30 (v7.alloc (.cells #[.slice A8 N8 C8] 25)) vQ [61] c _ HV8.out (ap2_env a b ha hb) (by decide) (HG.out.below HB8.out hgs) (by decide) (by omega) (ap_y noCall a b c)
            go_wp2_with fail
            refine hcall.mono ?_
            rintro e v8 ⟨hb8, A9, N9, C9, rfl, hv8⟩
            have HBv8 := Lib.hid (below_then HB8.out HB8.out.size hb8)
            have HV9 := Lib.hid (VR_alloc hv8 (.cells #[.slice A9 N9 C9] 25))
            have HB9 := Lib.hid (HBv8.out.alloc HBv8.out.size (.cells #[.slice A9 N9 C9] 25))
            have BX9 := Lib.hid (Blk.new v8 25 #[.slice A9 N9 C9] rfl)
            have BXx9 := Lib.hid ((BX8.out.below hb8).alloc (.cells #[.slice A9 N9 C9] 25))
            have HVx9 := Lib.hid (VR_alloc (row_below HV8.out hb8) (.cells #[.slice A9 N9 C9] 25))
            clear hcall hb8 hv8
            obtain ⟨c1, c2, c3⟩ := BX9.out.c
            have hcall := assign_any noCall noCall_owes noCall_fit (ap3 a b c) A9 N9 C9 30 (v8.alloc (.cells #[.slice A9 N9 C9] 25)) vN [43, 61] c _ HV9.out (ap3_env a b c ha hb hc) (by decide) (HG.out.below HB9.out hgs) (by decide) (by omega) (ap_z noCall a b c)
            go_wp2_with fail
            refine hcall.mono ?_
            rintro e v9 ⟨hb9, A10, N10, C10, rfl, hv9⟩
            have HBv9 := Lib.hid (below_then HB9.out HB9.out.size hb9)
            have HV10 := Lib.hid (VR_alloc hv9 (.cells #[.slice A10 N10 C10] 25))
            have HB10 := Lib.hid (HBv9.out.alloc HBv9.out.size (.cells #[.slice A10 N10 C10] 25))
            have BX10 := Lib.hid (Blk.new v9 25 #[.slice A10 N10 C10] rfl)
            have BXx10 := Lib.hid ((BXx9.out.below hb9).alloc (.cells #[.slice A10 N10 C10] 25))
            have HVx10 := Lib.hid (VR_alloc (row_below HVx9.out hb9) (.cells #[.slice A10 N10 C10] 25))
            clear hcall hb9 hv9
            have hcat1 : (B a ++ (⟨#[32]⟩ : ByteArray)) ++ B b = B (a ++ 32 :: b) := by
              rw [show (⟨#[32]⟩ : ByteArray) = B [32] from rfl, B_append, B_append]; simp
            have hcat2 : (B a ++ (⟨#[32]⟩ : ByteArray)) ++ B c = B (a ++ 32 :: c) := by
              rw [show (⟨#[32]⟩ : ByteArray) = B [32] from rfl, B_append, B_append]; simp
            obtain ⟨c1, c2, c3⟩ := BX10.out.c
            obtain ⟨d1, d2, d3⟩ := BXx10.out.c
            have hcall := of_any noCall noCall_owes noCall_fit (ap4 a b c) A10 N10 C10 30 _ (refB 115) _ HV10.out (ap4_env a b c ha hb hc) (by decide) (HG.out.below HB10.out hgs) (by decide) (ap_zs noCall a b c ha hb)
            unfold tx at hcall
            go_wp2_with fail
            refine hcall.mono ?_
            rintro e u1 ⟨rfl, hb1⟩
            have HBa := Lib.hid (below_then HB10.out HB10.out.size hb1)
            have BXa := Lib.hid (BX10.out.below hb1)
            have BXb := Lib.hid (BXx10.out.below hb1)
            have HVa := Lib.hid (row_below HV10.out hb1)
            have HVb := Lib.hid (row_below HVx10.out hb1)
            clear hcall hb1 c1 c2 c3 d1 d2 d3
            obtain ⟨c1, c2, c3⟩ := BXa.out.c
            obtain ⟨d1, d2, d3⟩ := BXb.out.c
            have hcall := of_any noCall noCall_owes noCall_fit (ap4 a b c) A10 N10 C10 30 u1 (refB 114) _ HVa.out (ap4_env a b c ha hb hc) (by decide) (HG.out.below HBa.out hgs) (by decide) (ap_r noCall (ap4 a b c) a c ha hc HA36.out HC36.out rfl rfl)
            unfold tx at hcall
            go_wp2_with fail
            refine hcall.mono ?_
            rintro e u2 ⟨rfl, hb1⟩
            have HBc1 := Lib.hid (below_then HBa.out HBa.out.size hb1)
            have BXc1 := Lib.hid (BXa.out.below hb1)
            have BXd1 := Lib.hid (BXb.out.below hb1)
            have HVc1 := Lib.hid (row_below HVa.out hb1)
            have HVd1 := Lib.hid (row_below HVb.out hb1)
            clear hcall hb1 c1 c2 c3 d1 d2 d3
            obtain ⟨c1, c2, c3⟩ := BXc1.out.c
            obtain ⟨d1, d2, d3⟩ := BXd1.out.c
            have hcall := of_any noCall noCall_owes noCall_fit (ap2 a b) A8 N8 C8 30 u2 (refB 114) _ HVd1.out (ap2_env a b ha hb) (by decide) (HG.out.below HBc1.out hgs) (by decide) (ap_r noCall (ap2 a b) a b ha hb HA36.out HB36.out rfl rfl)
            unfold tx at hcall
            go_wp2_with fail
            refine hcall.mono ?_
            rintro e u3 ⟨rfl, hb1⟩
            have HBc2 := Lib.hid (below_then HBc1.out HBc1.out.size hb1)
            have BXc2 := Lib.hid (BXc1.out.below hb1)
            have BXd2 := Lib.hid (BXd1.out.below hb1)
            have HVc2 := Lib.hid (row_below HVc1.out hb1)
            have HVd2 := Lib.hid (row_below HVd1.out hb1)
            clear hcall hb1 c1 c2 c3 d1 d2 d3
            obtain ⟨c1, c2, c3⟩ := BXc2.out.c
            obtain ⟨d1, d2, d3⟩ := BXd2.out.c
            have hcall := of_any noCall noCall_owes noCall_fit (ap4 a b c) A10 N10 C10 30 u3 (refB 110) _ HVc2.out (ap4_env a b c ha hb hc) (by decide) (HG.out.below HBc2.out hgs) (by decide) (ap_zn noCall a b c hc HC36.out)
            unfold tx at hcall
            go_wp2_with fail
            refine hcall.mono ?_
            rintro e u4 ⟨rfl, hb1⟩
            have HBc3 := Lib.hid (below_then HBc2.out HBc2.out.size hb1)
            have BXc3 := Lib.hid (BXc2.out.below hb1)
            have BXd3 := Lib.hid (BXd2.out.below hb1)
            have HVc3 := Lib.hid (row_below HVc2.out hb1)
            have HVd3 := Lib.hid (row_below HVd2.out hb1)
            clear hcall hb1 c1 c2 c3 d1 d2 d3
            go_wp2_with fail
            go_ret
            exact ⟨rfl, HBc3.out⟩
  · by_cases ha : a.length ≤ 200
    · have ha' : ¬ (200 : Int) < (a.length : Int) := by omega
      by_cases hb : b.length ≤ 200
      · have hb' : ¬ (200 : Int) < (b.length : Int) := by omega
        have hc' : (200 : Int) < (c.length : Int) := by omega
        go_wp2_with fail
        go_ret
        exact ⟨rfl, HB1.out⟩
      · have hb' : (200 : Int) < (b.length : Int) := by omega
        go_wp2_with fail
        go_ret
        exact ⟨rfl, HB1.out⟩
    · have ha' : (200 : Int) < (a.length : Int) := by omega
      go_wp2_with fail
      go_ret
      exact ⟨rfl, HB1.out⟩
end Go.Proofs.YtopkcgdfebkbaaaGreatDoor
