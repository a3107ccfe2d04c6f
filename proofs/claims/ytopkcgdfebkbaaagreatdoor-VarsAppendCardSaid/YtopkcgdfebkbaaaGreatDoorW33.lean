/- Walks: chapter 11's examples. -/
import Derived.Test.YtopkcgdfebkbaaaGreatDoorW31
import Derived.Test.YtopkcgdfebkbaaaGreatDoorW32
import Derived.Test.YtopkcgdfebkbaaaGreatDoorL1
set_option linter.unusedVariables false
set_option linter.unusedSimpArgs false
namespace Go.Proofs.YtopkcgdfebkbaaaGreatDoor
open Go.RowKit
attribute [local go_sem] B_size B_toList B_extract B_append drop_take_all

theorem noCall_owes : OwesC noCall := fun _ _ _ _ _ _ _ _ _ _ h => by cases h
theorem noCall_fit : CallFit noCall := fun _ _ _ h => by cases h

def shA : Var := ⟨[97], [120, 32, 36, 40, 98, 41], false⟩
def shB : Var := ⟨[98], [121], true⟩
def shS : Var := ⟨[115], [112, 46, 99, 32, 113, 46, 99], true⟩
def shF : Var := ⟨[102], [36, 40, 50, 41, 36, 40, 49, 41], false⟩
def shL : List Var := [shA, shB, shS, shF]
theorem shL_fine : rowsFine shL = true := by decide
theorem shL_rows : rowsV shL = shV := rfl
theorem shL_env : Env 30 shV := by rw [← shL_rows]; exact rowsV_env shL shL_fine

theorem lies_new (w : World) (l : List Var) : Lies (w.alloc (.cells (varsCells l).toArray 36)) w.heap.size 0 l := by
  intro k x hx
  obtain ⟨c1, c2, c3⟩ := varsCells_at l k x hx
  have hb := Blk.new w 36 (varsCells l).toArray (g := w.heap.size) rfl
  have h := fun j u (hj : (varsCells l)[j]? = some u) => (hb.c.1 j).trans (by simpa using hj)
  rw [Nat.zero_add]
  exact ⟨h _ _ c1, h _ _ c2, h _ _ c3⟩

set_option maxRecDepth 100000 in
set_option maxHeartbeats 2000000 in
theorem shown_any (w : World) (hg : Glob w) : Calls Tryz.prog 18 #[] w fun e w' => e = .returned (.bool true) ∧ Below w.heap.size w w' := by
  have HG := Lib.hid hg
  have hgs := hg.size
  clear hg
  have hrows := rows_any (some ⟨w.heap.size, 0, none⟩) w.heap.size 0 4 shL (w.alloc (.cells (varsCells shL).toArray 36)) (fun _ => rfl) (lies_new w shL) (by decide)
  have HB0 := Lib.hid ((Below.refl _ w).alloc (Nat.le_refl _) (.cells (varsCells shL).toArray 36))
  go_enter Tryz.func18, Tryz.ntmps18
  go_wp2_with fail
  refine Calls.mono (show Calls Tryz.prog 19 #[.slice (some ⟨w.heap.size, 0, none⟩) 4 4] (w.alloc (.cells (varsCells shL).toArray 36)) _ from hrows) ?_
  rintro e w1 ⟨hb1, A1, N1, C1, A2, N2, C2, rfl, hv⟩
  obtain ⟨hv1, hv2⟩ := hv shL_fine
  rw [shL_rows] at hv1
  rw [shL_fine]
  have HB1 := Lib.hid (below_then HB0.out HB0.out.size hb1)
  have HV1 := Lib.hid hv1
  clear hrows HB0 hb1 hv1 hv2 hv
  have HB2 := Lib.hid ((HB1.out.alloc HB1.out.size (.cells #[.slice A1 N1 C1] 25)).alloc (by simp; have := HB1.out.size; omega) (.cells #[.slice A2 N2 C2] 28))
  have BV := Lib.hid ((Blk.new w1 25 #[.slice A1 N1 C1] rfl).alloc (.cells #[.slice A2 N2 C2] 28))
  have HV2 := Lib.hid (VR_alloc (VR_alloc HV1.out (.cells #[.slice A1 N1 C1] 25)) (.cells #[.slice A2 N2 C2] 28))
  clear HV1
  obtain ⟨b1, b2, b3⟩ := BV.out.c
  have h1 := of_any noCall noCall_owes noCall_fit shV A1 N1 C1 30 _ sh1 _ HV2.out shL_env (by decide) (HG.out.below HB2.out hgs) (by decide) sh1_eq
  go_wp2_with fail
  refine h1.mono ?_
  rintro e w2 ⟨rfl, hb2⟩
  have HB3 := Lib.hid (below_then HB2.out HB2.out.size hb2)
  have BV3 := Lib.hid (BV.out.below hb2)
  have HV3 := Lib.hid (row_below HV2.out hb2)
  clear h1 hb2 b1 b2 b3 HB2 BV HV2
  obtain ⟨b1, b2, b3⟩ := BV3.out.c
  have h1 := of_any noCall noCall_owes noCall_fit shV A1 N1 C1 30 _ sh2 _ HV3.out shL_env (by decide) (HG.out.below HB3.out hgs) (by decide) sh2_eq
  unfold tx
  go_wp2_with fail
  refine h1.mono ?_
  rintro e w3 ⟨rfl, hb2⟩
  have HB4 := Lib.hid (below_then HB3.out HB3.out.size hb2)
  have BV4 := Lib.hid (BV3.out.below hb2)
  have HV4 := Lib.hid (row_below HV3.out hb2)
  clear h1 hb2 b1 b2 b3 HB3 BV3 HV3
  obtain ⟨b1, b2, b3⟩ := BV4.out.c
  have h1 := of_any noCall noCall_owes noCall_fit shV A1 N1 C1 30 _ sh3 _ HV4.out shL_env (by decide) (HG.out.below HB4.out hgs) (by decide) sh3_eq
  unfold tx
  go_wp2_with fail
  refine h1.mono ?_
  rintro e w4 ⟨rfl, hb2⟩
  have HB5 := Lib.hid (below_then HB4.out HB4.out.size hb2)
  have BV5 := Lib.hid (BV4.out.below hb2)
  have HV5 := Lib.hid (row_below HV4.out hb2)
  clear h1 hb2 b1 b2 b3 HB4 BV4 HV4
  obtain ⟨b1, b2, b3⟩ := BV5.out.c
  have h1 := of_any noCall noCall_owes noCall_fit shV A1 N1 C1 30 _ sh4 _ HV5.out shL_env (by decide) (HG.out.below HB5.out hgs) (by decide) sh4_eq
  unfold tx
  go_wp2_with fail
  refine h1.mono ?_
  rintro e w5 ⟨rfl, hb2⟩
  have HB6 := Lib.hid (below_then HB5.out HB5.out.size hb2)
  unfold tx
  go_wp2_with fail
  go_ret
  exact ⟨rfl, HB6.out⟩
end Go.Proofs.YtopkcgdfebkbaaaGreatDoor
