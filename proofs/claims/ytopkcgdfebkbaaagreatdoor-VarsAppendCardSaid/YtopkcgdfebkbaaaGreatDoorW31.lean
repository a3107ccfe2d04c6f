/- Walks: Assign. -/
import Derived.Test.YtopkcgdfebkbaaaGreatDoorW30
set_option linter.unusedVariables false
set_option linter.unusedSimpArgs false
namespace Go.Proofs.YtopkcgdfebkbaaaGreatDoor
open Go.RowKit
attribute [local go_sem] B_size B_toList B_extract B_append drop_take_all

/-- What Assign answers. -/
def assignPost (w : World) (r : Except Nat (List Var)) (e : Ending) (w' : World) : Prop :=
  Below w.heap.size w w' ∧ (match r with
    | .error x => e = .returned (.tuple #[.agg #[.slice none 0 0], .int .i64 x])
    | .ok u => ∃ A' N' C', e = .returned (.tuple #[.agg #[.slice A' N' C'], .int .i64 0]) ∧ VR w' (.slice A' N' C') u)

set_option maxRecDepth 100000 in
set_option maxHeartbeats 4000000 in
theorem assign_any (cf : CallF) (hC : OwesC cf) (hcf : CallFit cf) (v : List Var) (A : Option Addr) (N C K : Nat) (w : World) (name op s : Bytes) (r : Except Nat (List Var)) (hv : VR w (.slice A N C) v) (henv : Env K v) (hK : K ≤ 9000) (hg : Glob w)
    (hnl : name.length ≤ 100000) (hs : s.length ≤ 100000) (hf : assignB cf v name op s = some r) :
    Calls Tryz.prog 25 #[.agg #[.slice A N C], .string (B name), .string (B op), .string (B s)] w fun e w' => assignPost w r e w' := by
  have HV := Lib.hid hv
  have HENV := Lib.hid henv
  have hN2 : N ≤ 100000000 := by have := hv.parts.1; have := henv.len; omega
  have HG := Lib.hid hg
  have hgs := hg.size
  have HF := Lib.hid hf
  have HX := Lib.hid (fun W (hb : Below w.heap.size w W) (r : Except Nat Bytes) (h : expandB cf v s = some r) => expandAll_any cf hC hcf v A N C K W s r (row_below hv hb) henv hK (hg.below hb hgs) hs h)
  have HFI := Lib.hid (fun r (h : expandB cf v s = some r) => expandB_fine hcf henv hs h)
  have HTX := Lib.hid henv.txt
  have BT4 := Lib.hid ((Blk.new w 25 #[.slice A N C] rfl).alloc (.cells #[.slice none 0 0] 25))
  have BT8 := Lib.hid (Blk.new (w.alloc (.cells #[.slice A N C] 25)) 25 #[.slice none 0 0] (g := w.heap.size + 1) (by simp))
  have HB0 := Lib.hid (((Below.refl _ w).alloc (Nat.le_refl _) (.cells #[.slice A N C] 25)).alloc (by simp) (.cells #[.slice none 0 0] 25))
  have hsz0 : w.heap.size + 1 < ((w.alloc (.cells #[.slice A N C] 25)).alloc (.cells #[.slice none 0 0] 25)).heap.size := by simp
  clear hv henv hg hf
  go_enter Tryz.func25, Tryz.ntmps25
  go_wp2_with fail
  generalize (w.alloc (.cells #[.slice A N C] 25)).alloc (.cells #[.slice none 0 0] 25) = w0 at *
  refine (name_any name w0 (by omega)).mono ?_
  rintro e w1 ⟨rfl, hb1⟩
  have HB1 := Lib.hid (below_then HB0.out HB0.out.size hb1)
  have BT41 := Lib.hid (BT4.out.below hb1)
  have BT81 := Lib.hid (BT8.out.below hb1)
  clear hb1 BT4 BT8 HB0
  have hsz1 : w.heap.size + 1 < w1.heap.size := BT81.out.lt
  cases hnb : nameB name with
  | false =>
    have HR : Hid (r = .error 1) := Lib.hid (by have := HF.out; unfold assignB at this; rw [hnb, if_neg (by decide)] at this; injection this with this; exact this.symm)
    obtain ⟨f1, f2, f3⟩ := BT81.out.c
    go_wp2_with fail
    refine bodyPost_ret (v := .tuple #[.agg #[.slice none 0 0], .int .i64 1]) (by simp [results, Tryz.results25, go_sem, f1, f2]) rfl ?_
    rw [HR.out]
    exact ⟨HB1.out.setCell (by show w.heap.size ≤ w.heap.size + 1; omega) _, rfl⟩
  | true =>
    have HF2 : Hid ((if op = [61] then some (.ok (insV ⟨name, s, false⟩ v))
      else if op = [58, 61] then (expandB cf v s).map (mapE fun t => insV ⟨name, t, true⟩ v)
      else if op = [63, 61] then some (.ok (if (getV v name).isSome = true then v else insV ⟨name, s, false⟩ v))
      else if op = [43, 61] then
        match getV v name with
        | none => some (.ok (insV ⟨name, s, false⟩ v))
        | some old =>
          if old.simple = true then (expandB cf v s).map (mapE fun t => insV ⟨name, old.text ++ 32 :: t, true⟩ v)
          else some (.ok (insV ⟨name, old.text ++ 32 :: s, false⟩ v))
      else some (.error 1)) = some r) := Lib.hid (by have := HF.out; unfold assignB at this; rwa [hnb, if_pos rfl] at this)
    clear HF hnb
    obtain ⟨f1, f2, f3⟩ := BT41.out.c
    go_wp2_with fail
    refine (get_any A N C v name w1 (row_below HV.out HB1.out)).mono ?_
    rintro e w2 ⟨rfl, hb2⟩
    have HO := Lib.hid (fun x (h : getV v name = some x) => HTX.out x (getV_mem h))
    obtain ⟨old, hold⟩ : ∃ old, getV v name = old := ⟨_, rfl⟩
    rw [hold] at HF2 HO
    rw [hold]
    have HB2 := Lib.hid (below_then HB1.out HB1.out.size hb2)
    have BT42 := Lib.hid (BT41.out.below hb2)
    have BT82 := Lib.hid (BT81.out.below hb2)
    clear hb2 BT41 BT81 HB1 f1 f2 f3 hold
    have hsz2 : w.heap.size + 1 < w2.heap.size := BT82.out.lt
    obtain ⟨on, ot, os, hvr, hcase⟩ : ∃ on ot os, vrV old = .agg #[.string (B on), .string (B ot), .bool os] ∧ ((old = none ∧ ot = [] ∧ os = false) ∨ ∃ y, old = some y ∧ ot = y.text ∧ os = y.simple) := by
      cases old with
      | none => exact ⟨[], [], false, rfl, .inl ⟨rfl, rfl, rfl⟩⟩
      | some y => exact ⟨y.name, y.text, y.simple, rfl, .inr ⟨y, rfl, rfl, rfl⟩⟩
    have HCASE := Lib.hid hcase
    rw [hvr]
    clear hvr hcase
    have BO := Lib.hid ((Blk.new w2 36 #[.string (B on), .string (B ot), .bool os] rfl).alloc (.cells #[.string (B name), .string (B s), .bool false] 36))
    have BN := Lib.hid (Blk.new (w2.alloc (.cells #[.string (B on), .string (B ot), .bool os] 36)) 36 #[.string (B name), .string (B s), .bool false] (g := w2.heap.size + 1) (by simp))
    have HB3 := Lib.hid ((HB2.out.alloc HB2.out.size (.cells #[.string (B on), .string (B ot), .bool os] 36)).alloc (by simp; omega) (.cells #[.string (B name), .string (B s), .bool false] 36))
    have BT43 := Lib.hid ((BT42.out.alloc (.cells #[.string (B on), .string (B ot), .bool os] 36)).alloc (.cells #[.string (B name), .string (B s), .bool false] 36))
    have BT83 := Lib.hid ((BT82.out.alloc (.cells #[.string (B on), .string (B ot), .bool os] 36)).alloc (.cells #[.string (B name), .string (B s), .bool false] 36))
    have hsz3 : w2.heap.size + 1 < ((w2.alloc (.cells #[.string (B on), .string (B ot), .bool os] 36)).alloc (.cells #[.string (B name), .string (B s), .bool false] 36)).heap.size := by simp
    obtain ⟨f1, f2, f3⟩ := BT43.out.c
    obtain ⟨n1, n2, n3⟩ := BN.out.c
    obtain ⟨o1, o2, o3⟩ := BO.out.c
    obtain ⟨t1, t2, t3⟩ := BT83.out.c
    by_cases h1 : op = [61]
    · have HR : Hid (r = .ok (insV ⟨name, s, false⟩ v)) := Lib.hid (by have := HF2.out; rw [if_pos h1] at this; injection this with this; exact this.symm)
      subst h1
      clear HF2
      go_wp2_with fail
      refine (set_any A N C v ⟨name, s, false⟩ ((w2.alloc (.cells #[.string (B on), .string (B ot), .bool os] 36)).alloc (.cells #[.string (B name), .string (B s), .bool false] 36)) (row_below HV.out HB3.out) HENV.out.ord hN2).mono ?_
      rintro e w9 ⟨A', N', C', rfl, hv9, hb9⟩
      have HB9 := Lib.hid (below_then HB3.out HB3.out.size hb9)
      have HV9 := Lib.hid hv9
      have BT89 := Lib.hid (BT83.out.below hb9)
      clear hv9 hb9 f1 f2 f3 n1 n2 n3 o1 o2 o3 t1 t2 t3
      obtain ⟨t1, t2, t3⟩ := BT89.out.c
      go_wp2_with fail
      refine bodyPost_ret (v := .tuple #[.agg #[.slice A' N' C'], .int .i64 0]) (by simp [results, Tryz.results25, go_sem, t1, t2]) rfl ?_
      rw [HR.out]
      exact ⟨HB9.out.setCell (by show w.heap.size ≤ w.heap.size + 1; omega) _, A', N', C', rfl, VR_far HV9.out BT89.out (by decide) 0 _⟩
    · rw [if_neg h1] at HF2
      have e1 : (op == [61]) = false := by simpa using h1
      by_cases h2 : op = [58, 61]
      · subst h2
        rw [if_pos rfl] at HF2
        obtain ⟨q, hq, hqr⟩ := Option.map_eq_some_iff.1 HF2.out
        obtain ⟨nq, _, hfine⟩ := HFI.out q hq
        have HFN := Lib.hid hfine
        have HQR := Lib.hid hqr
        clear HF2 hqr hfine
        have BO4 := Lib.hid ((Blk.new w2 36 #[.string (B on), .string (B ot), .bool os] rfl).alloc (.cells #[.string (B name), .string (B s), .bool true] 36))
        have BN4 := Lib.hid (Blk.new (w2.alloc (.cells #[.string (B on), .string (B ot), .bool os] 36)) 36 #[.string (B name), .string (B s), .bool true] (g := w2.heap.size + 1) (by simp))
        have HB4 := Lib.hid ((HB2.out.alloc HB2.out.size (.cells #[.string (B on), .string (B ot), .bool os] 36)).alloc (by simp; omega) (.cells #[.string (B name), .string (B s), .bool true] 36))
        have BT44 := Lib.hid ((BT42.out.alloc (.cells #[.string (B on), .string (B ot), .bool os] 36)).alloc (.cells #[.string (B name), .string (B s), .bool true] 36))
        have BT84 := Lib.hid ((BT82.out.alloc (.cells #[.string (B on), .string (B ot), .bool os] 36)).alloc (.cells #[.string (B name), .string (B s), .bool true] 36))
        obtain ⟨f1, f2, f3⟩ := BT44.out.c
        clear n1 n2 n3 o1 o2 o3 t1 t2 t3
        go_wp2_with fail
        generalize (w2.alloc (.cells #[.string (B on), .string (B ot), .bool os] 36)).alloc (.cells #[.string (B name), .string (B s), .bool true] 36) = w4 at *
        have hcall := HX.out w4 HB4.out q hq
        clear hq
        refine hcall.mono ?_
        rintro e w5 ⟨rfl, hb5⟩
        unfold resV
        have HB5 := Lib.hid (below_then HB4.out HB4.out.size hb5)
        have BN5 := Lib.hid (BN4.out.below hb5)
        have BT45 := Lib.hid (BT44.out.below hb5)
        have BT85 := Lib.hid (BT84.out.below hb5)
        have BO5 := Lib.hid (BO4.out.below hb5)
        clear hb5 hcall f1 f2 f3
        obtain ⟨f1, f2, f3⟩ := BT45.out.c
        obtain ⟨n1, n2, n3⟩ := BN5.out.c
        obtain ⟨o1, o2, o3⟩ := BO5.out.c
        obtain ⟨t1, t2, t3⟩ := BT85.out.c
        cases q with
        | error x =>
          have HR : Hid (r = .error x) := Lib.hid HQR.out.symm
          have he0 : ((x : Int) != 0) = true := by have := HFN.out.1; simp; omega
          simp only [tx, er]
          go_wp2_with fail
          refine bodyPost_ret (v := .tuple #[.agg #[.slice none 0 0], .int .i64 x]) (by simp [results, Tryz.results25, go_sem, t1, t2]) rfl ?_
          rw [HR.out]
          exact ⟨HB5.out.setCell (by show w.heap.size ≤ w.heap.size + 1; omega) _, rfl⟩
        | ok t =>
          have HR : Hid (r = .ok (insV ⟨name, t, true⟩ v)) := Lib.hid HQR.out.symm
          simp only [tx, er]
          have HB6 := Lib.hid (HB5.out.setCell (p := ⟨w2.heap.size + 1, 1, none⟩) (by show w.heap.size ≤ w2.heap.size + 1; omega) (.string (B t)))
          have BN6 := Lib.hid (BN5.out.set_ 1 (.string (B t)))
          have BT46 := Lib.hid (BT45.out.far (p := ⟨w2.heap.size + 1, 1, none⟩) (by show w.heap.size ≠ w2.heap.size + 1; omega) (.string (B t)))
          have BT86 := Lib.hid (BT85.out.far (p := ⟨w2.heap.size + 1, 1, none⟩) (by show w.heap.size + 1 ≠ w2.heap.size + 1; omega) (.string (B t)))
          have BO6 := Lib.hid (BO5.out.far (p := ⟨w2.heap.size + 1, 1, none⟩) (by show w2.heap.size ≠ w2.heap.size + 1; omega) (.string (B t)))
          clear f1 f2 f3 n1 n2 n3 o1 o2 o3 t1 t2 t3
          obtain ⟨f1, f2, f3⟩ := BT45.out.c
          obtain ⟨n1, n2, n3⟩ := BN5.out.c
          obtain ⟨o1, o2, o3⟩ := BO5.out.c
          obtain ⟨t1, t2, t3⟩ := BT85.out.c
          obtain ⟨f1, f2, f3⟩ := BT46.out.c
          obtain ⟨n1, n2, n3⟩ := BN6.out.c
          obtain ⟨o1, o2, o3⟩ := BO6.out.c
          obtain ⟨t1, t2, t3⟩ := BT86.out.c
          go_wp2_with fail
          refine (set_any A N C v ⟨name, t, true⟩ _ (row_below HV.out HB6.out) HENV.out.ord hN2).mono ?_
          rintro e w9 ⟨A', N', C', rfl, hv9, hb9⟩
          have HB9 := Lib.hid (below_then HB6.out HB6.out.size hb9)
          have HV9 := Lib.hid hv9
          have BT89 := Lib.hid (BT86.out.below hb9)
          clear hv9 hb9 f1 f2 f3 n1 n2 n3 o1 o2 o3 t1 t2 t3
          obtain ⟨t1, t2, t3⟩ := BT89.out.c
          go_wp2_with fail
          refine bodyPost_ret (v := .tuple #[.agg #[.slice A' N' C'], .int .i64 0]) (by simp [results, Tryz.results25, go_sem, t1, t2]) rfl ?_
          rw [HR.out]
          exact ⟨HB9.out.setCell (by show w.heap.size ≤ w.heap.size + 1; omega) _, A', N', C', rfl, VR_far HV9.out BT89.out (by decide) 0 _⟩
      · rw [if_neg h2] at HF2
        have e2 : (op == [58, 61]) = false := by simpa using h2
        by_cases h3 : op = [63, 61]
        · subst h3
          rw [if_pos rfl] at HF2
          cases hso : old.isSome with
          | true =>
            have HR : Hid (r = .ok v) := Lib.hid (by have := HF2.out; rw [hso, if_pos rfl] at this; injection this with this; exact this.symm)
            clear HF2
            go_wp2_with fail
            refine bodyPost_ret (v := .tuple #[.agg #[.slice A N C], .int .i64 0]) (by simp [results, Tryz.results25, go_sem, t1, t2]) rfl ?_
            rw [HR.out]
            exact ⟨HB3.out.setCell (by show w.heap.size ≤ w.heap.size + 1; omega) _, A, N, C, rfl, VR_far (row_below HV.out HB3.out) BT83.out (by decide) 0 _⟩
          | false =>
            have HR : Hid (r = .ok (insV ⟨name, s, false⟩ v)) := Lib.hid (by have := HF2.out; rw [hso, if_neg (by decide)] at this; injection this with this; exact this.symm)
            clear HF2
            go_wp2_with fail
            refine (set_any A N C v ⟨name, s, false⟩ ((w2.alloc (.cells #[.string (B on), .string (B ot), .bool os] 36)).alloc (.cells #[.string (B name), .string (B s), .bool false] 36)) (row_below HV.out HB3.out) HENV.out.ord hN2).mono ?_
            rintro e w9 ⟨A', N', C', rfl, hv9, hb9⟩
            have HB9 := Lib.hid (below_then HB3.out HB3.out.size hb9)
            have HV9 := Lib.hid hv9
            have BT89 := Lib.hid (BT83.out.below hb9)
            clear hv9 hb9 f1 f2 f3 n1 n2 n3 o1 o2 o3 t1 t2 t3
            obtain ⟨t1, t2, t3⟩ := BT89.out.c
            go_wp2_with fail
            refine bodyPost_ret (v := .tuple #[.agg #[.slice A' N' C'], .int .i64 0]) (by simp [results, Tryz.results25, go_sem, t1, t2]) rfl ?_
            rw [HR.out]
            exact ⟨HB9.out.setCell (by show w.heap.size ≤ w.heap.size + 1; omega) _, A', N', C', rfl, VR_far HV9.out BT89.out (by decide) 0 _⟩
        · rw [if_neg h3] at HF2
          have e3 : (op == [63, 61]) = false := by simpa using h3
          by_cases h4 : op = [43, 61]
          · subst h4
            rw [if_pos rfl] at HF2
            cases os with
            | false =>
              have BOa := Lib.hid ((Blk.new w2 36 #[.string (B on), .string (B ot), .bool false] rfl).alloc (.cells #[.string (B name), .string (B s), .bool false] 36))
              have BNa := Lib.hid (Blk.new (w2.alloc (.cells #[.string (B on), .string (B ot), .bool false] 36)) 36 #[.string (B name), .string (B s), .bool false] (g := w2.heap.size + 1) (by simp))
              have HBa := Lib.hid ((HB2.out.alloc HB2.out.size (.cells #[.string (B on), .string (B ot), .bool false] 36)).alloc (by simp; omega) (.cells #[.string (B name), .string (B s), .bool false] 36))
              have BTa := Lib.hid ((BT42.out.alloc (.cells #[.string (B on), .string (B ot), .bool false] 36)).alloc (.cells #[.string (B name), .string (B s), .bool false] 36))
              have BTb := Lib.hid ((BT82.out.alloc (.cells #[.string (B on), .string (B ot), .bool false] 36)).alloc (.cells #[.string (B name), .string (B s), .bool false] 36))
              clear n1 n2 n3 o1 o2 o3 t1 t2 t3 f1 f2 f3
              obtain ⟨o1, o2, o3⟩ := BOa.out.c
              obtain ⟨n1, n2, n3⟩ := BNa.out.c
              go_wp2_with fail
              go_region
              have HB4 := Lib.hid HBa.out.drew
              have BN4 := Lib.hid BNa.out.drew
              have BT44 := Lib.hid BTa.out.drew
              have BT84 := Lib.hid BTb.out.drew
              have BO4 := Lib.hid BOa.out.drew
              generalize ((w2.alloc (.cells #[.string (B on), .string (B ot), .bool false] 36)).alloc (.cells #[.string (B name), .string (B s), .bool false] 36)).drew = w4 at *
              clear o1 o2 o3 n1 n2 n3
              obtain ⟨f1, f2, f3⟩ := BT44.out.c
              obtain ⟨n1, n2, n3⟩ := BN4.out.c
              obtain ⟨o1, o2, o3⟩ := BO4.out.c
              obtain ⟨t1, t2, t3⟩ := BT84.out.c
              rcases HCASE.out with ⟨rfl, rfl, _⟩ | ⟨y, rfl, rfl, hys⟩
              · have HR : Hid (r = .ok (insV ⟨name, s, false⟩ v)) := Lib.hid (by have := HF2.out; injection this with this; exact this.symm)
                go_wp2_with fail
                refine (set_any A N C v ⟨name, s, false⟩ _ (row_below HV.out HB4.out) HENV.out.ord hN2).mono ?_
                rintro e w9 ⟨A', N', C', rfl, hv9, hb9⟩
                have HB9 := Lib.hid (below_then HB4.out HB4.out.size hb9)
                have HV9 := Lib.hid hv9
                have BT89 := Lib.hid (BT84.out.below hb9)
                clear hv9 hb9 f1 f2 f3 n1 n2 n3 o1 o2 o3 t1 t2 t3
                obtain ⟨t1, t2, t3⟩ := BT89.out.c
                go_wp2_with fail
                refine bodyPost_ret (v := .tuple #[.agg #[.slice A' N' C'], .int .i64 0]) (by simp [results, Tryz.results25, go_sem, t1, t2]) rfl ?_
                rw [HR.out]
                exact ⟨HB9.out.setCell (by show w.heap.size ≤ w.heap.size + 1; omega) _, A', N', C', rfl, VR_far HV9.out BT89.out (by decide) 0 _⟩
              · have HR : Hid (r = .ok (insV ⟨name, y.text ++ 32 :: s, false⟩ v)) := Lib.hid (by have := HF2.out; simp only [← hys] at this; injection this with this; exact this.symm)
                have hyt := HO.out y rfl
                have hcat : (B y.text ++ (⟨#[32]⟩ : ByteArray)) ++ B s = B (y.text ++ 32 :: s) := by
                  rw [show (⟨#[32]⟩ : ByteArray) = B [32] from rfl, B_append, B_append]; simp
                clear hys
                have HB6 := Lib.hid (HB4.out.setCell (p := ⟨w2.heap.size + 1, 1, none⟩) (by show w.heap.size ≤ w2.heap.size + 1; omega) (.string (B (y.text ++ 32 :: s))))
                have BN6 := Lib.hid (BN4.out.set_ 1 (.string (B (y.text ++ 32 :: s))))
                have BT46 := Lib.hid (BT44.out.far (p := ⟨w2.heap.size + 1, 1, none⟩) (by show w.heap.size ≠ w2.heap.size + 1; omega) (.string (B (y.text ++ 32 :: s))))
                have BT86 := Lib.hid (BT84.out.far (p := ⟨w2.heap.size + 1, 1, none⟩) (by show w.heap.size + 1 ≠ w2.heap.size + 1; omega) (.string (B (y.text ++ 32 :: s))))
                have BO6 := Lib.hid (BO4.out.far (p := ⟨w2.heap.size + 1, 1, none⟩) (by show w2.heap.size ≠ w2.heap.size + 1; omega) (.string (B (y.text ++ 32 :: s))))
                obtain ⟨f1, f2, f3⟩ := BT46.out.c
                obtain ⟨n1, n2, n3⟩ := BN6.out.c
                obtain ⟨o1, o2, o3⟩ := BO6.out.c
                obtain ⟨t1, t2, t3⟩ := BT86.out.c
                go_wp2_with fail
                refine (set_any A N C v ⟨name, y.text ++ 32 :: s, false⟩ _ (row_below HV.out HB6.out) HENV.out.ord hN2).mono ?_
                rintro e w9 ⟨A', N', C', rfl, hv9, hb9⟩
                have HB9 := Lib.hid (below_then HB6.out HB6.out.size hb9)
                have HV9 := Lib.hid hv9
                have BT89 := Lib.hid (BT86.out.below hb9)
                clear hv9 hb9 f1 f2 f3 n1 n2 n3 o1 o2 o3 t1 t2 t3
                obtain ⟨t1, t2, t3⟩ := BT89.out.c
                go_wp2_with fail
                refine bodyPost_ret (v := .tuple #[.agg #[.slice A' N' C'], .int .i64 0]) (by simp [results, Tryz.results25, go_sem, t1, t2]) rfl ?_
                rw [HR.out]
                exact ⟨HB9.out.setCell (by show w.heap.size ≤ w.heap.size + 1; omega) _, A', N', C', rfl, VR_far HV9.out BT89.out (by decide) 0 _⟩
            | true =>
              rcases HCASE.out with ⟨_, _, h⟩ | ⟨y, rfl, rfl, hys⟩
              · cases h
              · have hmp : (expandB cf v s).map (mapE fun t => insV ⟨name, y.text ++ 32 :: t, true⟩ v) = some r := by
                  have := HF2.out
                  simp only [← hys, if_true] at this
                  exact this
                obtain ⟨q, hq, hqr⟩ := Option.map_eq_some_iff.1 hmp
                obtain ⟨nq, _, hfine⟩ := HFI.out q hq
                have HFN := Lib.hid hfine
                have HQR := Lib.hid hqr
                have HQ := Lib.hid hq
                clear HF2 hqr hfine hys hmp hq
                have BOa := Lib.hid ((Blk.new w2 36 #[.string (B on), .string (B y.text), .bool true] rfl).alloc (.cells #[.string (B name), .string (B s), .bool true] 36))
                have BNa := Lib.hid (Blk.new (w2.alloc (.cells #[.string (B on), .string (B y.text), .bool true] 36)) 36 #[.string (B name), .string (B s), .bool true] (g := w2.heap.size + 1) (by simp))
                have HBa := Lib.hid ((HB2.out.alloc HB2.out.size (.cells #[.string (B on), .string (B y.text), .bool true] 36)).alloc (by simp; omega) (.cells #[.string (B name), .string (B s), .bool true] 36))
                have BTa := Lib.hid ((BT42.out.alloc (.cells #[.string (B on), .string (B y.text), .bool true] 36)).alloc (.cells #[.string (B name), .string (B s), .bool true] 36))
                have BTb := Lib.hid ((BT82.out.alloc (.cells #[.string (B on), .string (B y.text), .bool true] 36)).alloc (.cells #[.string (B name), .string (B s), .bool true] 36))
                clear n1 n2 n3 o1 o2 o3 t1 t2 t3 f1 f2 f3
                obtain ⟨o1, o2, o3⟩ := BOa.out.c
                obtain ⟨n1, n2, n3⟩ := BNa.out.c
                go_wp2_with fail
                go_region
                have HB4 := Lib.hid HBa.out.drew
                have BN4 := Lib.hid BNa.out.drew
                have BT44 := Lib.hid BTa.out.drew
                have BT84 := Lib.hid BTb.out.drew
                have BO4 := Lib.hid BOa.out.drew
                generalize ((w2.alloc (.cells #[.string (B on), .string (B y.text), .bool true] 36)).alloc (.cells #[.string (B name), .string (B s), .bool true] 36)).drew = w4 at *
                clear o1 o2 o3 n1 n2 n3
                obtain ⟨f1, f2, f3⟩ := BT44.out.c
                obtain ⟨n1, n2, n3⟩ := BN4.out.c
                obtain ⟨o1, o2, o3⟩ := BO4.out.c
                obtain ⟨t1, t2, t3⟩ := BT84.out.c
                have hcall := HX.out w4 HB4.out q HQ.out
                go_wp2_with fail
                refine hcall.mono ?_
                rintro e w5 ⟨rfl, hb5⟩
                unfold resV
                have HB5 := Lib.hid (below_then HB4.out HB4.out.size hb5)
                have BN5 := Lib.hid (BN4.out.below hb5)
                have BT45 := Lib.hid (BT44.out.below hb5)
                have BT85 := Lib.hid (BT84.out.below hb5)
                have BO5 := Lib.hid (BO4.out.below hb5)
                clear hb5 hcall
                clear f1 f2 f3 n1 n2 n3 o1 o2 o3 t1 t2 t3
                obtain ⟨f1, f2, f3⟩ := BT45.out.c
                obtain ⟨n1, n2, n3⟩ := BN5.out.c
                obtain ⟨o1, o2, o3⟩ := BO5.out.c
                obtain ⟨t1, t2, t3⟩ := BT85.out.c
                cases q with
                | error x =>
                  have HR : Hid (r = .error x) := Lib.hid HQR.out.symm
                  have he0 : ((x : Int) != 0) = true := by have := HFN.out.1; simp; omega
                  simp only [tx, er]
                  go_wp2_with fail
                  refine bodyPost_ret (v := .tuple #[.agg #[.slice none 0 0], .int .i64 x]) (by simp [results, Tryz.results25, go_sem, t1, t2]) rfl ?_
                  rw [HR.out]
                  exact ⟨HB5.out.setCell (by show w.heap.size ≤ w.heap.size + 1; omega) _, rfl⟩
                | ok t =>
                  have HR : Hid (r = .ok (insV ⟨name, y.text ++ 32 :: t, true⟩ v)) := Lib.hid HQR.out.symm
                  simp only [tx, er]
                  have hyt := HO.out y rfl
                  have hty : t.length ≤ 4000 := HFN.out.1
                  have hcat : (B y.text ++ (⟨#[32]⟩ : ByteArray)) ++ B t = B (y.text ++ 32 :: t) := by
                    rw [show (⟨#[32]⟩ : ByteArray) = B [32] from rfl, B_append, B_append]; simp
                  have HB6 := Lib.hid (HB5.out.setCell (p := ⟨w2.heap.size + 1, 1, none⟩) (by show w.heap.size ≤ w2.heap.size + 1; omega) (.string (B t)))
                  have BN6 := Lib.hid (BN5.out.set_ 1 (.string (B t)))
                  have BT46 := Lib.hid (BT45.out.far (p := ⟨w2.heap.size + 1, 1, none⟩) (by show w.heap.size ≠ w2.heap.size + 1; omega) (.string (B t)))
                  have BT86 := Lib.hid (BT85.out.far (p := ⟨w2.heap.size + 1, 1, none⟩) (by show w.heap.size + 1 ≠ w2.heap.size + 1; omega) (.string (B t)))
                  have BO6 := Lib.hid (BO5.out.far (p := ⟨w2.heap.size + 1, 1, none⟩) (by show w2.heap.size ≠ w2.heap.size + 1; omega) (.string (B t)))
                  have HB7 := Lib.hid (HB6.out.setCell (p := ⟨w2.heap.size + 1, 1, none⟩) (by show w.heap.size ≤ w2.heap.size + 1; omega) (.string (B (y.text ++ 32 :: t))))
                  have BN7 := Lib.hid (BN6.out.set_ 1 (.string (B (y.text ++ 32 :: t))))
                  have BT47 := Lib.hid (BT46.out.far (p := ⟨w2.heap.size + 1, 1, none⟩) (by show w.heap.size ≠ w2.heap.size + 1; omega) (.string (B (y.text ++ 32 :: t))))
                  have BT87 := Lib.hid (BT86.out.far (p := ⟨w2.heap.size + 1, 1, none⟩) (by show w.heap.size + 1 ≠ w2.heap.size + 1; omega) (.string (B (y.text ++ 32 :: t))))
                  have BO7 := Lib.hid (BO6.out.far (p := ⟨w2.heap.size + 1, 1, none⟩) (by show w2.heap.size ≠ w2.heap.size + 1; omega) (.string (B (y.text ++ 32 :: t))))
                  clear f1 f2 f3 n1 n2 n3 o1 o2 o3 t1 t2 t3
                  obtain ⟨f1, f2, f3⟩ := BT45.out.c
                  obtain ⟨n1, n2, n3⟩ := BN5.out.c
                  obtain ⟨o1, o2, o3⟩ := BO5.out.c
                  obtain ⟨t1, t2, t3⟩ := BT85.out.c
                  obtain ⟨f1, f2, f3⟩ := BT46.out.c
                  obtain ⟨n1, n2, n3⟩ := BN6.out.c
                  obtain ⟨o1, o2, o3⟩ := BO6.out.c
                  obtain ⟨t1, t2, t3⟩ := BT86.out.c
                  obtain ⟨f1, f2, f3⟩ := BT47.out.c
                  obtain ⟨n1, n2, n3⟩ := BN7.out.c
                  obtain ⟨o1, o2, o3⟩ := BO7.out.c
                  obtain ⟨t1, t2, t3⟩ := BT87.out.c
                  go_wp2_with fail
                  refine (set_any A N C v ⟨name, y.text ++ 32 :: t, true⟩ _ (row_below HV.out HB7.out) HENV.out.ord hN2).mono ?_
                  rintro e w9 ⟨A', N', C', rfl, hv9, hb9⟩
                  have HB9 := Lib.hid (below_then HB7.out HB7.out.size hb9)
                  have HV9 := Lib.hid hv9
                  have BT89 := Lib.hid (BT87.out.below hb9)
                  clear hv9 hb9 f1 f2 f3 n1 n2 n3 o1 o2 o3 t1 t2 t3
                  obtain ⟨t1, t2, t3⟩ := BT89.out.c
                  go_wp2_with fail
                  refine bodyPost_ret (v := .tuple #[.agg #[.slice A' N' C'], .int .i64 0]) (by simp [results, Tryz.results25, go_sem, t1, t2]) rfl ?_
                  rw [HR.out]
                  exact ⟨HB9.out.setCell (by show w.heap.size ≤ w.heap.size + 1; omega) _, A', N', C', rfl, VR_far HV9.out BT89.out (by decide) 0 _⟩
          · rw [if_neg h4] at HF2
            have e4 : (op == [43, 61]) = false := by simpa using h4
            have HR : Hid (r = .error 1) := Lib.hid (by have := HF2.out; injection this with this; exact this.symm)
            clear HF2
            go_wp2_with fail
            refine bodyPost_ret (v := .tuple #[.agg #[.slice none 0 0], .int .i64 1]) (by simp [results, Tryz.results25, go_sem, t1, t2]) rfl ?_
            rw [HR.out]
            exact ⟨HB3.out.setCell (by show w.heap.size ≤ w.heap.size + 1; omega) _, rfl⟩
end Go.Proofs.YtopkcgdfebkbaaaGreatDoor
