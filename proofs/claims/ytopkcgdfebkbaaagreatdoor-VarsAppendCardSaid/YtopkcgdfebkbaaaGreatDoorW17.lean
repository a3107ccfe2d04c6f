/- Walks: a text is expanded. -/
import Derived.Test.YtopkcgdfebkbaaaGreatDoorW16
import Derived.Deep.RegionWith
import Derived.Lib.CutLaws
set_option linter.unusedVariables false
set_option linter.unusedSimpArgs false
namespace Go.Proofs.YtopkcgdfebkbaaaGreatDoor
open Go.RowKit
attribute [local go_sem] B_size B_toList B_extract B_append drop_take_all

/-- What is known of an answer: a text that is not too long, steps that are not too many; an error that is one. -/
def Fine (M : Nat) (n' : Nat) : Except Nat Bytes → Prop
  | .ok b => b.length ≤ M ∧ n' ≤ 2000
  | .error e => e ≠ 0 ∧ e ≤ 100
def Fit (M : Nat) (f : List Var → Bytes → St Bytes) (K : Nat) : Prop :=
  ∀ v t n r n', Env K v → t.length ≤ 100000 → n ≤ 2000 → f v t n = some (r, n') → Fine M n' r

theorem keeps_low {sb n m : Nat} {w w1 w2 : World} (h : Keeps sb n w w1) (hb : Below m w1 w2) (hm : w.heap.size ≤ m) (hs : sb < w.heap.size) : Keeps sb n w w2 :=
  ⟨⟨hb.os.trans h.grown.os, hb.tape.trans h.grown.tape, hb.output.trans h.grown.output, Nat.le_trans h.grown.size hb.size, fun i hi hne => (hb.block i (by omega)).trans (h.grown.block i hi hne)⟩, cnt_same h.cnt fun i hi => hb.block i (by omega)⟩

theorem keeps_drew {sb n : Nat} {w w1 : World} (h : Keeps sb n w w1) : Keeps sb n w w1.drew := ⟨⟨h.grown.os, h.grown.tape, h.grown.output, h.grown.size, h.grown.block⟩, ⟨h.cnt.blk, h.cnt.ng, h.cnt.glob.same fun _ _ => rfl⟩⟩
theorem below_drew (w : World) : Below w.heap.size w w.drew := ⟨rfl, rfl, rfl, Nat.le_refl _, fun _ _ => rfl⟩
theorem cut1_found {s : Bytes} {c : UInt8} (h : (cut1 s c).2.2 = true) : (cut1 s c).1.length + 1 + (cut1 s c).2.1.length ≤ s.length := by
  have hi := Lib.indexB_cases (B s) (B [c])
  unfold Lib.indexB at hi
  rw [B_data, B_data, B_size, B_size] at hi
  unfold cut1 Lib.cut at h ⊢
  split at h
  · rename_i h0
    rw [if_pos h0]
    rcases hi with hi | ⟨i, hi, hl⟩
    · omega
    · simp only [List.length_cons, List.length_nil] at hl
      rw [hi]
      simp
      omega
  · simp at h

theorem innerF_le (s : Bytes) : ∀ (k i : Nat) (o : Bytes) (x rest : Bytes), innerF s k i o = some (x, rest) → x.length ≤ s.length ∧ rest.length + 1 ≤ s.length
  | 0, _, _, _, _, h => by simp [innerF] at h
  | k + 1, i, o, x, rest, h => by
    unfold innerF at h
    split at h
    · rename_i hi
      split at h
      · exact innerF_le s k _ _ x rest h
      · split at h
        · exact innerF_le s k _ _ x rest h
        · split at h
          · exact innerF_le s k _ _ x rest h
          · split at h
            · split at h
              · cases h
                simp
                omega
              · exact innerF_le s k _ _ x rest h
            · exact innerF_le s k _ _ x rest h
    · cases h
theorem innerB_le {s x rest : Bytes} (h : innerB s = some (x, rest)) : x.length ≤ s.length ∧ rest.length + 1 ≤ s.length := innerF_le s _ _ _ x rest h

theorem shortS_eq {b : Bytes} {m n' : Nat} {r : Except Nat Bytes} (h : shortS b m = some (r, n')) : r = shortR b ∧ n' = m := by
  unfold shortS at h
  unfold shortR
  split at h
  · rename_i hl
    rw [if_pos hl]
    simp [errS] at h
    exact ⟨h.1.symm, h.2.symm⟩
  · rename_i hl
    rw [if_neg hl]
    simp [okS] at h
    exact ⟨h.1.symm, h.2.symm⟩

theorem andS_cases {α β : Type} {p : St α} {f : α → St β} {m n' : Nat} {r : Except Nat β} (h : andS p f m = some (r, n')) :
    ∃ q n2, p m = some (q, n2) ∧ ((∃ e, q = .error e ∧ r = .error e ∧ n' = n2) ∨ (∃ y, q = .ok y ∧ f y n2 = some (r, n'))) := by
  unfold andS at h
  split at h
  · cases h
  · rename_i e n2 hp
    cases h
    exact ⟨_, _, hp, .inl ⟨e, rfl, rfl, rfl⟩⟩
  · rename_i y n2 hp
    exact ⟨_, _, hp, .inr ⟨y, rfl, h⟩⟩

def strLen : Value → Nat
  | .string b => b.size
  | _ => 0

set_option maxRecDepth 100000 in
set_option maxHeartbeats 1000000 in
theorem expand_any (rf vl : List Var → Bytes → St Bytes) (D K : Nat) (hR : Owes 88 rf D K) (hV : Owes 89 vl D K) (fR : Fit 100000 rf K) (fV : Fit 100000 vl K) :
    Owes 51 (fun v t => scanF (rf v) (vl v) (t.length + 1) t []) D K := by
  intro v A N C sb n w t r n' hv henv hc hn ht hf
  have HV := Lib.hid hv
  have HC := Lib.hid hc
  have hsb := cnt_lt hc
  have HR := Lib.hid hR
  have HL := Lib.hid hV
  have HFR := Lib.hid fR
  have HFV := Lib.hid fV
  have HF := Lib.hid hf
  have HENV := Lib.hid henv
  clear hv hc hR hV fR fV hf henv
  unfold scV
  go_enter Tryz.func51, Tryz.ntmps51
  go_wp2_with fail
  have BX := (Blk.new w 104 #[.slice A N C, .int .i64 D, .pointer (some ⟨sb, 0, none⟩)] rfl)
  have BD := Bld.fresh (w.alloc (.cells #[.slice A N C, .int .i64 D, .pointer (some ⟨sb, 0, none⟩)] 104)) (b := w.heap.size + 1) (by simp)
  have K0 := keeps_alloc (keeps_alloc (keeps_refl HC.out) (.cells #[.slice A N C, .int .i64 D, .pointer (some ⟨sb, 0, none⟩)] 104)) (.cells #[.pointer none, .slice none 0 0] 154)
  go_loopw [1] (fun tv wr => ∃ (t : Bytes) (acc : Bytes) (k m : Nat), tv = .string (B t) ∧ t.length ≤ 100000 ∧ acc.length + t.length * 100000 ≤ 100000000000 ∧ m ≤ 2000 ∧ scanF (rf v) (vl v) k t acc m = some (r, n') ∧
      Keeps sb m w wr ∧ Blk wr w.heap.size 104 #[.slice A N C, .int .i64 D, .pointer (some ⟨sb, 0, none⟩)] ∧ Bld wr (w.heap.size + 1) (w.heap.size + 1) acc)
    (fun tv wr => strLen tv)
  case atStart => exact ⟨t, [], t.length + 1, n, rfl, ht, by simp; omega, hn, HF.out, K0, BX.alloc _, BD⟩
  case round =>
    obtain ⟨u, acc, k, m, rfl, hu, hacc, hm, hsc, hk, hbx, hbd⟩ := hrel
    have HSC := Lib.hid hsc
    have HK := Lib.hid hk
    have HBX := Lib.hid hbx
    have HBD := Lib.hid hbd
    have hsz : w.heap.size + 1 < wr.heap.size := hbd.lt
    clear hsc hk hbx hbd
    have hlen := cut1_length u 36
    have hfound := fun h => cut1_found (s := u) (c := 36) h
    obtain ⟨k', rfl⟩ : ∃ k', k = k' + 1 := by
      cases k with
      | zero => have := HSC.out; simp [scanF] at this
      | succ k' => exact ⟨k', rfl⟩
    have HQ : Hid ((if (cut1 u 36).2.2 = true then
        match (cut1 u 36).2.1 with
        | [] => errS 2
        | c :: r =>
          if c = 36 then scanF (rf v) (vl v) k' r (acc ++ (cut1 u 36).1 ++ [36])
          else if c = 40 ∨ c = 123 then
            match innerB (36 :: c :: r) with
            | none => errS 2
            | some (x, rest) => andS (rf v x) fun y => scanF (rf v) (vl v) k' rest (acc ++ (cut1 u 36).1 ++ y)
          else andS (vl v [c]) fun y => scanF (rf v) (vl v) k' r (acc ++ (cut1 u 36).1 ++ y)
      else shortS (acc ++ (cut1 u 36).1)) m = some (r, n')) := HSC.out
    clear HSC
    go_wp2_with fail
    refine (cut_any u 36 wr (by omega)).mono ?_
    rintro e w1 ⟨rfl, hb1⟩
    generalize cut1 u 36 = q at *
    obtain ⟨q1, q2, q3⟩ := q
    simp only at hlen hfound HQ ⊢
    have HK1 := Lib.hid (keeps_below HK.out hb1)
    have HBX1 := Lib.hid (HBX.out.below hb1)
    have HBD1 := Lib.hid (HBD.out.below hb1)
    have hsz1 : w.heap.size + 1 < w1.heap.size := HBD1.out.lt
    clear hb1 HK HBX HBD
    go_wp2_with fail
    refine (write_any (w.heap.size + 1) (w.heap.size + 1) acc q1 w1 HBD1.out (by omega) (by omega)).mono ?_
    rintro e w2 ⟨rfl, hbd2, hb2⟩
    have HK2 := Lib.hid (keeps_low HK1.out hb2 (by omega) hsb)
    have HBX2 := Lib.hid ((hb2.block w.heap.size (by omega)).trans HBX1.out)
    have HBD2 := Lib.hid hbd2
    have hsz2 : w.heap.size + 1 < w2.heap.size := hbd2.lt
    clear hb2 hbd2 HK1 HBX1 HBD1 hsz1 hsz
    cases q3 with
    | false =>
      have HS : Hid (shortS (acc ++ q1) m = some (r, n')) := Lib.hid (by simpa using HQ.out)
      clear HQ
      go_wp2_with fail
      refine (string_any (w.heap.size + 1) (w.heap.size + 1) _ w2 HBD2.out (by omega)).mono ?_
      rintro e w3 ⟨rfl, hb3⟩
      have HK3 := Lib.hid (keeps_low HK2.out hb3 (by omega) hsb)
      clear hb3
      go_wp2_with fail
      refine (short_any (acc ++ q1) w3).mono ?_
      rintro e w4 ⟨rfl, rfl⟩
      go_wp2_with fail
      go_ret2
      obtain ⟨rfl, rfl⟩ := shortS_eq HS.out
      exact ⟨rfl, HK3.out⟩
    | true =>
      rw [if_pos rfl] at HQ
      have hf2 := hfound rfl
      clear hfound
      cases q2 with
      | nil =>
        have HS : Hid (r = .error 2 ∧ n' = m) := Lib.hid (by
          have := HQ.out
          simp [errS] at this
          exact ⟨this.1.symm, this.2.symm⟩)
        clear HQ
        go_wp2_with fail
        go_ret2
        rw [HS.out.1, HS.out.2]
        exact ⟨rfl, HK2.out⟩
      | cons c x =>
        have hb0 : (B (c :: x))[0]'(by rw [B_size]; simp) = c := B_get _ 0 _ (by simp)
        have hl0 : (0 : Int) < ((c :: x).length : Int) := by simp
        have hl1 : (1 : Int) ≤ ((c :: x).length : Int) := by simp; omega
        simp only [List.length_cons] at hf2 hlen
        have HQ2 : Hid ((if c = 36 then scanF (rf v) (vl v) k' x (acc ++ q1 ++ [36])
          else if c = 40 ∨ c = 123 then
            (match innerB (36 :: c :: x) with
            | none => errS 2
            | some (x, rest) => andS (rf v x) fun y => scanF (rf v) (vl v) k' rest (acc ++ q1 ++ y))
          else andS (vl v [c]) fun y => scanF (rf v) (vl v) k' x (acc ++ q1 ++ y)) m = some (r, n')) := HQ.out
        clear HQ
        by_cases h36 : c = 36
        · subst h36
          have HS : Hid (scanF (rf v) (vl v) k' x (acc ++ q1 ++ [36]) m = some (r, n')) := HQ2.out
          clear HQ2
          go_wp2_with fail
          go_quiet (fail)
          have HK3 := Lib.hid (keeps_low HK2.out (below_drewN nq) (by omega) hsb)
          have HBX3 : Hid (Blk (w2.drewN nq) w.heap.size 104 _) := Lib.hid HBX2.out
          have HBD3 := Lib.hid (HBD2.out.below (below_drewN nq))
          have hsz3 : w.heap.size + 1 < (w2.drewN nq).heap.size := hsz2
          generalize w2.drewN nq = w3 at *
          go_wp2_with fail
          refine (write_any (w.heap.size + 1) (w.heap.size + 1) (acc ++ q1) [36] w3 HBD3.out (by simp; omega) (by omega)).mono ?_
          rintro e w9 ⟨rfl, hbd9, hb9⟩
          have HK9 := Lib.hid (keeps_low HK3.out hb9 (by omega) hsb)
          have HBX9 := Lib.hid ((hb9.block w.heap.size (by omega)).trans HBX3.out)
          have HBD9 := Lib.hid hbd9
          clear hb9 hbd9
          go_wp2_with fail
          go_roundw
          case rel => exact ⟨x, acc ++ q1 ++ [36], k', m, rfl, by omega, by simp; omega, by omega, HS.out, HK9.out, HBX9.out, HBD9.out⟩
          case measure => simp [strLen, B_size]; omega
        · have e36 : ((c.toNat : Int) == 36) = false := by
            rw [beq_eq_false_iff_ne]; intro e; exact h36 (UInt8.toNat_inj.1 (by show c.toNat = 36; omega))
          by_cases h40 : c = 40
          · subst h40
            go_wp2_with fail
            rw [show (⟨#[36]⟩ : ByteArray) ++ B (40 :: x) = B (36 :: 40 :: x) from B_cons 36 _]
            refine (inner_any (36 :: 40 :: x) w2 (by simp; omega)).mono ?_
            rintro e w3 ⟨rfl, hb3⟩
            have HK3 := Lib.hid (keeps_below HK2.out hb3)
            have HBX3 : Hid (Blk w3 w.heap.size 104 _) := Lib.hid (Blk.below HBX2.out hb3)
            have HBD3 := Lib.hid (HBD2.out.below hb3)
            have hsz3 : w.heap.size + 1 < w3.heap.size := HBD3.out.lt
            clear hb3 HK2 HBX2 HBD2 hsz2
            obtain ⟨f1, f2, f3⟩ := Blk.c HBX3.out
            cases hin : innerB (36 :: 40 :: x) with
            | none =>
              have HS : Hid (r = .error 2 ∧ n' = m) := Lib.hid (by
                have := HQ2.out
                rw [if_neg (by decide), if_pos (by decide), hin] at this
                simp [errS] at this
                exact ⟨this.1.symm, this.2.symm⟩)
              clear HQ2
              simp only [innV, Option.getD_none, Option.isSome_none]
              go_wp2_with fail
              go_ret2
              rw [HS.out.1, HS.out.2]
              exact ⟨rfl, HK3.out⟩
            | some p =>
              obtain ⟨x2, rest⟩ := p
              have hle := innerB_le hin
              simp only [List.length_cons] at hle
              have hq : andS (rf v x2) (fun y => scanF (rf v) (vl v) k' rest (acc ++ q1 ++ y)) m = some (r, n') := by
                have := HQ2.out
                rw [if_neg (by decide), if_pos (by decide), hin] at this
                exact this
              clear HQ2 hin
              obtain ⟨qr, n2, hrf, hor⟩ := andS_cases hq
              have hfine := HFR.out v x2 m qr n2 HENV.out (by omega) hm hrf
              have hcall := HR.out v A N C sb m w3 x2 qr n2 (VR_keeps HV.out HK3.out HC.out) HENV.out HK3.out.cnt hm (by omega) hrf
              unfold scV at hcall
              simp only [innV, Option.getD_some, Option.isSome_some]
              have HOR := Lib.hid hor
              have HFI := Lib.hid hfine
              clear hq hrf hor hfine
              go_wp2_with fail
              refine hcall.mono ?_
              rintro e w4 ⟨rfl, k4⟩
              have hor := HOR.out
              have hfine := HFI.out
              clear hcall f1 f2 f3 HOR HFI
              have HK4 := Lib.hid (keeps_trans HK3.out k4)
              have HBX4 := Lib.hid (HBX3.out.keeps k4 (by omega))
              have HBD4 := Lib.hid (HBD3.out.grown k4.grown HK3.out.cnt.blk (by decide) (by decide))
              have hsz4 : w.heap.size + 1 < w4.heap.size := HBD4.out.lt
              clear k4
              unfold resV
              rcases hor with ⟨e, rfl, rfl, rfl⟩ | ⟨y, rfl, hgo⟩
              · have he0 : ((e : Int) != 0) = true := by have := hfine.1; simp; omega
                simp only [tx, er]
                go_wp2_with fail
                go_ret2
                exact ⟨rfl, HK4.out⟩
              · have HS := Lib.hid hgo
                obtain ⟨hy, hn2⟩ := hfine
                simp only [tx, er]
                go_wp2_with fail
                refine (write_any (w.heap.size + 1) (w.heap.size + 1) (acc ++ q1) y w4 HBD4.out (by simp; omega) (by omega)).mono ?_
                rintro e w9 ⟨rfl, hbd9, hb9⟩
                have HK9 := Lib.hid (keeps_low HK4.out hb9 (by omega) hsb)
                have HBX9 := Lib.hid ((hb9.block w.heap.size (by omega)).trans HBX4.out)
                have HBD9 := Lib.hid hbd9
                clear hb9 hbd9
                go_wp2_with fail
                go_roundw
                case rel => exact ⟨rest, acc ++ q1 ++ y, k', n2, rfl, by omega, by simp; omega, by omega, HS.out, HK9.out, HBX9.out, HBD9.out⟩
                case measure => simp [strLen, B_size]; omega
          · have e40 : ((c.toNat : Int) == 40) = false := by
              rw [beq_eq_false_iff_ne]; intro e; exact h40 (UInt8.toNat_inj.1 (by show c.toNat = 40; omega))
            by_cases h123 : c = 123
            · subst h123
              go_wp2_with fail
              rw [show (⟨#[36]⟩ : ByteArray) ++ B (123 :: x) = B (36 :: 123 :: x) from B_cons 36 _]
              refine (inner_any (36 :: 123 :: x) w2 (by simp; omega)).mono ?_
              rintro e w3 ⟨rfl, hb3⟩
              have HK3 := Lib.hid (keeps_below HK2.out hb3)
              have HBX3 : Hid (Blk w3 w.heap.size 104 _) := Lib.hid (Blk.below HBX2.out hb3)
              have HBD3 := Lib.hid (HBD2.out.below hb3)
              have hsz3 : w.heap.size + 1 < w3.heap.size := HBD3.out.lt
              clear hb3 HK2 HBX2 HBD2 hsz2
              obtain ⟨f1, f2, f3⟩ := Blk.c HBX3.out
              cases hin : innerB (36 :: 123 :: x) with
              | none =>
                have HS : Hid (r = .error 2 ∧ n' = m) := Lib.hid (by
                  have := HQ2.out
                  rw [if_neg (by decide), if_pos (by decide), hin] at this
                  simp [errS] at this
                  exact ⟨this.1.symm, this.2.symm⟩)
                clear HQ2
                simp only [innV, Option.getD_none, Option.isSome_none]
                go_wp2_with fail
                go_ret2
                rw [HS.out.1, HS.out.2]
                exact ⟨rfl, HK3.out⟩
              | some p =>
                obtain ⟨x2, rest⟩ := p
                have hle := innerB_le hin
                simp only [List.length_cons] at hle
                have hq : andS (rf v x2) (fun y => scanF (rf v) (vl v) k' rest (acc ++ q1 ++ y)) m = some (r, n') := by
                  have := HQ2.out
                  rw [if_neg (by decide), if_pos (by decide), hin] at this
                  exact this
                clear HQ2 hin
                obtain ⟨qr, n2, hrf, hor⟩ := andS_cases hq
                have hfine := HFR.out v x2 m qr n2 HENV.out (by omega) hm hrf
                have hcall := HR.out v A N C sb m w3 x2 qr n2 (VR_keeps HV.out HK3.out HC.out) HENV.out HK3.out.cnt hm (by omega) hrf
                unfold scV at hcall
                simp only [innV, Option.getD_some, Option.isSome_some]
                have HOR := Lib.hid hor
                have HFI := Lib.hid hfine
                clear hq hrf hor hfine
                go_wp2_with fail
                refine hcall.mono ?_
                rintro e w4 ⟨rfl, k4⟩
                have hor := HOR.out
                have hfine := HFI.out
                clear hcall f1 f2 f3 HOR HFI
                have HK4 := Lib.hid (keeps_trans HK3.out k4)
                have HBX4 := Lib.hid (HBX3.out.keeps k4 (by omega))
                have HBD4 := Lib.hid (HBD3.out.grown k4.grown HK3.out.cnt.blk (by decide) (by decide))
                have hsz4 : w.heap.size + 1 < w4.heap.size := HBD4.out.lt
                clear k4
                unfold resV
                rcases hor with ⟨e, rfl, rfl, rfl⟩ | ⟨y, rfl, hgo⟩
                · have he0 : ((e : Int) != 0) = true := by have := hfine.1; simp; omega
                  simp only [tx, er]
                  go_wp2_with fail
                  go_ret2
                  exact ⟨rfl, HK4.out⟩
                · have HS := Lib.hid hgo
                  obtain ⟨hy, hn2⟩ := hfine
                  simp only [tx, er]
                  go_wp2_with fail
                  refine (write_any (w.heap.size + 1) (w.heap.size + 1) (acc ++ q1) y w4 HBD4.out (by simp; omega) (by omega)).mono ?_
                  rintro e w9 ⟨rfl, hbd9, hb9⟩
                  have HK9 := Lib.hid (keeps_low HK4.out hb9 (by omega) hsb)
                  have HBX9 := Lib.hid ((hb9.block w.heap.size (by omega)).trans HBX4.out)
                  have HBD9 := Lib.hid hbd9
                  clear hb9 hbd9
                  go_wp2_with fail
                  go_roundw
                  case rel => exact ⟨rest, acc ++ q1 ++ y, k', n2, rfl, by omega, by simp; omega, by omega, HS.out, HK9.out, HBX9.out, HBD9.out⟩
                  case measure => simp [strLen, B_size]; omega
            · have e123 : ((c.toNat : Int) == 123) = false := by
                rw [beq_eq_false_iff_ne]; intro e; exact h123 (UInt8.toNat_inj.1 (by show c.toNat = 123; omega))
              have hq : andS (vl v [c]) (fun y => scanF (rf v) (vl v) k' x (acc ++ q1 ++ y)) m = some (r, n') := by
                have := HQ2.out
                rw [if_neg h36, if_neg (by intro h; rcases h with h | h; exact h40 h; exact h123 h)] at this
                exact this
              clear HQ2
              obtain ⟨qr, n2, hrf, hor⟩ := andS_cases hq
              have hfine := HFV.out v [c] m qr n2 HENV.out (by simp) hm hrf
              have hcall := fun w3 (hk : Keeps sb m w w3) => HL.out v A N C sb m w3 [c] qr n2 (VR_keeps HV.out hk HC.out) HENV.out hk.cnt hm (by simp) hrf
              unfold scV at hcall
              have HOR := Lib.hid hor
              have HFI := Lib.hid hfine
              clear hq hrf hor hfine
              obtain ⟨f1, f2, f3⟩ := Blk.c HBX2.out
              go_wp2_with fail
              go_region_with (go_at_call 89; refine (hcall _ (keeps_drew HK2.out)).mono ?_; rintro e w4 ⟨rfl, k4⟩; unfold resV)
              all_goals
                have hor := HOR.out
                have hfine := HFI.out
                clear HOR HFI hcall f1 f2 f3
                have HK3 := Lib.hid (keeps_drew HK2.out)
                have HBX3 : Hid (Blk w2.drew w.heap.size 104 _) := Lib.hid HBX2.out
                have HBD3 := Lib.hid (HBD2.out.below (below_drew w2))
                have HK4 := Lib.hid (keeps_trans HK3.out k4)
                have HBX4 := Lib.hid (HBX3.out.keeps k4 (by omega))
                have HBD4 := Lib.hid (HBD3.out.grown k4.grown HK3.out.cnt.blk (by decide) (by decide))
                have hsz4 : w.heap.size + 1 < w4.heap.size := HBD4.out.lt
                clear k4
                rcases hor with ⟨e, rfl, rfl, rfl⟩ | ⟨y, rfl, hgo⟩
                · have he0 : ((e : Int) != 0) = true := by have := hfine.1; simp; omega
                  simp only [tx, er]
                  go_wp2_with fail
                  go_ret2
                  exact ⟨rfl, HK4.out⟩
                · have HS := Lib.hid hgo
                  obtain ⟨hy, hn2⟩ := hfine
                  simp only [tx, er]
                  go_wp2_with fail
                  refine (write_any (w.heap.size + 1) (w.heap.size + 1) (acc ++ q1) y w4 HBD4.out (by simp; omega) (by omega)).mono ?_
                  rintro e w9 ⟨rfl, hbd9, hb9⟩
                  have HK9 := Lib.hid (keeps_low HK4.out hb9 (by omega) hsb)
                  have HBX9 := Lib.hid ((hb9.block w.heap.size (by omega)).trans HBX4.out)
                  have HBD9 := Lib.hid hbd9
                  clear hb9 hbd9
                  go_wp2_with fail
                  go_roundw
                  case rel => exact ⟨x, acc ++ q1 ++ y, k', n2, rfl, by omega, by simp; omega, by omega, HS.out, HK9.out, HBX9.out, HBD9.out⟩
                  case measure => simp [strLen, B_size]; omega
end Go.Proofs.YtopkcgdfebkbaaaGreatDoor
