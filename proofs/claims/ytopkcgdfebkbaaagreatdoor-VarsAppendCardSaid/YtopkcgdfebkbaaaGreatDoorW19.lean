/- Walks: texts expanded one behind the other. -/
import Derived.Test.YtopkcgdfebkbaaaGreatDoorW18
set_option linter.unusedVariables false
set_option linter.unusedSimpArgs false
namespace Go.Proofs.YtopkcgdfebkbaaaGreatDoor
open Go.RowKit
attribute [local go_sem] B_size B_toList B_extract B_append drop_take_all

theorem row9_keeps {sb n m N size base : Nat} {w W : World} {v : Value} {xs : List Value} (h : w.ownsRow base 9 size v N xs) (k : Keeps sb n w W) (hc : Cnt w sb m) : W.ownsRow base 9 size v N xs := by
  refine h.kept k.grown ?_
  rcases h.2 with ⟨rfl, _⟩ | ⟨g, cap, cur, rfl, hb, hg, _⟩
  · exact .inl rfl
  · refine .inr fun e => ?_
    have e2 : g = sb := by simpa [Value.ownBlock] using e
    subst e2
    have hc := hc.blk
    unfold Blk at hc
    rw [hg] at hc
    cases hc

theorem keeps_append {w W1 W2 : World} {sb n base e size k : Nat} {v : Value} {xs : List Value} {o : Obj} (hk : Keeps sb n w W1) (hb : w.heap.size ≤ base) (hs : sb < w.heap.size) (hr : W1.ownsRow base e size v k xs) (hg : (W1.alloc o).grownBy W2 v.ownBlock) : Keeps sb n w W2 := by
  have hg1 : W1.grownBy W2 v.ownBlock := grown_trans (World.grownBy_alloc W1 o _) hg
  have hne : ∀ j, j < w.heap.size → some j ≠ v.ownBlock := by
    intro j hj e
    rcases hr.2 with ⟨rfl, _⟩ | ⟨g, cap, cur, rfl, h, _⟩
    · simp [Value.ownBlock] at e
    · have : j = g := by simpa [Value.ownBlock] using e
      omega
  refine ⟨⟨hg1.os.trans hk.grown.os, hg1.tape.trans hk.grown.tape, hg1.output.trans hk.grown.output, Nat.le_trans hk.grown.size hg1.size, fun i hi h => (hg1.block i (Nat.lt_of_lt_of_le hi hk.grown.size) (hne i hi)).trans (hk.grown.block i hi h)⟩, ?_⟩
  exact cnt_same hk.cnt fun i hi => hg1.block i (by have := cnt_lt hk.cnt; omega) (hne i (by omega))
theorem row_append_block {W1 W2 : World} {base e size k : Nat} {v : Value} {xs : List Value} {o : Obj} {g : Nat} {t : TypeId} {cs : Array Value} (hb : Blk W1 g t cs) (hr : W1.ownsRow base e size v k xs) (hlt : g < base) (hg : (W1.alloc o).grownBy W2 v.ownBlock) : Blk W2 g t cs := by
  refine hb.grown (grown_trans (World.grownBy_alloc W1 o _) hg) ?_
  intro e'
  rcases hr.2 with ⟨rfl, _⟩ | ⟨g2, cap, cur, rfl, h, _⟩
  · simp [Value.ownBlock] at e'
  · have : g = g2 := by simpa [Value.ownBlock] using e'
    omega

/-- What 'all' owes, its answer. -/
def allPost (b : Nat) (sb n' : Nat) (w : World) (r : Except Nat (List Bytes)) (e : Ending) (w' : World) : Prop :=
  (match r with
   | .error x => e = .returned (.tuple #[.slice none 0 0, .int .i64 x])
   | .ok out => ∃ A C, e = .returned (.tuple #[.slice A out.length C, .int .i64 0]) ∧ w'.ownsRow b 9 1 (.slice A out.length C) out.length (strCells out)) ∧ Keeps sb n' w w'

set_option maxRecDepth 100000 in
set_option maxHeartbeats 1000000 in
theorem all_any (ex : List Var → Bytes → St Bytes) (D K : Nat) (hE : Owes 51 ex D K) (fE : Fit 4000 ex K)
    (v : List Var) (A : Option Addr) (N C sb n : Nat) (w : World) (l : List Bytes) (A1 : Option Addr) (C1 : Nat) (r : Except Nat (List Bytes)) (n' : Nat) (hv : VR w (.slice A N C) v) (henv : Env K v) (hc : Cnt w sb n) (hn : n ≤ 2000)
    (hl : ∀ x ∈ l, x.length ≤ 100000) (hll : l.length ≤ 100000) (hr : w.ownsRow 0 9 1 (.slice A1 l.length C1) l.length (strCells l)) (hf : allS (ex v) l [] n = some (r, n')) :
    Calls Tryz.prog 211 #[scV A N C D sb, .slice A1 l.length C1] w fun e w' => allPost w.heap.size sb n' w r e w' := by
  obtain ⟨i0, hi, hz0, hz1, hz2⟩ := info_parts info9
  have HV := Lib.hid hv
  have HC := Lib.hid hc
  have hsb := cnt_lt hc
  have HE := Lib.hid hE
  have HFE := Lib.hid fE
  have HF := Lib.hid hf
  have HENV := Lib.hid henv
  have HROW := Lib.hid hr
  have HLL := Lib.hid hl
  clear hv hc hE fE hf henv hr hl
  unfold scV
  go_enter Tryz.func211, Tryz.ntmps211
  go_wp2_with fail
  have BX := (Blk.new w 104 #[.slice A N C, .int .i64 D, .pointer (some ⟨sb, 0, none⟩)] rfl)
  have K0 := keeps_alloc (keeps_refl HC.out) (.cells #[.slice A N C, .int .i64 D, .pointer (some ⟨sb, 0, none⟩)] 104)
  go_loopw [6, 13] (fun ov iv wr => ∃ (i m : Nat) (out : List Bytes), iv = .int .i64 i ∧ i ≤ l.length ∧ out.length = i ∧ m ≤ 2000 ∧ wr.ownsRow (w.heap.size + 1) 9 1 ov out.length (strCells out) ∧ allS (ex v) (l.drop i) out m = some (r, n') ∧ Keeps sb m w wr ∧ Blk wr w.heap.size 104 #[.slice A N C, .int .i64 D, .pointer (some ⟨sb, 0, none⟩)])
    (fun ov iv wr => l.length - (intOf iv).toNat)
  case atStart => exact ⟨0, n, [], rfl, by omega, rfl, hn, World.ownsRow_nil _ _ _ _, HF.out, K0, BX⟩
  case round =>
    obtain ⟨i, m, out, rfl, hil, hol, hm, hor, hsc, hk, hbx⟩ := hrel
    have HK := Lib.hid hk
    have HBX := Lib.hid hbx
    have HOR := Lib.hid hor
    have HSC := Lib.hid hsc
    obtain ⟨A3, C3, rfl⟩ := row_slice hor
    have hi0 : (0 : Int) ≤ (i : Int) := by omega
    clear hk hbx hor hsc
    by_cases hlt : i < l.length
    · have hi1 : (i : Int) < (l.length : Int) := by omega
      obtain ⟨x, hx⟩ : ∃ x, l[i] = x := ⟨_, rfl⟩
      have hxm : x ∈ l := by rw [← hx]; exact List.getElem_mem hlt
      have hdr : l.drop i = x :: l.drop (i + 1) := by rw [← hx]; exact List.drop_eq_getElem_cons hlt
      obtain ⟨g0, hA, hcell⟩ := SR_cell (row9_keeps HROW.out HK.out HC.out) i hlt
      rw [hx] at hcell
      subst hA
      have hq : andS (ex v x) (fun y => allS (ex v) (l.drop (i + 1)) (out ++ [y])) m = some (r, n') := by
        have := HSC.out
        rw [hdr] at this
        exact this
      obtain ⟨qr, n2, hrf, hor⟩ := andS_cases hq
      have hfine := HFE.out v x m qr n2 HENV.out (HLL.out x hxm) hm hrf
      have hcall := HE.out v A N C sb m wr x qr n2 (VR_keeps HV.out HK.out HC.out) HENV.out HK.out.cnt hm (HLL.out x hxm) hrf
      unfold scV at hcall
      obtain ⟨f1, f2, f3⟩ := HBX.out.c
      have HOR2 := Lib.hid hor
      have HFI := Lib.hid hfine
      clear hq hdr hx hrf hor hfine HSC hxm
      go_wp2_with fail
      refine hcall.mono ?_
      rintro e w1 ⟨rfl, k1⟩
      have HK1 := Lib.hid (keeps_trans HK.out k1)
      have HBX1 := Lib.hid (HBX.out.keeps k1 (by omega))
      have HOR1 := Lib.hid (row9_keeps HOR.out k1 HK.out.cnt)
      have hor := HOR2.out
      have hfine := HFI.out
      have hsz1 : w.heap.size + 1 ≤ w1.heap.size := HBX1.out.lt
      clear k1 hcall f1 f2 f3 HOR2 HFI HK HBX HOR hcell
      unfold resV
      rcases hor with ⟨e, rfl, rfl, rfl⟩ | ⟨y, rfl, hgo⟩
      · have he0 : ((e : Int) != 0) = true := by have := hfine.1; simp; omega
        simp only [tx, er]
        go_wp2_with fail
        go_ret2
        exact ⟨rfl, HK1.out⟩
      · have HGO := Lib.hid hgo
        obtain ⟨hy, hn2⟩ := hfine
        clear hgo
        simp only [tx, er]
        have hml : out.length + 1 ≤ maxLen := Nat.le_trans (show out.length + 1 ≤ 100001 by omega) (by decide)
        have hmb : (out.length + 1) * 16 ≤ 140737488355328 := by omega
        go_wp2_with (at_builtin; go_loud (refine wpList_append_own _ rfl _ _ 58 rfl (w.heap.size + 1) 9 i0 (.string ByteArray.empty) 1 16 Tryz.underlying58 hi hz0 hz1 hz2 rfl (by decide) _ out.length (strCells out) rfl (HOR1.out.alloc _) ⟨w1.heap.size, 0, none⟩ 1 1 [.string (B y)] rfl rfl (cell_one_new _ _ _) (by simp [Value.oneCell']) hml hmb (by simp; omega) ?_; intro v' w2 hown' hgrow _; have HK2 := Lib.hid (keeps_append HK1.out (Nat.le_succ _) hsb HOR1.out hgrow); have HBX2 := Lib.hid (row_append_block HBX1.out HOR1.out (Nat.lt_succ_self _) hgrow); have HOW := Lib.hid hown'; clear hown' hgrow))
        go_roundw
        case rel => exact ⟨i + 1, n2, out ++ [y], by rw [Int.natCast_add]; rfl, by omega, by simp; omega, hn2, by rw [strCells_snoc, List.length_append]; exact HOW.out, HGO.out, HK2.out, HBX2.out⟩
        case measure => simp [intOf]; omega
    · obtain rfl : i = l.length := by omega
      have HR : Hid (r = .ok out ∧ n' = m) := Lib.hid (by
        have := HSC.out
        rw [List.drop_length] at this
        simp [allS, okS] at this
        exact ⟨this.1.symm, this.2.symm⟩)
      clear HSC
      go_wp2_with fail
      go_ret2
      rw [HR.out.1, HR.out.2]
      exact ⟨⟨A3, C3, rfl, row_low HOR.out (Nat.le_succ _)⟩, HK.out⟩

theorem allS_fine (ex : List Var → Bytes → St Bytes) (K : Nat) (fE : Fit 4000 ex K) (v : List Var) (henv : Env K v) : ∀ (l out : List Bytes) (n n' : Nat) (r : Except Nat (List Bytes)), (∀ x ∈ l, x.length ≤ 100000) → (∀ x ∈ out, x.length ≤ 4000) → n ≤ 2000 → allS (ex v) l out n = some (r, n') →
    (∃ e, r = .error e ∧ e ≠ 0 ∧ e ≤ 100) ∨ (∃ o, r = .ok o ∧ o.length = out.length + l.length ∧ (∀ x ∈ o, x.length ≤ 4000) ∧ n' ≤ 2000)
  | [], out, n, n', r, _, ho, hn, h => by
    simp [allS, okS] at h
    exact .inr ⟨out, h.1.symm, by simp, ho, by omega⟩
  | t :: l, out, n, n', r, hl, ho, hn, h => by
    have h' : andS (ex v t) (fun x => allS (ex v) l (out ++ [x])) n = some (r, n') := h
    obtain ⟨q, n2, hq, hor⟩ := andS_cases h'
    have hfine := fE v t n q n2 henv (hl t (by simp)) hn hq
    rcases hor with ⟨e, rfl, rfl, rfl⟩ | ⟨y, rfl, hgo⟩
    · exact .inl ⟨e, rfl, hfine⟩
    · obtain ⟨hy, hn2⟩ := hfine
      rcases allS_fine ex K fE v henv l (out ++ [y]) n2 n' r (fun x hx => hl x (by simp [hx])) (by intro x hx; simp at hx; rcases hx with hx | rfl; exact ho x hx; exact hy) hn2 hgo with h1 | ⟨o, h1, h2, h3, h4⟩
      · exact .inl h1
      · exact .inr ⟨o, h1, by simp at h2 ⊢; omega, h3, h4⟩
end Go.Proofs.YtopkcgdfebkbaaaGreatDoor
