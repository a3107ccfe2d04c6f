/- Walks: the words of a text, each turned. -/
import Derived.Test.YtopkcgdfebkbaaaGreatDoorW19
set_option linter.unusedVariables false
set_option linter.unusedSimpArgs false
namespace Go.Proofs.YtopkcgdfebkbaaaGreatDoor
open Go.RowKit
attribute [local go_sem] B_size B_toList B_extract B_append drop_take_all

/-- What a closure of a word owes, from a world w0 on: f. -/
def OwesW (k : Nat) (lb : Array Value) (f : Bytes → St Bytes) (sb : Nat) (w0 : World) : Prop :=
  ∀ (x : Bytes) (n1 n2 : Nat) (r : Except Nat Bytes) (W : World), Keeps sb n1 w0 W → n1 ≤ 2000 → x.length ≤ 100000 → f x n1 = some (r, n2) →
    Calls Tryz.prog k (#[.string (B x)] ++ lb) W fun e W' => e = .returned (resV r) ∧ Keeps sb n2 W W'
def FitW (M : Nat) (f : Bytes → St Bytes) : Prop := ∀ x n r n', x.length ≤ 100000 → n ≤ 2000 → f x n = some (r, n') → Fine M n' r

theorem wordsF_le (M : Nat) : ∀ (k : Nat) (s : Bytes), s.length ≤ M → ∀ x ∈ wordsF k s, x.length ≤ M
  | 0, _, _, x, hx => by simp [wordsF] at hx
  | k + 1, s, hs, x, hx => by
    have h1 := trimLeftS_le s
    have h2 := dropWhile_le (fun c => !isBlank c) (Lib.trimLeftS s blanks)
    unfold wordsF at hx
    simp only at hx
    split at hx
    · simp at hx
    · simp only [List.mem_cons] at hx
      rcases hx with rfl | hx
      · rw [(wordEnd_split _).1]; simp; omega
      · exact wordsF_le M k _ (by omega) x hx
theorem wordsB_le (s : Bytes) : ∀ x ∈ wordsB s, x.length ≤ s.length := wordsF_le s.length _ s (Nat.le_refl _)

theorem eachS_fine (M : Nat) (f : Bytes → St Bytes) (fE : FitW M f) : ∀ (l out : List Bytes) (n n' : Nat) (r : Except Nat (List Bytes)), (∀ x ∈ l, x.length ≤ 100000) → (∀ x ∈ out, x.length ≤ M) → n ≤ 2000 → eachS f l out n = some (r, n') →
    (∃ e, r = .error e ∧ e ≠ 0 ∧ e ≤ 100) ∨ (∃ o, r = .ok o ∧ o.length = out.length + l.length ∧ (∀ x ∈ o, x.length ≤ M) ∧ n' ≤ 2000)
  | [], out, n, n', r, _, ho, hn, h => by
    simp [eachS, okS] at h
    exact .inr ⟨out, h.1.symm, by simp, ho, by omega⟩
  | t :: l, out, n, n', r, hl, ho, hn, h => by
    have h' : andS (f t) (fun x => eachS f l (out ++ [x])) n = some (r, n') := h
    obtain ⟨q, n2, hq, hor⟩ := andS_cases h'
    have hfine := fE t n q n2 (hl t (by simp)) hn hq
    rcases hor with ⟨e, rfl, rfl, rfl⟩ | ⟨y, rfl, hgo⟩
    · exact .inl ⟨e, rfl, hfine⟩
    · obtain ⟨hy, hn2⟩ := hfine
      rcases eachS_fine M f fE l (out ++ [y]) n2 n' r (fun x hx => hl x (by simp [hx])) (by intro x hx; simp at hx; rcases hx with hx | rfl; exact ho x hx; exact hy) hn2 hgo with h1 | ⟨o, h1, h2, h3, h4⟩
      · exact .inl h1
      · exact .inr ⟨o, h1, by simp at h2 ⊢; omega, h3, h4⟩

theorem joinB_le (M : Nat) : ∀ (l : List Bytes), (∀ x ∈ l, x.length ≤ M) → (joinB l).length ≤ l.length * (M + 1)
  | [], _ => by simp [joinB, Lib.join]
  | [a], h => by
    have := h a (by simp)
    simp [joinB, Lib.join]
    omega
  | a :: b :: l, h => by
    have h1 := h a (by simp)
    have h2 := joinB_le M (b :: l) (fun x hx => h x (by simp [hx]))
    have e : joinB (a :: b :: l) = a ++ [32] ++ joinB (b :: l) := by simp [joinB, Lib.join]
    rw [e]
    simp only [List.length_append, List.length_cons, List.length_nil] at h2 ⊢
    rw [Nat.add_mul]
    omega

set_option maxRecDepth 100000 in
set_option maxHeartbeats 1000000 in
theorem wordsOf_any (k : Nat) (fn : Func) (lb : Array Value) (f : Bytes → St Bytes) (ek : ∀ args w, (callFunc k args).run Tryz.prog w = .ok (.enter k args) w) (sb n n' : Nat) (w : World) (t : Bytes) (r : Except Nat Bytes) (hc : Cnt w sb n) (hn : n ≤ 2000) (ht : t.length ≤ 100000)
    (hO : OwesW k lb f sb w) (hF : FitW 1000000 f) (hf : wordsS f t n = some (r, n')) :
    Calls Tryz.prog 212 #[.string (B t), .func (.func k) #[] lb] w fun e w' => e = .returned (resV r) ∧ Keeps sb n' w w' := by
  obtain ⟨i0, hi, hz0, hz1, hz2⟩ := info_parts info9
  have HC := Lib.hid hc
  have hsb := cnt_lt hc
  have HO := Lib.hid hO
  have HFW := Lib.hid hF
  have HLE := Lib.hid (wordsB_le t)
  have hwl := wordsB_length t
  have HW : Hid (andS (eachS f (wordsB t) []) (fun l => shortS (joinB l)) n = some (r, n')) := Lib.hid hf
  clear hc hO hF hf
  go_enter Tryz.func212, Tryz.ntmps212
  go_wp2_with fail
  refine (words_any t w (by omega)).mono ?_
  generalize wordsB t = l at *
  rintro e w0 ⟨A1, C1, rfl, hrow, hb0⟩
  have HROW := Lib.hid (row_low hrow (Nat.zero_le _))
  have HK0 := Lib.hid (keeps_below (keeps_refl HC.out) hb0)
  clear hrow hb0
  go_wp2_with fail
  have hsb0 : sb < w0.heap.size := Nat.lt_of_lt_of_le hsb HK0.out.grown.size
  obtain ⟨q, nq, hq, hor0⟩ := andS_cases HW.out
  have HEF := Lib.hid (eachS_fine 1000000 f HFW.out l [] n nq q (fun x hx => Nat.le_trans (HLE.out x hx) ht) (by simp) hn hq)
  have HOR0 := Lib.hid hor0
  have HQ := Lib.hid hq
  clear hor0 hq HW
  go_loopw [6, 14] (fun ov iv wr => ∃ (i m : Nat) (out : List Bytes), iv = .int .i64 i ∧ i ≤ l.length ∧ out.length = i ∧ m ≤ 2000 ∧ wr.ownsRow w0.heap.size 9 1 ov out.length (strCells out) ∧ eachS f (l.drop i) out m = some (q, nq) ∧ Keeps sb m w0 wr)
    (fun ov iv wr => l.length - (intOf iv).toNat)
  case atStart => exact ⟨0, n, [], rfl, by omega, rfl, hn, World.ownsRow_nil _ _ _ _, HQ.out, keeps_refl HK0.out.cnt⟩
  case round =>
    obtain ⟨i, m, out, rfl, hil, hol, hm, hor, hsc, hk⟩ := hrel
    have HK := Lib.hid hk
    have HOR := Lib.hid hor
    have HSC := Lib.hid hsc
    obtain ⟨A3, C3, rfl⟩ := row_slice hor
    have hi0 : (0 : Int) ≤ (i : Int) := by omega
    clear hk hor hsc
    by_cases hlt : i < l.length
    · have hi1 : (i : Int) < (l.length : Int) := by omega
      obtain ⟨x, hx⟩ : ∃ x, l[i] = x := ⟨_, rfl⟩
      have hxm : x.length ≤ 100000 := by rw [← hx]; exact Nat.le_trans (HLE.out _ (List.getElem_mem hlt)) ht
      have hdr : l.drop i = x :: l.drop (i + 1) := by rw [← hx]; exact List.drop_eq_getElem_cons hlt
      obtain ⟨g0, hA, hcell⟩ := SR_cell (row9_keeps HROW.out HK.out HK0.out.cnt) i hlt
      rw [hx] at hcell
      subst hA
      have hq : andS (f x) (fun y => eachS f (l.drop (i + 1)) (out ++ [y])) m = some (q, nq) := by
        have := HSC.out
        rw [hdr] at this
        exact this
      obtain ⟨qr, n2, hrf, hor⟩ := andS_cases hq
      have hfine := HFW.out x m qr n2 hxm hm hrf
      have hcall := HO.out x m n2 qr wr (keeps_trans HK0.out HK.out) hm hxm hrf
      have HOR2 := Lib.hid hor
      have HFI := Lib.hid hfine
      clear hq hdr hx hrf hor hfine HSC hxm
      go_wp2_with fail
      refine hcall.mono ?_
      rintro e w1 ⟨rfl, k1⟩
      have HK1 := Lib.hid (keeps_trans HK.out k1)
      have HOR1 := Lib.hid (row9_keeps HOR.out k1 HK.out.cnt)
      have hor := HOR2.out
      have hfine := HFI.out
      have hsz1 : w0.heap.size ≤ w1.heap.size := HK1.out.grown.size
      clear k1 hcall HOR2 HFI HK HOR hcell
      unfold resV
      rcases hor with ⟨e, rfl, rfl, rfl⟩ | ⟨y, rfl, hgo⟩
      · have he0 : ((e : Int) != 0) = true := by have := hfine.1; simp; omega
        simp only [tx, er]
        go_wp2_with fail
        go_ret2
        rcases HOR0.out with ⟨e2, h1, rfl, rfl⟩ | ⟨y, h1, _⟩
        · cases h1
          exact ⟨rfl, keeps_trans HK0.out HK1.out⟩
        · cases h1
      · have HGO := Lib.hid hgo
        obtain ⟨hy, hn2⟩ := hfine
        clear hgo
        simp only [tx, er]
        have hml : out.length + 1 ≤ maxLen := Nat.le_trans (show out.length + 1 ≤ 100002 by omega) (by decide)
        have hmb : (out.length + 1) * 16 ≤ 140737488355328 := by omega
        go_wp2_with (at_builtin; go_loud (refine wpList_append_own _ rfl _ _ 58 rfl w0.heap.size 9 i0 (.string ByteArray.empty) 1 16 Tryz.underlying58 hi hz0 hz1 hz2 rfl (by decide) _ out.length (strCells out) rfl (HOR1.out.alloc _) ⟨w1.heap.size, 0, none⟩ 1 1 [.string (B y)] rfl rfl (cell_one_new _ _ _) (by simp [Value.oneCell']) hml hmb (by simp; omega) ?_; intro v' w2 hown' hgrow _; have HK2 := Lib.hid (keeps_append HK1.out (Nat.le_refl _) hsb0 HOR1.out hgrow); have HOW := Lib.hid hown'; clear hown' hgrow))
        go_roundw
        case rel => exact ⟨i + 1, n2, out ++ [y], by rw [Int.natCast_add]; rfl, by omega, by simp; omega, hn2, by rw [strCells_snoc, List.length_append]; exact HOW.out, HGO.out, HK2.out⟩
        case measure => simp [intOf]; omega
    · obtain rfl : i = l.length := by omega
      have HR : Hid (q = .ok out ∧ nq = m) := Lib.hid (by
        have := HSC.out
        rw [List.drop_length] at this
        simp [eachS, okS] at this
        exact ⟨this.1.symm, this.2.symm⟩)
      clear HSC
      have hall : ∀ x ∈ out, x.length ≤ 1000000 := by
        rcases HEF.out with ⟨e, h, _⟩ | ⟨o, h, _, h3, _⟩
        · rw [HR.out.1] at h; cases h
        · rw [HR.out.1] at h; cases h; exact h3
      have hjl := joinB_le 1000000 out hall
      have HS : Hid (shortS (joinB out) m = some (r, n')) := Lib.hid (by
        rcases HOR0.out with ⟨e2, h1, _⟩ | ⟨y, h1, h2⟩
        · rw [HR.out.1] at h1; cases h1
        · rw [HR.out.1] at h1; cases h1; rw [HR.out.2] at h2; exact h2)
      have hjb : (joinB out).length ≤ 140737488355328 := by
        have : out.length * (1000000 + 1) ≤ 100002 * 1000001 := Nat.mul_le_mul_right _ (by omega)
        omega
      clear hall hjl
      go_wp2_with fail
      have hj := join_any A3 out.length C3 out wr (row_low HOR.out (Nat.zero_le _)) hjb (by omega)
      rw [hol] at hj
      refine hj.mono ?_
      rintro e w1 ⟨rfl, hb1⟩
      have HK1 := Lib.hid (keeps_below HK.out hb1)
      clear hb1
      go_wp2_with fail
      refine (short_any (joinB out) w1).mono ?_
      rintro e w4 ⟨rfl, rfl⟩
      go_wp2_with fail
      go_ret2
      obtain ⟨rfl, rfl⟩ := shortS_eq HS.out
      exact ⟨rfl, keeps_trans HK0.out HK1.out⟩
end Go.Proofs.YtopkcgdfebkbaaaGreatDoor
