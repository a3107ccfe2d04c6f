/- Plain: how long an answer is, how many steps there were. -/
import Derived.Test.YtopkcgdfebkbaaaGreatDoorW22
set_option linter.unusedVariables false
set_option linter.unusedSimpArgs false
namespace Go.Proofs.YtopkcgdfebkbaaaGreatDoor

theorem fine_mono {M M' n : Nat} {r : Except Nat Bytes} (h : Fine M n r) (hm : M ≤ M') : Fine M' n r := by
  cases r with
  | ok b => exact ⟨Nat.le_trans h.1 hm, h.2⟩
  | error e => exact h
theorem fine_okS {M n n' : Nat} {b : Bytes} {r : Except Nat Bytes} (h : okS b n = some (r, n')) (hb : b.length ≤ M) (hn : n ≤ 2000) : Fine M n' r := by
  simp [okS] at h
  obtain ⟨rfl, rfl⟩ := h
  exact ⟨hb, hn⟩
theorem fine_errS {M n n' e : Nat} {r : Except Nat Bytes} (h : errS e n = some (r, n')) (h0 : e ≠ 0) (h1 : e ≤ 100) : Fine M n' r := by
  simp [errS] at h
  obtain ⟨rfl, rfl⟩ := h
  exact ⟨h0, h1⟩
theorem fine_step {M n n' : Nat} {f : Unit → St Bytes} {r : Except Nat Bytes} (h : andS stepS f n = some (r, n')) (hf : n + 1 ≤ 2000 → f () (n + 1) = some (r, n') → Fine M n' r) : Fine M n' r := by
  unfold andS stepS at h
  by_cases h2 : 2000 < n + 1
  · rw [if_pos h2] at h
    simp at h
    obtain ⟨rfl, rfl⟩ := h
    exact ⟨by decide, by decide⟩
  · rw [if_neg h2] at h
    exact hf (by omega) h
theorem fine_short {b : Bytes} {n n' : Nat} {r : Except Nat Bytes} (h : shortS b n = some (r, n')) (hn : n ≤ 2000) : Fine 4000 n' r := by
  unfold shortS at h
  split at h
  · exact fine_errS h (by decide) (by decide)
  · exact fine_okS h (by omega) hn

theorem value_fit (ex : List Var → Bytes → St Bytes) (K : Nat) (fE : Fit 4000 ex K) : Fit 100000 (valueB (some ex)) K := by
  intro v t n r n' henv ht hn h
  cases hx : getV v t with
  | none => rw [valueB, hx] at h; exact fine_okS h (by simp) hn
  | some x =>
    rw [valueB, hx] at h
    simp only at h
    have hm := henv.txt x (getV_mem hx)
    split at h
    · exact fine_okS h hm hn
    · exact fine_step h fun h1 h2 => fine_mono (fE v x.text (n + 1) r n' henv hm h1 h2) (by decide)
theorem value_fit_none (K : Nat) : Fit 100000 (valueB none) K := by
  intro v t n r n' henv ht hn h
  cases hx : getV v t with
  | none => rw [valueB, hx] at h; exact fine_okS h (by simp) hn
  | some x =>
    rw [valueB, hx] at h
    simp only at h
    split at h
    · exact fine_okS h (henv.txt x (getV_mem hx)) hn
    · exact fine_errS h (by decide) (by decide)

theorem scanF_fine (rf vl : Bytes → St Bytes) (hr : ∀ x n q n2, x.length ≤ 100000 → n ≤ 2000 → rf x n = some (q, n2) → Fine 100000 n2 q) (hv : ∀ x n q n2, x.length ≤ 100000 → n ≤ 2000 → vl x n = some (q, n2) → Fine 100000 n2 q) :
    ∀ (k : Nat) (t acc : Bytes) (n n' : Nat) (r : Except Nat Bytes), t.length ≤ 100000 → n ≤ 2000 → scanF rf vl k t acc n = some (r, n') → Fine 4000 n' r
  | 0, _, _, _, _, _, _, _, h => by simp [scanF] at h
  | k + 1, t, acc, n, n', r, ht, hn, h => by
    have hlen := cut1_length t 36
    have hfound := fun h => cut1_found (s := t) (c := 36) h
    unfold scanF at h
    rw [show Lib.cut t [36] = cut1 t 36 from rfl] at h
    generalize cut1 t 36 = q at *
    obtain ⟨q1, q2, q3⟩ := q
    simp only at h hlen hfound
    cases q3 with
    | false => exact fine_short (by simpa using h) hn
    | true =>
      have hf2 := hfound rfl
      rw [if_pos rfl] at h
      cases q2 with
      | nil => exact fine_errS h (by decide) (by decide)
      | cons c x =>
        simp only [List.length_cons] at hf2 hlen
        simp only at h
        split at h
        · exact scanF_fine rf vl hr hv k x _ n n' r (by omega) hn h
        · split at h
          · cases hin : innerB (36 :: c :: x) with
            | none => rw [hin] at h; exact fine_errS h (by decide) (by decide)
            | some p =>
              obtain ⟨x2, rest⟩ := p
              have hle := innerB_le hin
              simp only [List.length_cons] at hle
              rw [hin] at h
              obtain ⟨q, n2, hq, hor⟩ := andS_cases h
              have hfine := hr x2 n q n2 (by omega) hn hq
              rcases hor with ⟨e, rfl, rfl, rfl⟩ | ⟨y, rfl, hgo⟩
              · exact hfine
              · exact scanF_fine rf vl hr hv k rest _ n2 n' r (by omega) hfine.2 hgo
          · obtain ⟨q, n2, hq, hor⟩ := andS_cases h
            have hfine := hv [c] n q n2 (by simp) hn hq
            rcases hor with ⟨e, rfl, rfl, rfl⟩ | ⟨y, rfl, hgo⟩
            · exact hfine
            · exact scanF_fine rf vl hr hv k x _ n2 n' r (by omega) hfine.2 hgo
theorem scan_fit (rf vl : List Var → Bytes → St Bytes) (K : Nat) (fR : Fit 100000 rf K) (fV : Fit 100000 vl K) : Fit 4000 (fun v t => scanF (rf v) (vl v) (t.length + 1) t []) K :=
  fun v t n r n' henv ht hn h => scanF_fine (rf v) (vl v) (fun x n q n2 hx hn hq => fR v x n q n2 henv hx hn hq) (fun x n q n2 hx hn hq => fV v x n q n2 henv hx hn hq) _ t [] n n' r ht hn h

theorem wordsS_fine (f : Bytes → St Bytes) (fW : FitW 1000000 f) (t : Bytes) (n n' : Nat) (r : Except Nat Bytes) (ht : t.length ≤ 100000) (hn : n ≤ 2000) (h : wordsS f t n = some (r, n')) : Fine 4000 n' r := by
  obtain ⟨q, n2, hq, hor⟩ := andS_cases (show andS (eachS f (wordsB t) []) (fun l => shortS (joinB l)) n = some (r, n') from h)
  rcases eachS_fine 1000000 f fW (wordsB t) [] n n2 q (fun x hx => Nat.le_trans (wordsB_le t x hx) ht) (by simp) hn hq with ⟨e, rfl, he⟩ | ⟨o, rfl, _, _, hn2⟩
  · rcases hor with ⟨e2, h1, rfl, rfl⟩ | ⟨y, h1, _⟩
    · cases h1; exact he
    · cases h1
  · rcases hor with ⟨e2, h1, _⟩ | ⟨y, h1, h2⟩
    · cases h1
    · cases h1; exact fine_short h2 hn2

theorem turned_fine (L : Lev) (K : Nat) (fE : Fit 4000 L.ex K) (fV : Fit 100000 L.vl K) (v : List Var) (henv : Env K v) (name p q : Bytes) (n n' : Nat) (r : Except Nat Bytes) (h1 : name.length ≤ 100000) (h2 : p.length ≤ 100000) (h3 : q.length ≤ 100000) (hn : n ≤ 2000) (h : turnedB L v name p q n = some (r, n')) : Fine 4000 n' r := by
  obtain ⟨qr, n2, hq, hor⟩ := andS_cases (show andS (allS (L.ex v) [name, p, q] []) _ n = some (r, n') from h)
  rcases allS_fine L.ex K fE v henv [name, p, q] [] n n2 qr (by intro x hx; simp at hx; rcases hx with rfl | rfl | rfl <;> assumption) (by simp) hn hq with ⟨e, rfl, he⟩ | ⟨o, rfl, ho, hol, hn2⟩
  · rcases hor with ⟨e2, h1, rfl, rfl⟩ | ⟨y, h1, _⟩
    · cases h1; exact he
    · cases h1
  · rcases hor with ⟨e2, h1, _⟩ | ⟨y, h1, hgo⟩
    · cases h1
    · cases h1
      obtain ⟨a, b, c, rfl⟩ : ∃ a b c, o = [a, b, c] := by
        match o, ho with
        | [a, b, c], _ => exact ⟨a, b, c, rfl⟩
      have ha := hol a (by simp)
      have hb := hol b (by simp)
      have hc := hol c (by simp)
      obtain ⟨qs, n3, hvl, hor2⟩ := andS_cases hgo
      have hfi := fV v a n2 qs n3 henv (by omega) hn2 hvl
      rcases hor2 with ⟨e2, rfl, rfl, rfl⟩ | ⟨y, rfl, hg⟩
      · exact hfi
      · simp only [List.getD_cons_succ, List.getD_cons_zero] at hg
        split at hg
        · exact wordsS_fine _ (turnedFit b c (by omega)) y n3 n' r hfi.1 hfi.2 hg
        · exact wordsS_fine _ (turnedFit (37 :: b) (37 :: c) (by simp; omega)) y n3 n' r hfi.1 hfi.2 hg
end Go.Proofs.YtopkcgdfebkbaaaGreatDoor
