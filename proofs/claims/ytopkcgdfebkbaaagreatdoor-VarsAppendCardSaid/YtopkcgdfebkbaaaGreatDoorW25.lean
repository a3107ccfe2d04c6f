/- Plain: how long a reference's answer is; all levels. -/
import Derived.Test.YtopkcgdfebkbaaaGreatDoorW23
import Derived.Test.YtopkcgdfebkbaaaGreatDoorW24
set_option linter.unusedVariables false
set_option linter.unusedSimpArgs false
namespace Go.Proofs.YtopkcgdfebkbaaaGreatDoor

/-- What is known of the answers of the functions of words. -/
def CallFit (cf : CallF) : Prop := ∀ name l r, cf name l = some r → match r with | .ok b => b.length ≤ 4000 | .error e => e ≠ 0 ∧ e ≤ 100

theorem getD_le {l : List Bytes} {M : Nat} (h : ∀ x ∈ l, x.length ≤ M) (i : Nat) : (l.getD i []).length ≤ M := by
  rw [List.getD_eq_getElem?_getD]
  cases hx : l[i]? with
  | none => simp
  | some x => exact h x (List.mem_of_getElem? hx)
theorem trimB_le (s : Bytes) : (trimB s).length ≤ s.length := by
  have h1 := trimLeftS_le (Lib.trimRightS s blanks)
  have h2 := dropWhile_le (blanks.contains ·) s.reverse
  have h3 : (Lib.trimRightS s blanks).length = (s.reverse.dropWhile (blanks.contains ·)).length := by unfold Lib.trimRightS; rw [List.length_reverse]
  rw [List.length_reverse] at h2
  show (Lib.trimLeftS (Lib.trimRightS s blanks) blanks).length ≤ _
  omega
theorem Env.mono {K K' : Nat} {v : List Var} (h : Env K v) (hk : K ≤ K') : Env K' v := ⟨h.ord, Nat.le_trans h.len hk, h.txt⟩
theorem Env.args : ∀ {l : List Bytes} {v : List Var} {K : Nat} (i : Nat), Env K v → (∀ x ∈ l, x.length ≤ 100000) → Env (K + l.length) (withArgs v i l)
  | [], v, K, i, h, _ => h
  | t :: r, v, K, i, h, hl => by
    have := Env.args (l := r) (i + 1) (h.ins ⟨Lib.itoa (i + 1), t, true⟩ (hl t (by simp))) (fun x hx => hl x (by simp [hx]))
    rw [show K + (t :: r).length = K + 1 + r.length by simp; omega]
    exact this

theorem function_fine (cf : CallF) (hcf : CallFit cf) (L : Lev) (fE : ∀ K, Fit 4000 L.ex K) (K : Nat) (v : List Var) (henv : Env K v) (name : Bytes) (l : List Bytes) (n n' : Nat) (r : Except Nat Bytes) (hl : ∀ x ∈ l, x.length ≤ 100000) (hn : n ≤ 2000)
    (h : functionB cf L v name l n = some (r, n')) : Fine 4000 n' r := by
  unfold functionB at h
  split at h
  · obtain ⟨q, n2, hq, hor⟩ := andS_cases h
    have hfi := fE K v _ n q n2 henv (getD_le hl 0) hn hq
    rcases hor with ⟨e, rfl, rfl, rfl⟩ | ⟨y, rfl, hg⟩
    · exact hfi
    · split at hg
      · exact fE K v _ n2 r n' henv (getD_le hl 1) hfi.2 hg
      · split at hg
        · exact fine_okS hg (by simp) hfi.2
        · exact fE K v _ n2 r n' henv (getD_le hl 2) hfi.2 hg
  · split at h
    · obtain ⟨q, n2, hq, hor⟩ := andS_cases h
      rcases allS_fine L.ex K (fE K) v henv (l.take 2) [] n n2 q (fun x hx => hl x (List.mem_of_mem_take hx)) (by simp) hn hq with ⟨e, rfl, he⟩ | ⟨o, rfl, ho, hol, hn2⟩
      · rcases hor with ⟨e2, h1, rfl, rfl⟩ | ⟨y, h1, _⟩
        · cases h1; exact he
        · cases h1
      · rcases hor with ⟨e2, h1, _⟩ | ⟨y, h1, hg⟩
        · cases h1
        · cases h1
          refine wordsS_fine _ ?_ _ n2 n' r (Nat.le_trans (getD_le hol 1) (by decide)) hn2 hg
          intro x m q m2 hx hm hq
          exact fine_step hq fun h1 h2 => fine_mono (fE (K + 1) _ _ _ _ _ (henv.ins ⟨trimB (o.getD 0 []), x, true⟩ hx) (getD_le hl 2) h1 h2) (by decide)
    · obtain ⟨q, n2, hq, hor⟩ := andS_cases h
      rcases allS_fine L.ex K (fE K) v henv l [] n n2 q hl (by simp) hn hq with ⟨e, rfl, he⟩ | ⟨o, rfl, ho, hol, hn2⟩
      · rcases hor with ⟨e2, h1, rfl, rfl⟩ | ⟨y, h1, _⟩
        · cases h1; exact he
        · cases h1
      · rcases hor with ⟨e2, h1, _⟩ | ⟨y, h1, hg⟩
        · cases h1
        · cases h1
          split at hg
          · unfold callS at hg
            cases hc : cf name o with
            | none => rw [hc] at hg; cases hg
            | some x =>
              rw [hc] at hg
              cases hg
              have := hcf name o r hc
              cases r with
              | ok b => exact ⟨this, hn2⟩
              | error e => exact this
          · cases hx : getV v (trimB (o.getD 0 [])) with
            | none => rw [hx] at hg; exact fine_okS hg (by simp) hn2
            | some x =>
              rw [hx] at hg
              refine fE _ _ x.text n2 r n' (Env.args 0 (henv.ins ⟨[48], trimB (o.getD 0 []), true⟩ ?_) ?_) (henv.txt x (getV_mem hx)) hn2 hg
              · exact Nat.le_trans (trimB_le _) (Nat.le_trans (getD_le hol 0) (by decide))
              · intro y hy
                exact Nat.le_trans (hol y (List.mem_of_mem_drop hy)) (by decide)

theorem named_fine (L : Lev) (K : Nat) (fE : Fit 4000 L.ex K) (fV : Fit 100000 L.vl K) (v : List Var) (henv : Env K v) (c : Bytes) (hc : c.length ≤ 100000) (n n' : Nat) (r : Except Nat Bytes) (hn : n ≤ 2000) (h : namedB L v c n = some (r, n')) : Fine 100000 n' r := by
  have h1 := cutB_le c [[58]]
  have h2 := cutB_le (cutB c [[58]]).2.2 [[61]]
  unfold namedB at h
  split at h
  · exact fine_mono (turned_fine L K fE fV v henv _ _ _ n n' r (by omega) (by omega) (by omega) hn h) (by decide)
  · obtain ⟨q, n2, hq, hor⟩ := andS_cases h
    have hfi := fE v c n q n2 henv hc hn hq
    rcases hor with ⟨e, rfl, rfl, rfl⟩ | ⟨y, rfl, hg⟩
    · exact hfi
    · exact fV v y n2 r n' henv (Nat.le_trans hfi.1 (by decide)) hfi.2 hg

theorem refer_fit (cf : CallF) (hcf : CallFit cf) (L : Lev) (fE : ∀ K, Fit 4000 L.ex K) (fV : ∀ K, Fit 100000 L.vl K) (K : Nat) : Fit 100000 (referB cf (some L)) K := by
  intro v c n r n' henv hc hn h
  refine fine_step (show andS stepS (fun _ => referIn cf L v c) n = some (r, n') from h) fun h1 h2 => ?_
  unfold referIn at h2
  simp only at h2
  split at h2
  · split at h2
    · exact named_fine L K (fE K) (fV K) v henv c hc _ n' r h1 h2
    · split at h2
      · exact fine_errS h2 (by decide) (by decide)
      · refine fine_mono (function_fine cf hcf L fE K v henv _ _ _ n' r ?_ h1 h2) (by decide)
        intro x hx
        have a1 := (argsB_le _ _).1 x hx
        have a2 := trimLeftS_le (c.drop (Lib.indexAny c blanks).toNat)
        have a3 : (c.drop (Lib.indexAny c blanks).toNat).length = c.length - (Lib.indexAny c blanks).toNat := List.length_drop
        omega
  · exact named_fine L K (fE K) (fV K) v henv c hc _ n' r h1 h2
theorem refer_fit_none (cf : CallF) (K : Nat) : Fit 100000 (referB cf none) K := by
  intro v c n r n' henv hc hn h
  exact fine_errS h (by decide) (by decide)

theorem lev_fit (cf : CallF) (hcf : CallFit cf) : ∀ d K, Fit 4000 (lev cf d).ex K ∧ Fit 100000 (lev cf d).vl K
  | 0, K => ⟨scan_fit _ _ K (refer_fit_none cf K) (value_fit_none K), value_fit_none K⟩
  | d + 1, K => by
    have hx := fun K => (lev_fit cf hcf d K).1
    have hv := fun K => (lev_fit cf hcf d K).2
    exact ⟨scan_fit _ _ K (refer_fit cf hcf _ hx hv K) (value_fit _ K (hx K)), value_fit _ K (hx K)⟩
end Go.Proofs.YtopkcgdfebkbaaaGreatDoor
