/- Walks: a scope with one variable more; what is turned. -/
import Derived.Test.YtopkcgdfebkbaaaGreatDoorW20
set_option linter.unusedVariables false
set_option linter.unusedSimpArgs false
namespace Go.Proofs.YtopkcgdfebkbaaaGreatDoor
open Go.RowKit
attribute [local go_sem] B_size B_toList B_extract B_append drop_take_all

theorem VR_far {w : World} {v : Value} {l : List Var} (h : VR w v l) {g : Nat} {t : TypeId} {cs : Array Value} (hb : Blk w g t cs) (ht : t ≠ 36) (i : Nat) (u : Value) : VR (w.setCell ⟨g, i, none⟩ u) v l := by
  refine h.kept (row := some g) ⟨rfl, rfl, rfl, by simp [World.setCell], fun k hk hne => Below.heap_setCell w ⟨g, i, none⟩ u k (by simpa using hne)⟩ ?_
  rcases h.2 with ⟨rfl, _⟩ | ⟨g2, cap, cur, rfl, _, hg, _⟩
  · exact .inl rfl
  · refine .inr fun e => ?_
    have e2 : g2 = g := by simpa [Value.ownBlock] using e
    subst e2
    unfold Blk at hb
    rw [hg] at hb
    cases hb
    exact ht rfl

set_option maxRecDepth 100000 in
set_option maxHeartbeats 1000000 in
theorem with_any (v : List Var) (A : Option Addr) (N C D sb : Nat) (w : World) (name t : Bytes) (hv : VR w (.slice A N C) v) (ho : InOrder v) (hN : N ≤ 100000000) :
    Calls Tryz.prog 214 #[scV A N C D sb, .string (B name), .string (B t)] w fun e w' => ∃ A' N' C', e = .returned (scV A' N' C' D sb) ∧ VR w' (.slice A' N' C') (insV ⟨name, t, true⟩ v) ∧ Below w.heap.size w w' := by
  have HV := Lib.hid hv
  clear hv
  unfold scV
  go_enter Tryz.func214, Tryz.ntmps214
  go_wp2_with fail
  have HB0 : Hid (Below w.heap.size w ((w.alloc (.cells #[.slice A N C, .int .i64 D, .pointer (some ⟨sb, 0, none⟩)] 104)).alloc (.cells #[.slice none 0 0, .int .i64 0, .pointer none] 104))) := Lib.hid (((Below.refl _ w).alloc (Nat.le_refl _) _).alloc (by simp) _)
  refine (set_any A N C v ⟨name, t, true⟩ _ (row_below HV.out HB0.out) ho hN).mono ?_
  rintro e w1 ⟨A', N', C', rfl, hv', hb⟩
  have BX := Lib.hid (((Blk.new w 104 #[.slice A N C, .int .i64 D, .pointer (some ⟨sb, 0, none⟩)] rfl).alloc (.cells #[.slice none 0 0, .int .i64 0, .pointer none] 104)).below hb)
  have BY := Lib.hid ((Blk.new (w.alloc (.cells #[.slice A N C, .int .i64 D, .pointer (some ⟨sb, 0, none⟩)] 104)) 104 #[.slice none 0 0, .int .i64 0, .pointer none] (g := w.heap.size + 1) (by simp)).below hb)
  have HB1 := Lib.hid (below_then HB0.out HB0.out.size hb)
  have HV1 := Lib.hid hv'
  have hsz := HB1.out.size
  clear hb hv'
  obtain ⟨b1, b2, b3⟩ := BX.out.c
  obtain ⟨c1, c2, c3⟩ := BY.out.c
  go_wp2_with fail
  refine bodyPost_ret (v := .agg #[.slice A' N' C', .int .i64 D, .pointer (some ⟨sb, 0, none⟩)]) (by simp [results, Tryz.results214, go_sem, b1, b2, c1, c2]) rfl ?_
  refine ⟨A', N', C', rfl, ?_, (((HB1.out.setCell (p := ⟨w.heap.size, 0, none⟩) (Nat.le_refl _) _).setCell (p := ⟨w.heap.size + 1, 0, none⟩) (Nat.le_succ _) _).setCell (p := ⟨w.heap.size + 1, 1, none⟩) (Nat.le_succ _) _).setCell (p := ⟨w.heap.size + 1, 2, none⟩) (Nat.le_succ _) _⟩
  have y1 := BY.out.far (p := ⟨w.heap.size, 0, none⟩) (by simp) (.slice A' N' C')
  exact VR_far (VR_far (VR_far (VR_far HV1.out BX.out (by decide) _ _) y1 (by decide) _ _) (y1.set_ 0 _) (by decide) _ _) ((y1.set_ 0 _).set_ 1 _) (by decide) _ _

theorem fillB_le (q stem : Bytes) : (fillB q stem).length ≤ q.length + stem.length := by
  unfold fillB
  split
  · have h := cut1_length q 37
    unfold cut1 at h
    simp
    omega
  · omega
theorem matchB_le {p s stem : Bytes} (hm : matchB p s = some stem) : stem.length ≤ s.length := by
  unfold matchB at hm
  simp only at hm
  repeat' split at hm
  all_goals first | (cases hm; simp; done) | (cases hm; simp; omega) | cases hm
theorem substB_le (p q s : Bytes) : (substB p q s).length ≤ q.length + s.length := by
  unfold substB
  cases hm : matchB p s with
  | none => simp
  | some stem =>
    have h1 := fillB_le q stem
    have h2 := matchB_le hm
    simp only
    omega

/-- The closure that turns a word: its two patterns lie in boxes. -/
theorem turnedW (bp bq : Nat) (p q : Bytes) (sb : Nat) (w0 : World) (hp : Blk w0 bp 9 #[.string (B p)]) (hq : Blk w0 bq 9 #[.string (B q)]) (hps : bp ≠ sb) (hqs : bq ≠ sb) (hlp : p.length ≤ 500000) (hlq : q.length ≤ 500000) :
    OwesW 219 #[.pointer (some ⟨bp, 0, none⟩), .pointer (some ⟨bq, 0, none⟩)] (fun x => okS (substB p q x)) sb w0 := by
  intro x n1 n2 r W hk hn hx hf
  have hR : r = .ok (substB p q x) ∧ n2 = n1 := by
    simp [okS] at hf
    exact ⟨hf.1.symm, hf.2.symm⟩
  obtain ⟨rfl, rfl⟩ := hR
  have hc := Lib.hid hk.cnt
  obtain ⟨b1, b2, b3⟩ := (hp.keeps hk hps).c
  obtain ⟨c1, c2, c3⟩ := (hq.keeps hk hqs).c
  clear hk hf hp hq
  show Calls _ 219 #[.string (B x), .pointer (some ⟨bp, 0, none⟩), .pointer (some ⟨bq, 0, none⟩)] W _
  go_enter Tryz.func219, Tryz.ntmps219
  go_wp2_with fail
  refine (subst_any p q x W (by omega) (by omega) (by omega)).mono ?_
  rintro e w1 ⟨rfl, hb⟩
  have HK := Lib.hid (keeps_below (keeps_refl hc.out) hb)
  clear hb
  go_wp2_with fail
  go_ret2
  exact ⟨rfl, HK.out⟩
theorem turnedFit (p q : Bytes) (hlq : q.length ≤ 500000) : FitW 1000000 (fun x => okS (substB p q x)) := by
  intro x n r n' hx hn hf
  simp [okS] at hf
  obtain ⟨rfl, rfl⟩ := hf
  have := substB_le p q x
  exact ⟨by omega, hn⟩
end Go.Proofs.YtopkcgdfebkbaaaGreatDoor
