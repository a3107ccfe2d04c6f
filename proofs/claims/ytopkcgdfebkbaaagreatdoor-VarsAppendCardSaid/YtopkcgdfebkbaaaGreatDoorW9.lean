/- Walks: what an iterator hands on, gathered; text.Words. -/
import Derived.Test.YtopkcgdfebkbaaaGreatDoorW8
import Derived.Test.YtopkcgdfebkbaaaGreatDoorW4
set_option linter.unusedVariables false
set_option linter.unusedSimpArgs false
namespace Go.Proofs.YtopkcgdfebkbaaaGreatDoor
open Go.RowKit
attribute [local go_sem] B_size B_toList B_extract B_append drop_take_all
attribute [local go_sem] Oper.semAt_some

/-- A box beyond nb with a row of one's own: it abides what an iterator does. -/
theorem box_abides (n₀ m₀ nb Bx : Nat) (t e : TypeId) (size : Nat) (w : World) (hn : nb < n₀) (hB : n₀ ≤ Bx) (hw : w.heap.size ≤ m₀) :
    Abides m₀ nb (fun (pre : List Value) W => (∃ v, Boxed W Bx t v ∧ W.ownsRow n₀ e size v pre.length pre) ∧ w.grownBy W (some nb) ∧ n₀ ≤ W.heap.size) := by
  rintro pre A W row ⟨⟨v, hv, hr⟩, hg, hs⟩ hgr hrow
  have hne : some Bx ≠ row := by
    intro e'
    rcases hrow with h | h
    · rw [h] at e'; cases e'; omega
    · obtain ⟨_, o, ho, hc⟩ := h Bx e'.symm
      rw [show A.heap[Bx]? = _ from hv] at ho; cases ho; cases hc
  have hnr : v.ownBlock = none ∨ v.ownBlock ≠ row := by
    rcases hr.2 with ⟨rfl, _⟩ | ⟨g, cap, cur, rfl, hb, hgb, _⟩
    · exact .inl rfl
    · refine .inr fun e' => ?_
      have e2 : row = some g := by rw [← e']; rfl
      rcases hrow with h | h
      · rw [h] at e2; cases e2; omega
      · obtain ⟨_, o, ho, hc⟩ := h g e2
        rw [hgb] at ho; cases ho; cases hc
  refine ⟨⟨v, hv.kept hgr hne, hr.kept hgr hnr⟩, ?_, Nat.le_trans hs hgr.size⟩
  refine ⟨hgr.os.trans hg.os, hgr.tape.trans hg.tape, hgr.output.trans hg.output, Nat.le_trans hg.size hgr.size, fun i hi hne2 => ?_⟩
  refine (hgr.block i (Nat.lt_of_lt_of_le hi hg.size) ?_).trans (hg.block i hi hne2)
  intro e'
  rcases hrow with h | h
  · exact hne2 (e'.trans h)
  · have := (h i e'.symm).1; omega

theorem below_grown_at {w A B' : World} {row : Option Nat} (h : w.grownBy A row) (hb : Below w.heap.size A B') : w.grownBy B' row :=
  ⟨hb.os.trans h.os, hb.tape.trans h.tape, hb.output.trans h.output, Nat.le_trans h.size hb.size, fun i hi hne => (hb.block i hi).trans (h.block i hi hne)⟩
theorem grown_put {w A : World} {row : Option Nat} (h : w.grownBy A row) (D : Nat) (o : Obj) (hD : w.heap.size ≤ D) : w.grownBy (A.putObj D o) row :=
  ⟨h.os, h.tape, h.output, by simp; exact h.size, fun i hi hne => (World.putObj_heap_other (by omega)).trans (h.block i hi hne)⟩

theorem info9 : (Tryz.prog.info? 9).map (fun i => (i.zero, i.size, i.bytes)) = some (some (.string ByteArray.empty), 1, 16) := by kernel_rfl

set_option maxRecDepth 100000 in
set_option maxHeartbeats 1000000 in
theorem gather_any (gf : Nat) (lb : Array Value) (nb : Nat) (l : List Bytes) (w : World) (hg : Gives gf lb nb (strCells l) w) (hnb : nb < w.heap.size) (eg : ∀ args w, (callFunc gf args).run Tryz.prog w = .ok (.enter gf args) w) (hl : l.length ≤ 1000000000000) :
    Calls Tryz.prog 150 #[.func (.func gf) #[] lb] w fun e w' => ∃ A C, e = .returned (.slice A l.length C) ∧ w'.ownsRow w.heap.size 9 1 (.slice A l.length C) l.length (strCells l) ∧ w.grownBy w' (some nb) := by
  obtain ⟨i0, hi, hz0, hz1, hz2⟩ := info_parts info9
  have HL := Lib.hid (strCells_length l)
  refine (callsIn_wide (n := 0)).1 ?_
  refine callsIn_of_wp_marks Tryz.func150 rfl trivial ?_ rfl
  simp only [Tryz.ntmps150, List.size_toArray, List.length_cons, List.length_nil, Nat.reduceAdd, Nat.reduceSub, Array.replicate_succ, Array.replicate_zero, List.push_toArray, List.append_toArray, List.nil_append, List.cons_append]
  gi_wp2
  have bO := Boxed.new w 58 (.slice none 0 0)
  have HG := Lib.hid hg
  clear hg
  refine wpIn_range 0 (gf := gf) (lb := lb) rfl eg HG.out (by simp; omega) (Below.heap_alloc w _ nb hnb)
    (fun pre W => (∃ v, Boxed W w.heap.size 58 v ∧ W.ownsRow w.heap.size 9 1 v pre.length pre) ∧ w.grownBy W (some nb) ∧ w.heap.size ≤ W.heap.size)
    (fun _ _ _ => False)
    (box_abides w.heap.size _ nb w.heap.size 58 9 1 w hnb (Nat.le_refl _) (by simp))
    (fun _ _ _ _ _ hs _ _ => hs)
    ⟨⟨_, bO, World.ownsRow_nil _ _ _ _⟩, World.grownBy_alloc _ _ _, by simp⟩
    (fun x => { tmps := #[.func (.func gf) #[] lb, undef, .slice none 0 0, .pointer (some ⟨w.heap.size, 0, none⟩), x, .func (.func gf) #[] lb, x, undef, undef, undef, undef, undef], defers := [] }) ?assign ?body ?done ?stop
  case assign =>
    intro l x W m K hK
    gi_wp2
    exact hK
  case body =>
    rintro r m pre x W hpre ⟨⟨v, hv, hrow⟩, hgr, hsz⟩ hlt
    have hc := hv.cell
    obtain ⟨b, rfl⟩ : ∃ b, x = Value.string b := by
      have : x ∈ strCells l := hpre.subset (by simp)
      simp [strCells] at this
      obtain ⟨c, _, rfl⟩ := this
      exact ⟨_, rfl⟩
    have hpl : pre.length + 1 ≤ l.length := by
      have := hpre.length_le
      rw [HL.out] at this
      simpa using this
    have HPL := Lib.hid hpre
    clear hpre
    have hm1 : pre.length + 1 ≤ maxLen := Nat.le_trans hpl (Nat.le_trans hl (by decide))
    have hm2 : (pre.length + 1) * 16 ≤ 140737488355328 := by omega
    have hm3 : w.heap.size ≤ (W.alloc (Obj.cells #[Value.string b] 9)).heap.size := by simp; omega
    gi_wp2_with (gi_at_builtin; refine wpListIn_append_own _ rfl _ _ 58 rfl w.heap.size 9 i0 (.string ByteArray.empty) 1 16 Tryz.underlying58 hi hz0 hz1 hz2 rfl (by decide) _ _ _ rfl (hrow.alloc _) ⟨W.heap.size, 0, none⟩ 1 1 [.string b] rfl rfl (cell_one_new _ _ _) (by simp [Value.oneCell']) hm1 hm2 hm3 ?_; intro v' w1 hown' hgrow _; obtain ⟨g', cap', rfl⟩ := ownsRow_succ hown'; obtain ⟨hv1, hv2, hr2, hk2, hb2⟩ := hv.appended (by decide) hrow hsz (Nat.le_refl _) hown' hgrow; have hc1 := hv1.cell; have hf1 := hv1.frozen)
    exact ⟨⟨hk2.size, fun k o _ ho hc => hk2.same k o ho hc, hb2.block nb hnb⟩, ⟨_, hv2, by simpa using hr2⟩, below_grown_at hgr hb2, Nat.le_trans hsz hk2.size⟩
  case done =>
    rintro D W hD ⟨⟨v, hv, hrow⟩, hgr, hsz⟩ hK
    have hc := hv.cell
    gi_wp2
    refine ⟨by simp, .inl ⟨_, _, rfl, run_takeDeferred hK, ?_⟩⟩
    rw [HL.out] at hrow
    obtain ⟨A, C, rfl⟩ := row_slice hrow
    exact ⟨_, results_tmp rfl _ _ _, A, C, rfl, ownsRow_putObj hrow _ hK rfl, grown_put hgr D _ (by simp at hD; omega)⟩
  case stop =>
    rintro D c pre W _ _ h _
    exact h.elim

set_option maxRecDepth 100000 in
set_option maxHeartbeats 1000000 in
theorem wordsSeq_any (s : Bytes) (w : World) :
    Calls Tryz.prog 160 #[.string (B s)] w fun e w' => e = .returned (.func (.func 232) #[] #[.pointer (some ⟨w.heap.size, 0, none⟩)]) ∧ w' = w.alloc (.cells #[.string (B s)] 9) := by
  go_enter Tryz.func160, Tryz.ntmps160
  go_wp2
  go_ret
  exact ⟨rfl, rfl⟩

theorem wordsF_length : ∀ (k : Nat) (s : Bytes), (wordsF k s).length ≤ k
  | 0, _ => Nat.le_refl _
  | k + 1, s => by
    unfold wordsF
    simp only
    split
    · simp
    · have := wordsF_length k ((Lib.trimLeftS s blanks).dropWhile (fun c => !isBlank c))
      simp; exact this
theorem wordsB_length (s : Bytes) : (wordsB s).length ≤ s.length + 1 := wordsF_length _ s

set_option maxRecDepth 100000 in
set_option maxHeartbeats 1000000 in
theorem words_any (s : Bytes) (w : World) (hs : s.length ≤ 1000000000) :
    Calls Tryz.prog 103 #[.string (B s)] w fun e w' => ∃ A C, e = .returned (.slice A (wordsB s).length C) ∧ w'.ownsRow w.heap.size 9 1 (.slice A (wordsB s).length C) (wordsB s).length (strCells (wordsB s)) ∧ Below w.heap.size w w' := by
  have hb := Blk.new w 9 #[.string (B s)] rfl
  have HL := Lib.hid (wordsB_length s)
  go_enter Tryz.func103, Tryz.ntmps103
  go_wp2_with fail
  refine (wordsSeq_any s w).mono ?_
  rintro e w1 ⟨rfl, rfl⟩
  go_wp2_with fail
  refine (gather_any 232 _ w.heap.size (wordsB s) _ (words_gives s w.heap.size _ hb (by omega)) (by simp) (enters_of Tryz.func232 (by kernel_rfl) rfl) (by have := HL.out; omega)).mono ?_
  rintro e w2 ⟨A, C, rfl, hr, hg⟩
  go_wp2
  go_ret
  refine ⟨A, C, rfl, row_low hr (by simp), ?_⟩
  exact ⟨hg.os, hg.tape, hg.output, Nat.le_trans (by simp) hg.size, fun i hi => (hg.block i (by simp; omega) (by simp; omega)).trans (Below.heap_alloc w _ i hi)⟩
end Go.Proofs.YtopkcgdfebkbaaaGreatDoor
