/- Walks: rows. -/
import Derived.Test.YtopkcgdfebkbaaaGreatDoorW30
import Derived.Test.YtopkcgdfebkbaaaGreatDoorV1
set_option linter.unusedVariables false
set_option linter.unusedSimpArgs false
namespace Go.Proofs.YtopkcgdfebkbaaaGreatDoor
open Go.RowKit
attribute [local go_sem] B_size B_toList B_extract B_append drop_take_all

/-- The variables that rows sets, one behind the other. -/
def rowsV (l : List Var) : List Var := l.foldl (fun v x => insV x v) []
def rowFine (x : Var) : Bool := decide (x.name.length ≤ 60) && decide (x.text.length ≤ 600)
def rowsFine (l : List Var) : Bool := decide (l.length ≤ 30) && l.all rowFine
theorem rowsV_snoc (l : List Var) (x : Var) : rowsV (l ++ [x]) = insV x (rowsV l) := by simp [rowsV]
theorem rowsV_facts_at : ∀ (l acc : List Var) (n : Nat), (∀ x ∈ l, rowFine x = true) → (InOrder acc ∧ acc.length ≤ n ∧ ∀ x ∈ acc, x.text.length ≤ 600 ∧ x.name.length ≤ 60) →
    InOrder (l.foldl (fun v x => insV x v) acc) ∧ (l.foldl (fun v x => insV x v) acc).length ≤ n + l.length ∧ ∀ x ∈ l.foldl (fun v x => insV x v) acc, x.text.length ≤ 600 ∧ x.name.length ≤ 60
  | [], acc, n, _, h => by simpa using h
  | x :: l, acc, n, hl, ⟨h1, h2, h3⟩ => by
    have hx := hl x (by simp)
    simp [rowFine] at hx
    have := rowsV_facts_at l (insV x acc) (n + 1) (fun y hy => hl y (by simp [hy])) ⟨insV_order x h1, Nat.le_trans (insV_length x acc) (by omega), by
      intro y hy
      rcases insV_mem hy with rfl | hy
      · exact ⟨hx.2, hx.1⟩
      · exact h3 y hy⟩
    refine ⟨this.1, ?_, this.2.2⟩
    have h4 := this.2.1
    simp only [List.length_cons, List.foldl_cons] at h4 ⊢
    omega
theorem rowsV_facts (l : List Var) (h : ∀ x ∈ l, rowFine x = true) : InOrder (rowsV l) ∧ (rowsV l).length ≤ l.length ∧ ∀ x ∈ rowsV l, x.text.length ≤ 600 ∧ x.name.length ≤ 60 := by
  have := rowsV_facts_at l [] 0 h ⟨List.Pairwise.nil, by simp, by simp⟩
  rw [Nat.zero_add] at this
  exact this
theorem rowsV_env (l : List Var) (h : rowsFine l = true) : Env 30 (rowsV l) := by
  simp [rowsFine] at h
  obtain ⟨h1, h2, h3⟩ := rowsV_facts l (fun x hx => h.2 x hx)
  exact ⟨h1, by omega, fun x hx => by have := (h3 x hx).1; omega⟩

/-- Variables that a slice holds, wherever it lies. -/
def Lies (w : World) (b o : Nat) (l : List Var) : Prop :=
  ∀ (k : Nat) (x : Var), l[k]? = some x → w.cell? ⟨b, o + k * 3, none⟩ = some (.string (B x.name)) ∧ w.cell? ⟨b, o + k * 3 + 1, none⟩ = some (.string (B x.text)) ∧ w.cell? ⟨b, o + k * 3 + 2, none⟩ = some (.bool x.simple)
theorem Lies.below {w W : World} {b o : Nat} {l : List Var} (h : Lies w b o l) (hb : Below w.heap.size w W) : Lies W b o l := fun k x hx => by
  obtain ⟨h1, h2, h3⟩ := h k x hx
  exact ⟨(hb.cell (p := ⟨b, o + k * 3, none⟩) (World.block_lt_of_cell? _ _ h1)).trans h1, (hb.cell (p := ⟨b, o + k * 3 + 1, none⟩) (World.block_lt_of_cell? _ _ h2)).trans h2, (hb.cell (p := ⟨b, o + k * 3 + 2, none⟩) (World.block_lt_of_cell? _ _ h3)).trans h3⟩

/-- What rows answers. -/
def rowsPost (w : World) (l : List Var) (e : Ending) (w' : World) : Prop :=
  Below w.heap.size w w' ∧ ∃ A1 N1 C1 A2 N2 C2, e = .returned (.tuple #[.agg #[.slice A1 N1 C1], .agg #[.slice A2 N2 C2], .bool (rowsFine l)]) ∧
    (rowsFine l = true → VR w' (.slice A1 N1 C1) (rowsV l) ∧ VRr w' (.slice A2 N2 C2) (rowsV l))

set_option maxRecDepth 100000 in
set_option maxHeartbeats 4000000 in
theorem rows_any (A : Option Addr) (b o C : Nat) (l : List Var) (w : World) (hA : l ≠ [] → A = some ⟨b, o, none⟩) (hl : Lies w b o l) (hll : l.length ≤ 1000000000000) :
    Calls Tryz.prog 19 #[.slice A l.length C] w fun e w' => rowsPost w l e w' := by
  have HA := Lib.hid hA
  have HL := Lib.hid hl
  clear hA hl
  go_enter Tryz.func19, Tryz.ntmps19
  have B0 := Lib.hid ((((Blk.new w 25 #[.slice none 0 0] rfl).alloc (.cells #[.slice none 0 0] 28)).alloc (.cells #[.slice none 0 0] 25)).alloc (.cells #[.slice none 0 0] 28))
  have B1 := Lib.hid (((Blk.new (w.alloc (.cells #[.slice none 0 0] 25)) 28 #[.slice none 0 0] (g := w.heap.size + 1) (by simp)).alloc (.cells #[.slice none 0 0] 25)).alloc (.cells #[.slice none 0 0] 28))
  have B2 := Lib.hid ((Blk.new ((w.alloc (.cells #[.slice none 0 0] 25)).alloc (.cells #[.slice none 0 0] 28)) 25 #[.slice none 0 0] (g := w.heap.size + 2) (by simp)).alloc (.cells #[.slice none 0 0] 28))
  have B3 := Lib.hid (Blk.new (((w.alloc (.cells #[.slice none 0 0] 25)).alloc (.cells #[.slice none 0 0] 28)).alloc (.cells #[.slice none 0 0] 25)) 28 #[.slice none 0 0] (g := w.heap.size + 3) (by simp))
  have HB0 := Lib.hid (((((Below.refl _ w).alloc (Nat.le_refl _) (.cells #[.slice none 0 0] 25)).alloc (by simp) (.cells #[.slice none 0 0] 28)).alloc (by simp; omega) (.cells #[.slice none 0 0] 25)).alloc (by simp; omega) (.cells #[.slice none 0 0] 28))
  by_cases h30 : l.length ≤ 30
  · have h30' : ¬ (30 : Int) < (l.length : Int) := by omega
    go_wp2_with fail
    generalize ((((w.alloc (.cells #[.slice none 0 0] 25)).alloc (.cells #[.slice none 0 0] 28)).alloc (.cells #[.slice none 0 0] 25)).alloc (.cells #[.slice none 0 0] 28)) = w0 at *
    go_loopw [7] (fun iv wr => ∃ (i : Nat) (A1 : Option Addr) (N1 C1 : Nat) (A2 : Option Addr) (N2 C2 : Nat), iv = .int .i64 i ∧ i ≤ l.length ∧ (∀ x ∈ l.take i, rowFine x = true) ∧ Blk wr w.heap.size 25 #[.slice none 0 0] ∧ Blk wr (w.heap.size + 1) 28 #[.slice none 0 0] ∧ Blk wr (w.heap.size + 2) 25 #[.slice A1 N1 C1] ∧ Blk wr (w.heap.size + 3) 28 #[.slice A2 N2 C2] ∧
        VR wr (.slice A1 N1 C1) (rowsV (l.take i)) ∧ VRr wr (.slice A2 N2 C2) (rowsV (l.take i)) ∧ Below w.heap.size w wr)
      (fun iv wr => l.length - (intOf iv).toNat)
    case atStart => exact ⟨0, none, 0, 0, none, 0, 0, rfl, by omega, by simp, B0.out, B1.out, B2.out, B3.out, World.ownsRow_nil _ _ _ _, World.ownsRow_nil _ _ _ _, HB0.out⟩
    case round =>
      obtain ⟨i, A1, N1, C1, A2, N2, C2, rfl, hil, hfi, hb0, hb1, hb2, hb3, hv1, hv2, hb⟩ := hrel
      have HFI := Lib.hid hfi
      have HB := Lib.hid hb
      have HV1 := Lib.hid hv1
      have HV2 := Lib.hid hv2
      have Q0 := Lib.hid hb0
      have Q1 := Lib.hid hb1
      have Q2 := Lib.hid hb2
      have Q3 := Lib.hid hb3
      have hi0 : (0 : Int) ≤ (i : Int) := by omega
      obtain ⟨hord, hlen, _⟩ := rowsV_facts (l.take i) hfi
      have hN1 : N1 ≤ 100000000 := by have := hv1.parts.1; rw [List.length_take] at hlen; omega
      have hN2 : N2 ≤ 100000000 := by have := hv2.parts; rw [List.length_take] at hlen; omega
      have hsz := hb3.lt
      obtain ⟨c1, c2, c3⟩ := hb2.c
      obtain ⟨d1, d2, d3⟩ := hb3.c
      obtain ⟨e1, e2, e3⟩ := hb0.c
      obtain ⟨f1, f2, f3⟩ := hb1.c
      clear hfi hb0 hb1 hb2 hb3 hv1 hv2 hb B0 B1 B2 B3 HB0 hlen
      by_cases hlt : i < l.length
      · have hi1 : (i : Int) < (l.length : Int) := by omega
        obtain ⟨x, hx⟩ : ∃ x, l[i]? = some x := ⟨l[i], List.getElem?_eq_getElem hlt⟩
        have HT : Hid (l.take (i + 1) = l.take i ++ [x]) := Lib.hid (by
          rw [List.take_add_one, hx]; rfl)
        have HXI := Lib.hid hx
        have HXM : Hid (x ∈ l) := Lib.hid (List.mem_of_getElem? hx)
        obtain ⟨y1, y2, y3⟩ := (HL.out.below HB.out) i x hx
        have hA := HA.out (by intro e; rw [e] at hlt; simp at hlt)
        subst hA
        by_cases hfx : rowFine x = true
        · have hfx' : x.name.length ≤ 60 ∧ x.text.length ≤ 600 := by simpa [rowFine] using hfx
          have HFX := Lib.hid hfx
          obtain ⟨g1, g2⟩ := hfx'
          have g1' : ¬ (60 : Int) < (x.name.length : Int) := by omega
          have g2' : ¬ (600 : Int) < (x.text.length : Int) := by omega
          have hset := set_any A1 N1 C1 (rowsV (l.take i)) x wr.drew (row_below HV1.out (below_drew wr)) hord hN1
          have hc7 := fun w7 (hb : Below wr.drew.heap.size wr.drew w7) => (Blk.below (w := wr.drew) Q2.out hb).c
          clear hx hfx
          go_wp2_with fail
          go_region_with (go_at_call 27; refine hset.mono ?_; rintro e w7 ⟨A3, N3, C3, rfl, hv7, hb7⟩; obtain ⟨k1, k2, k3⟩ := hc7 w7 hb7)
          all_goals
            have HB7 := Lib.hid (below_then HB.out HB.out.size (below_then (below_drew wr) (Nat.le_refl _) hb7))
            have P0 := Lib.hid (Blk.below (w := wr.drew) Q0.out hb7)
            have P1 := Lib.hid (Blk.below (w := wr.drew) Q1.out hb7)
            have P2 := Lib.hid (Blk.below (w := wr.drew) Q2.out hb7)
            have P3 := Lib.hid (Blk.below (w := wr.drew) Q3.out hb7)
            have HV27 := Lib.hid (row_below (row_below HV2.out (below_drew wr)) hb7)
            have HV17 := Lib.hid hv7
            have hsz7 := P3.out.lt
            clear hv7 hb7 hc7 hset k1 k2 k3 c1 c2 c3 d1 d2 d3 e1 e2 e3 f1 f2 f3 y1 y2 y3 HB HV1 HV2 Q0 Q1 Q2 Q3
            have HB8 := Lib.hid (HB7.out.setCell (p := ⟨w.heap.size + 1 + 1, 0, none⟩) (by show w.heap.size ≤ w.heap.size + 1 + 1; omega) (.slice A3 N3 C3))
            have R0 := Lib.hid (P0.out.far (p := ⟨w.heap.size + 1 + 1, 0, none⟩) (by show w.heap.size ≠ w.heap.size + 1 + 1; omega) (.slice A3 N3 C3))
            have R1 := Lib.hid (P1.out.far (p := ⟨w.heap.size + 1 + 1, 0, none⟩) (by show w.heap.size + 1 ≠ w.heap.size + 1 + 1; omega) (.slice A3 N3 C3))
            have R2 := Lib.hid (P2.out.set_ 0 (.slice A3 N3 C3))
            have R3 := Lib.hid (P3.out.far (p := ⟨w.heap.size + 1 + 1, 0, none⟩) (by show w.heap.size + 3 ≠ w.heap.size + 1 + 1; omega) (.slice A3 N3 C3))
            have HV18 := Lib.hid (VR_far HV17.out P2.out (by decide) 0 (.slice A3 N3 C3))
            have HV28 := Lib.hid (row_far HV27.out P2.out (by decide) 0 (.slice A3 N3 C3))
            clear HB7 P0 P1 P2 P3 HV17 HV27
            generalize w7.setCell ⟨w.heap.size + 1 + 1, 0, none⟩ (.slice A3 N3 C3) = w8 at *
            obtain ⟨y1, y2, y3⟩ := (HL.out.below HB8.out) i x HXI.out
            obtain ⟨d1, d2, d3⟩ := R3.out.c
            have hset := refSet_any A2 N2 C2 (rowsV (l.take i)) x w8.drew (row_below HV28.out (below_drew w8)) hord hN2
            have hc9 := fun w9 (hb : Below w8.drew.heap.size w8.drew w9) => (Blk.below (w := w8.drew) R3.out hb).c
            go_wp2_with fail
            go_region_with (go_at_call 50; refine hset.mono ?_; rintro e w9 ⟨A4, N4, C4, rfl, hv9, hb9⟩; obtain ⟨k1, k2, k3⟩ := hc9 w9 hb9)
          all_goals
            have HB9 := Lib.hid (below_then HB8.out HB8.out.size (below_then (below_drew w8) (Nat.le_refl _) hb9))
            have P0 := Lib.hid (Blk.below (w := w8.drew) R0.out hb9)
            have P1 := Lib.hid (Blk.below (w := w8.drew) R1.out hb9)
            have P2 := Lib.hid (Blk.below (w := w8.drew) R2.out hb9)
            have P3 := Lib.hid (Blk.below (w := w8.drew) R3.out hb9)
            have HV19 := Lib.hid (row_below (row_below HV18.out (below_drew w8)) hb9)
            have HV29 := Lib.hid hv9
            clear hv9 hb9 hc9 hset k1 k2 k3 d1 d2 d3 y1 y2 y3 HB8 HV18 HV28 R0 R1 R2 R3
            go_wp2_with fail
            go_roundw
            case rel =>
              refine ⟨i + 1, A3, N3, C3, A4, N4, C4, by rw [Int.natCast_add]; rfl, by omega, ?_, ?_, ?_, ?_, ?_, ?_, ?_, ?_⟩
              · intro z hz
                rw [HT.out] at hz
                simp at hz
                rcases hz with hz | rfl
                · exact HFI.out z hz
                · exact HFX.out
              · exact P0.out.far (p := ⟨w.heap.size + 1 + 1 + 1, 0, none⟩) (by show w.heap.size ≠ w.heap.size + 1 + 1 + 1; omega) _
              · exact P1.out.far (p := ⟨w.heap.size + 1 + 1 + 1, 0, none⟩) (by show w.heap.size + 1 ≠ w.heap.size + 1 + 1 + 1; omega) _
              · exact P2.out.far (p := ⟨w.heap.size + 1 + 1 + 1, 0, none⟩) (by show w.heap.size + 2 ≠ w.heap.size + 1 + 1 + 1; omega) _
              · exact P3.out.set_ 0 _
              · rw [HT.out, rowsV_snoc]
                exact VR_far HV19.out P3.out (by decide) 0 _
              · rw [HT.out, rowsV_snoc]
                exact row_far HV29.out P3.out (by decide) 0 _
              · exact HB9.out.setCell (p := ⟨w.heap.size + 1 + 1 + 1, 0, none⟩) (by show w.heap.size ≤ w.heap.size + 1 + 1 + 1; omega) _
            case measure => simp [intOf]; omega
        · have HR : Hid (rowsFine l = false) := Lib.hid (by
            simp only [rowsFine, Bool.and_eq_false_iff]
            refine .inr (by rw [Bool.eq_false_iff]; intro e; exact hfx (List.all_eq_true.1 e x HXM.out)))
          by_cases hnm : x.name.length ≤ 60
          · have htx : (600 : Int) < (x.text.length : Int) := by
              simp [rowFine, hnm] at hfx; omega
            have hnm' : ¬ (60 : Int) < (x.name.length : Int) := by omega
            clear hx hfx hnm
            go_wp2_with fail
            go_region
            all_goals
              go_wp2_with fail
              refine bodyPost_ret (v := .tuple #[.agg #[.slice A1 N1 C1], .agg #[.slice A2 N2 C2], .bool false]) (by simp [results, Tryz.results19, go_sem, e1, e2, f1, f2]) rfl ?_
              refine ⟨?_, A1, N1, C1, A2, N2, C2, by rw [HR.out], fun h => by rw [HR.out] at h; cases h⟩
              exact (((HB.out.setCell (p := ⟨w.heap.size, 0, none⟩) (Nat.le_refl _) _).setCell (p := ⟨w.heap.size + 1, 0, none⟩) (Nat.le_succ _) _)).drew
          · have hnm' : (60 : Int) < (x.name.length : Int) := by omega
            clear hx hfx hnm
            go_wp2_with fail
            go_region
            all_goals
              go_wp2_with fail
              refine bodyPost_ret (v := .tuple #[.agg #[.slice A1 N1 C1], .agg #[.slice A2 N2 C2], .bool false]) (by simp [results, Tryz.results19, go_sem, e1, e2, f1, f2]) rfl ?_
              refine ⟨?_, A1, N1, C1, A2, N2, C2, by rw [HR.out], fun h => by rw [HR.out] at h; cases h⟩
              exact (((HB.out.setCell (p := ⟨w.heap.size, 0, none⟩) (Nat.le_refl _) _).setCell (p := ⟨w.heap.size + 1, 0, none⟩) (Nat.le_succ _) _)).drew
      · obtain rfl : i = l.length := by omega
        have HR : Hid (rowsFine l = true) := Lib.hid (by
          have := HFI.out
          rw [List.take_length] at this
          simp only [rowsFine, Bool.and_eq_true, decide_eq_true_eq]
          exact ⟨h30, List.all_eq_true.2 this⟩)
        go_wp2_with fail
        go_region
        all_goals
          go_wp2_with fail
          refine bodyPost_ret (v := .tuple #[.agg #[.slice A1 N1 C1], .agg #[.slice A2 N2 C2], .bool true]) (by simp [results, Tryz.results19, go_sem, e1, e2, f1, f2]) rfl ?_
          have hV1 := HV1.out
          have hV2 := HV2.out
          rw [List.take_length] at hV1 hV2
          refine ⟨?_, A1, N1, C1, A2, N2, C2, by rw [HR.out], fun _ => ⟨?_, ?_⟩⟩
          · exact (((HB.out.setCell (p := ⟨w.heap.size, 0, none⟩) (Nat.le_refl _) _).setCell (p := ⟨w.heap.size + 1, 0, none⟩) (Nat.le_succ _) _)).drew
          · exact row_below (VR_far (VR_far hV1 Q0.out (by decide) 0 _) (Q1.out.far (p := ⟨w.heap.size, 0, none⟩) (by show w.heap.size + 1 ≠ w.heap.size; omega) _) (by decide) 0 _) (below_drew _)
          · exact row_below (row_far (row_far hV2 Q0.out (by decide) 0 _) (Q1.out.far (p := ⟨w.heap.size, 0, none⟩) (by show w.heap.size + 1 ≠ w.heap.size; omega) _) (by decide) 0 _) (below_drew _)
  · have h30' : (30 : Int) < (l.length : Int) := by omega
    have HR : Hid (rowsFine l = false) := Lib.hid (by simp [rowsFine]; omega)
    obtain ⟨c1, c2, c3⟩ := B2.out.c
    obtain ⟨d1, d2, d3⟩ := B3.out.c
    obtain ⟨e1, e2, e3⟩ := B0.out.c
    obtain ⟨f1, f2, f3⟩ := B1.out.c
    go_wp2_with fail
    go_region
    all_goals
      go_wp2_with fail
      refine bodyPost_ret (v := .tuple #[.agg #[.slice none 0 0], .agg #[.slice none 0 0], .bool false]) (by simp [results, Tryz.results19, go_sem, e1, e2, f1, f2]) rfl ?_
      refine ⟨HB0.out.drew, none, 0, 0, none, 0, 0, by rw [HR.out], fun h => by rw [HR.out] at h; cases h⟩
end Go.Proofs.YtopkcgdfebkbaaaGreatDoor
