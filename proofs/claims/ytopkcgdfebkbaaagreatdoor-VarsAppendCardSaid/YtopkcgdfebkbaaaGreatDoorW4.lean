/- Walks: a copy of variables; one more put in; Set. -/
import Derived.Test.YtopkcgdfebkbaaaGreatDoorW3
import Derived.Test.YtopkcgdfebkbaaaGreatDoorLaws
import Derived.Maps.AppendAt
import Derived.Deep.AppendLies
import Derived.RegionTactic
import Derived.OwnWalk
import Derived.Lib.Overlaps
import Derived.Laws.Externs
set_option linter.unusedVariables false
set_option linter.unusedSimpArgs false
namespace Go.Proofs.YtopkcgdfebkbaaaGreatDoor
open Go.RowKit
attribute [local go_sem] B_size B_toList

theorem info36 : (Tryz.prog.info? 36).map (fun i => (i.zero, i.size, i.bytes)) = some (some (.agg #[.string ⟨#[]⟩, .string ⟨#[]⟩, .bool false]), 3, 40) := by kernel_rfl

theorem varsCells_append (a b : List Var) : varsCells (a ++ b) = varsCells a ++ varsCells b := by simp [varsCells]
theorem varsCells_snoc (a : List Var) (x : Var) : varsCells (a ++ [x]) = varsCells a ++ varCells x := by simp [varsCells]
theorem varsCells_cons (x : Var) (a : List Var) : varsCells (x :: a) = varCells x ++ varsCells a := by simp [varsCells]
theorem row_slice {w : World} {base e size n : Nat} {v : Value} {xs : List Value} (h : w.ownsRow base e size v n xs) : ∃ A C, v = .slice A n C := by
  rcases h.2 with ⟨h2, h3⟩ | ⟨g, cap, cur, h2, _⟩
  · subst h3; exact ⟨none, 0, h2⟩
  · exact ⟨_, _, h2⟩
theorem varsCells_one (l : List Var) : ∀ u ∈ varsCells l, u.oneCell' = true := by
  intro u hu
  simp only [varsCells, List.mem_flatMap] at hu
  obtain ⟨x, _, hx⟩ := hu
  simp [varCells] at hx
  rcases hx with rfl | rfl | rfl <;> rfl

set_option maxRecDepth 100000 in
set_option maxHeartbeats 400000 in
theorem clone_any (A : Option Addr) (N C : Nat) (l : List Var) (w : World) (hv : VR w (.slice A N C) l) (hN2 : N ≤ 1000000000) :
    Calls Tryz.prog 57 #[.slice A N C] w fun e w' => ∃ A' C', e = .returned (.slice A' N C') ∧ w'.ownsRow w.heap.size 36 3 (.slice A' N C') N (varsCells l) ∧ Below w.heap.size w w' := by
  obtain ⟨hN, hNC, hC, hA⟩ := hv.parts
  have HV := Lib.hid hv
  have HN := Lib.hid hN
  clear hv hN
  have hnil := fun (w : World) a n c => Lib.run_eql_slice_nil (P := Tryz.prog) w 22 36 a n c 0 0 Tryz.underlying22
  obtain ⟨i0, hi, hz0, hz1, hz2⟩ := info_parts info36
  have HI := Lib.hid hi
  have HZ0 := Lib.hid hz0
  have HZ1 := Lib.hid hz1
  have HZ2 := Lib.hid hz2
  clear hi hz0 hz1 hz2
  cases A with
  | none =>
    go_enter Tryz.func57, Tryz.ntmps57
    go_wp2
    go_ret
    rcases HV.out.2 with ⟨h2, h3⟩ | ⟨g, cap, cur, h2, h4⟩
    · have h5 := HV.out.1
      rw [h3] at h5
      have h6 : varsCells l = [] := List.eq_nil_of_length_eq_zero (by simpa using h5)
      have h7 : N = 0 := by rw [HN.out, h3]
      subst h7
      exact ⟨none, 0, rfl, by rw [h6]; exact World.ownsRow_nil _ _ _ _, Below.refl _ _⟩
    · cases h2
  | some ad =>
    have hl : (varsCells l).length = N * 3 := by rw [varsCells_length, HN.out]
    have hnews : ∀ (j : Nat) u, (varsCells l)[j]? = some u → w.cell? (ad.add j) = some u := by
      rcases HV.out.2 with ⟨h2, h3⟩ | ⟨g, cap, cur, h2, h4⟩
      · cases h2
      · injection h2 with e1 e2 e3
        cases e1
        exact HV.out.cells (g := g) rfl
    have hlt : 0 < N → ad.block < w.heap.size := fun h => by
      obtain ⟨b, e, hb⟩ := hA h
      cases e; exact hb
    have hone : ∀ u ∈ varsCells l, u.oneCell' = true := varsCells_one l
    have HL := Lib.hid hl
    have HNEWS := Lib.hid (fun (j : Nat) u (hj : (varsCells l)[j]? = some u) => show (w.alloc (.cells #[] 36)).cell? (ad.add j) = some u from (World.cell?_alloc_lt _ _ _ (World.block_lt_of_cell? _ _ (hnews j u hj))).trans (hnews j u hj))
    have HONE := Lib.hid hone
    clear hl hnews hone hA
    go_enter Tryz.func57, Tryz.ntmps57
    go_wp2_with (at_builtin; refine wpList_append_own _ rfl (.tmp 5) (.tmp 6) 22 rfl w.heap.size 36 i0 _ 3 40 Tryz.underlying22 HI.out HZ0.out HZ1.out HZ2.out rfl (by decide) (.slice (some ⟨w.heap.size, 0, none⟩) 0 0) 0 [] rfl (World.ownsRow_made w #[] 0 (Nat.le_refl _) (by unfold maxLen; omega) rfl) ad N C (varsCells l) rfl HL.out HNEWS.out HONE.out (by unfold maxLen; omega) (by omega) (by simp) ?_; intro v' w1 hown hgrow _)
    go_ret
    have hown2 : w1.ownsRow w.heap.size 36 3 v' N (varsCells l) := by simpa using hown
    obtain ⟨A', C', hv'⟩ := row_slice hown2
    exact ⟨A', C', congrArg Ending.returned hv', by rw [← hv']; exact hown2, ((Below.refl _ w).alloc (Nat.le_refl _) _).grown hgrow (by simp) (fun k e => by simp [Value.ownBlock] at e; omega)⟩

theorem sz36 : (Tryz.prog.info? 36).map (·.size) = some 3 := by kernel_rfl
theorem zeroV : (Value.agg #[.string ⟨#[]⟩, .string ⟨#[]⟩, .bool false]).cells.size = 3 := rfl

set_option maxRecDepth 100000 in
set_option maxHeartbeats 400000 in
/-- Insert at the end: append. -/
theorem insert_end (A : Option Addr) (N C : Nat) (base : Nat) (l : List Var) (x : Var) (vb : Nat) (w : World) (hN : N = l.length) (hv : w.ownsRow base 36 3 (.slice A N C) N (varsCells l)) (hb : base ≤ w.heap.size) (hN2 : N ≤ 1000000000)
    (hx : Blk w vb 36 (varCells x).toArray) :
    Calls Tryz.prog 59 #[.slice A N C, .int .i64 N, .slice (some ⟨vb, 0, none⟩) 1 1] w fun e w' => ∃ A' C', e = .returned (.slice A' (N + 1) C') ∧ w'.ownsRow base 36 3 (.slice A' (N + 1) C') (N + 1) (varsCells (l ++ [x])) ∧ w.grownBy w' (A.map (·.block)) := by
  have HN := Lib.hid hN
  have HV := Lib.hid hv
  have HX := Lib.hid hx
  have hNC : N ≤ C ∧ C ≤ 9223372036854775807 ∧ ∀ ad, A = some ad → ∃ g, A = some ⟨g, 0, none⟩ := by
    rcases hv.2 with ⟨h2, h3⟩ | ⟨g, cap, cur, h2, _, h4, h5, h6, _⟩
    · injection h2 with e1 e2 e3; subst e1; subst e3; exact ⟨by omega, by omega, fun _ h => by cases h⟩
    · injection h2 with e1 e2 e3; subst e1; subst e3; exact ⟨h5, h6, fun _ _ => ⟨g, rfl⟩⟩
  obtain ⟨hNC1, hC, hA⟩ := hNC
  clear hN hv hx
  obtain ⟨i0, hi, hz0, hz1, hz2⟩ := info_parts info36
  have HI := Lib.hid hi
  have HZ0 := Lib.hid hz0
  have HZ1 := Lib.hid hz1
  have HZ2 := Lib.hid hz2
  clear hi hz0 hz1 hz2
  have HNEWS := Lib.hid (fun (j : Nat) u (hj : (varCells x)[j]? = some u) => show w.cell? ((⟨vb, 0, none⟩ : Addr).add j) = some u by
    have h1 := HX.out.c.1 j
    have ha : (⟨vb, 0, none⟩ : Addr).add j = ⟨vb, j, none⟩ := by unfold Addr.add; split <;> simp_all
    rw [ha, h1]; simpa using hj)
  go_enter Tryz.func59, Tryz.ntmps59
  go_wp2_with (at_builtin; refine wpList_append_own _ rfl (.tmp 23) (.tmp 24) 22 rfl base 36 i0 _ 3 40 Tryz.underlying22 HI.out HZ0.out HZ1.out HZ2.out rfl (by decide) (.slice A N C) N (varsCells l) rfl HV.out ⟨vb, 0, none⟩ 1 1 (varCells x) rfl rfl HNEWS.out (by intro u hu; simp [varCells] at hu; rcases hu with rfl | rfl | rfl <;> rfl) (by unfold maxLen; omega) (by omega) hb ?_; intro v' w1 hown hgrow _)
  all_goals
    go_ret
    obtain ⟨A', C', hv'⟩ := row_slice hown
    exact ⟨A', C', congrArg Ending.returned hv', by rw [varsCells_snoc, ← hv']; exact hown, by cases A <;> exact hgrow⟩

theorem splice_back (L X Y Q R : List Value) (m : Nat) (hL : L = X ++ (Q ++ R)) (hY : 0 < Y.length) (hm : X.length + Y.length + Q.length = m) (hfit : X.length + Y.length + Q.length ≤ L.length) :
    splice (splice L (X.length + Y.length) Q) X.length Y = X ++ Y ++ Q ++ L.drop m := by
  have e1 : splice L (X.length + Y.length) Q = L.take (X.length + Y.length) ++ (Q ++ L.drop m) := by unfold splice; rw [hm]
  have hl : (L.take (X.length + Y.length)).length = X.length + Y.length := by rw [List.length_take]; omega
  have e2 : (L.take (X.length + Y.length)).take X.length = X := by
    rw [List.take_take, Nat.min_eq_left (by omega)]
    conv => lhs; rw [hL]
    exact List.take_left
  rw [e1]
  unfold splice
  have e3 : (L.take (X.length + Y.length) ++ (Q ++ L.drop m)).drop (X.length + Y.length) = Q ++ L.drop m := by
    exact List.drop_left' hl
  rw [List.take_append_of_le_length (by omega), e2, e3]
  simp

theorem blk_shape {w : World} {g : Nat} {t : TypeId} {cs : Array Value} (h : Blk w g t cs) : w.shape? g = some (t, cs.size) := by unfold Blk at h; simp [World.shape?, h]

theorem splice_fill (X Y Z Q R : List Value) (hZ : Z.length = Y.length + Q.length) : splice (splice (X ++ Z ++ R) X.length Y) (X.length + Y.length) Q = X ++ Y ++ Q ++ R := by
  have e1 : splice (X ++ Z ++ R) X.length Y = X ++ Y ++ (Z.drop Y.length ++ R) := by
    unfold splice
    rw [List.append_assoc X, List.take_left, ← List.drop_drop, List.drop_left, List.drop_append_of_le_length (by omega), List.append_assoc]
  rw [e1]
  unfold splice
  have e2 : (X ++ Y).length = X.length + Y.length := by simp
  rw [← e2, List.take_left, ← List.drop_drop, List.drop_left, List.drop_append]
  have e3 : (Z.drop Y.length).drop Q.length = [] := by apply List.drop_eq_nil_of_le; simp; omega
  have e4 : Q.length - (Z.drop Y.length).length = 0 := by simp; omega
  rw [e3, e4]
  simp

set_option maxRecDepth 100000 in
set_option maxHeartbeats 800000 in
/-- Insert ahead of the end, no room: a new row. -/
theorem insert_grow (g N p : Nat) (l : List Var) (x : Var) (vb base : Nat) (w : World) (hN : N = l.length) (hv : w.ownsRow base 36 3 (.slice (some ⟨g, 0, none⟩) N N) N (varsCells l)) (hb : base ≤ w.heap.size) (hN2 : N ≤ 1000000000)
    (hp : p < N) (hx : Blk w vb 36 (varCells x).toArray) :
    Calls Tryz.prog 59 #[.slice (some ⟨g, 0, none⟩) N N, .int .i64 p, .slice (some ⟨vb, 0, none⟩) 1 1] w fun e w' => ∃ A' C', e = .returned (.slice A' (N + 1) C') ∧ w'.ownsRow base 36 3 (.slice A' (N + 1) C') (N + 1) (varsCells (l.take p ++ x :: l.drop p)) ∧ Below w.heap.size w w' := by
  have HN := Lib.hid hN
  have HV := Lib.hid hv
  have HX := Lib.hid hx
  clear hN hv hx
  obtain ⟨i0, hi, hz0, hz1, hz2⟩ := info_parts info36
  have HI := Lib.hid hi
  have HZ0 := Lib.hid hz0
  have HZ1 := Lib.hid hz1
  have HZ2 := Lib.hid hz2
  clear hi hz0 hz1 hz2
  have ha : ∀ b j o, (⟨b, o, none⟩ : Addr).add j = ⟨b, o + j, none⟩ := fun b j o => by unfold Addr.add; split <;> simp_all
  have HA := Lib.hid ha
  have HOLD := Lib.hid (fun (j : Nat) u (hj : (varsCells (l.take p))[j]? = some u) => show w.cell? ((⟨g, 0, none⟩ : Addr).add j) = some u by
    refine HV.out.cells (g := g) rfl j u ?_
    have hj' : j < (varsCells (l.take p)).length := (List.getElem?_eq_some_iff.1 hj).1
    have e : varsCells l = varsCells (l.take p) ++ varsCells (l.drop p) := by rw [← varsCells_append, List.take_append_drop]
    rw [e, List.getElem?_append_left hj']; exact hj)
  clear ha
  have HOL := Lib.hid (show (varsCells (l.take p)).length = p * 3 by rw [varsCells_length, List.length_take]; have := HN.out; omega)
  have HONE := Lib.hid (show ∀ u ∈ varCells x, u.oneCell' = true by intro u hu; simp [varCells] at hu; rcases hu with rfl | rfl | rfl <;> rfl)
  have HVX := Lib.hid (fun (w1 : World) (hb1 : Below w.heap.size w w1) (j : Nat) u (hj : (varCells x)[j]? = some u) => show w1.cell? ((⟨vb, 0, none⟩ : Addr).add j) = some u by
    have h1 := (HX.out.below hb1).c.1 j
    rw [HA.out, Nat.zero_add, h1]; simpa using hj)
  have HVL := Lib.hid (fun (w1 : World) (hb1 : Below w.heap.size w w1) (j : Nat) u (hj : (varsCells (l.drop p))[j]? = some u) => show w1.cell? ((⟨g, p * 3, none⟩ : Addr).add j) = some u by
    have e : varsCells l = varsCells (l.take p) ++ varsCells (l.drop p) := by rw [← varsCells_append, List.take_append_drop]
    have h1 : (varsCells l)[p * 3 + j]? = some u := by rw [e, List.getElem?_append_right (by rw [HOL.out]; omega), HOL.out, Nat.add_sub_cancel_left]; exact hj
    have h2 := (row_below HV.out hb1).cells (g := g) rfl _ _ h1
    rw [HA.out, Nat.zero_add] at h2
    rw [HA.out]; exact h2)
  have HDL := Lib.hid (show (varsCells (l.drop p)).length = (N - p) * 3 by rw [varsCells_length, List.length_drop, HN.out])
  have HSZ := Lib.hid (fun (k : Nat) => show (Builtin.zeroCells (Value.agg #[.string ⟨#[]⟩, .string ⟨#[]⟩, .bool false]).cells k).size = k * 3 by simp [Builtin.zeroCells, Value.cells])
  have hgl : g < w.heap.size := (HV.out.lt g rfl).2
  go_enter Tryz.func59, Tryz.ntmps59
  go_wp2_with (first
    | (at_builtin; refine wpList_append_make _ rfl (.tmp 34) (.tmp 39) 22 3 rfl 36 i0 _ 3 40 Tryz.underlying22 Tryz.underlying3 HI.out HZ0.out HZ1.out HZ2.out rfl (by decide) ⟨g, 0, none⟩ p N rfl (varsCells (l.take p)) HOL.out HOLD.out (N + 1 - p) (N + 1) (by omega) (by simp [Act.eval]; omega) (by omega) (by omega) (by omega) (by omega) ?_; intro w1 G hg1 hG1 hG2 hb1)
    | ((with_reducible refine at_copy ?_); go_loud (refine wpList_copy_rows _ rfl (.tmp 43) (.tmp 44) 22 22 rfl 36 3 Tryz.underlying22 sz36 w.heap.size (p * 3) (N + 1 - p) (G - p) ⟨vb, 0, none⟩ 1 1 rfl rfl _ 36 hg1 (varCells x) (by rw [show Nat.min 1 (N + 1 - p) = 1 from Nat.min_eq_left (by omega)]; rfl) (HVX.out _ hb1) (by simp only [Array.size_append, List.size_toArray, HSZ.out, HOL.out]; simp [varCells]; omega) HONE.out ?_); intro w2 hg2 hgr2))
  have hb2 : Below w.heap.size w w2 := hb1.grown hgr2 hb1.size (fun k e => by cases e; exact Nat.le_refl _)
  have hw1 : IntKind.i64.wrap ((p : Int) + 1) = (p : Int) + 1 := by rw [IntKind.wrap_i64]; omega
  have hp1 : (0 : Int) ≤ (p : Int) + 1 := by omega
  have hpn : ((p : Int) + 1).toNat = p + 1 := by omega
  have hp3 : (p : Int) + 1 ≤ (N : Int) + 1 := by omega
  have hp4 : (p : Int) ≤ (N : Int) := by omega
  have hGp : ¬ (G = p + 1) := by omega
  have hNp : ¬ (N = p) := by omega
  obtain ⟨cs1, hcs1⟩ : ∃ cs1, cs1 = (varsCells (l.take p)).toArray ++ Builtin.zeroCells (Value.agg #[.string ⟨#[]⟩, .string ⟨#[]⟩, .bool false]).cells (N + 1 - p) ++ Builtin.zeroCells (Value.agg #[.string ⟨#[]⟩, .string ⟨#[]⟩, .bool false]).cells (G - (N + 1)) := ⟨_, rfl⟩
  rw [← hcs1] at hg2
  have hs1 : cs1.size = G * 3 := by rw [hcs1]; simp only [Array.size_append, List.size_toArray, HSZ.out, HOL.out]; omega
  have HS1 := Lib.hid hs1
  have HCS1 := Lib.hid hcs1
  have HFIT := Lib.hid (show (p + 1) * 3 + (varsCells (l.drop p)).length ≤ (splice cs1.toList (p * 3) (varCells x)).toArray.size by
    rw [HDL.out, List.size_toArray, length_splice _ _ _ (by simp [varCells]; omega), Array.length_toList, hs1]; omega)
  have HONE2 := Lib.hid (varsCells_one (l.drop p))
  clear hcs1 hs1
  go_region_law (refine step_copy_rows rfl (.tmp 50) (.tmp 53) 22 22 rfl 36 3 Tryz.underlying22 sz36 w.heap.size ((p + 1) * 3) (N - p) (G - (p + 1)) ⟨g, p * 3, none⟩ (N - p) (N - p) (by simp [Act.eval, Act.put]) (by simp [Act.eval, Act.put]) _ 36 hg2 (varsCells (l.drop p)) (by rw [show Nat.min (N - p) (N - p) = N - p from Nat.min_self _]; exact HDL.out) (HVL.out w2 hb2) HFIT.out HONE2.out ?_; intro w3 hg3 hgr3)
  go_wp2
  go_ret
  have hgr3' : w2.grownBy w3 (some w.heap.size) := ⟨hgr3.os, hgr3.tape, hgr3.output, hgr3.size, hgr3.block⟩
  refine ⟨_, _, rfl, ?_, hb2.grown hgr3' hb2.size (fun k e => by cases e; exact Nat.le_refl _)⟩
  have hfill := splice_fill (varsCells (l.take p)) (varCells x) (Builtin.zeroCells (Value.agg #[.string ⟨#[]⟩, .string ⟨#[]⟩, .bool false]).cells (N + 1 - p)).toList (varsCells (l.drop p)) (Builtin.zeroCells (Value.agg #[.string ⟨#[]⟩, .string ⟨#[]⟩, .bool false]).cells (G - (N + 1))).toList
    (by rw [Array.length_toList, HSZ.out, HDL.out]; simp [varCells]; omega)
  have e1 : cs1.toList = varsCells (l.take p) ++ (Builtin.zeroCells (Value.agg #[.string ⟨#[]⟩, .string ⟨#[]⟩, .bool false]).cells (N + 1 - p)).toList ++ (Builtin.zeroCells (Value.agg #[.string ⟨#[]⟩, .string ⟨#[]⟩, .bool false]).cells (G - (N + 1))).toList := by
    rw [HCS1.out]; simp
  have e2 : (varsCells (l.take p)).length + (varCells x).length = (p + 1) * 3 := by rw [HOL.out]; simp [varCells]; omega
  have e3 : varsCells (l.take p ++ x :: l.drop p) = varsCells (l.take p) ++ varCells x ++ varsCells (l.drop p) := by rw [varsCells_append, varsCells_cons, List.append_assoc]
  have e4 : (varsCells (l.take p) ++ varCells x ++ varsCells (l.drop p)).length = (N + 1) * 3 := by
    rw [List.length_append, List.length_append, e2, HDL.out]; omega
  rw [e2, HOL.out, ← e1] at hfill
  rw [hfill] at hg3
  rw [e3]
  refine ⟨e4, .inr ⟨w.heap.size, G, _, rfl, hb, hg3, hG1, by unfold maxLen; omega, ?_, ?_⟩⟩
  · rw [List.size_toArray, List.length_append, e4, Array.length_toList, HSZ.out]; omega
  · rw [← e4]; exact List.take_left

set_option maxRecDepth 100000 in
set_option maxHeartbeats 800000 in
/-- Insert ahead of the end, where there is room: in place. -/
theorem insert_shift (g N C p : Nat) (l : List Var) (x : Var) (vb base : Nat) (w : World) (hN : N = l.length) (hv : w.ownsRow base 36 3 (.slice (some ⟨g, 0, none⟩) N C) N (varsCells l)) (hN2 : N ≤ 1000000000)
    (hp : p < N) (hC : N < C) (hx : Blk w vb 36 (varCells x).toArray) (hvg : vb ≠ g) :
    Calls Tryz.prog 59 #[.slice (some ⟨g, 0, none⟩) N C, .int .i64 p, .slice (some ⟨vb, 0, none⟩) 1 1] w fun e w' => ∃ A' C', e = .returned (.slice A' (N + 1) C') ∧ w'.ownsRow base 36 3 (.slice A' (N + 1) C') (N + 1) (varsCells (l.take p ++ x :: l.drop p)) ∧ w.grownBy w' (some g) := by
  have HN := Lib.hid hN
  have HV := Lib.hid hv
  have HX := Lib.hid hx
  obtain ⟨cur, hbg, hg0, hC2, hcur, htake⟩ : ∃ cur, base ≤ g ∧ Blk w g 36 cur ∧ C ≤ 9223372036854775807 ∧ cur.size = C * 3 ∧ cur.toList.take (N * 3) = varsCells l := by
    rcases hv.2 with ⟨h2, h3⟩ | ⟨g', cap, cur, h2, h3, h4, h5, h6, h7, h8⟩
    · cases h2
    · injection h2 with e1 e2 e3; cases e1; subst e3; exact ⟨cur, h3, h4, h6, h7, h8⟩
  clear hN hv hx
  have HT := Lib.hid htake
  have HCU := Lib.hid hcur
  have HCL := Lib.hid (show cur.toList.length = C * 3 by rw [Array.length_toList]; exact hcur)
  clear htake hcur
  have ha : ∀ b j o, (⟨b, o, none⟩ : Addr).add j = ⟨b, o + j, none⟩ := fun b j o => by unfold Addr.add; split <;> simp_all
  have HA := Lib.hid ha
  clear ha
  have hov : ∀ lb cb, (callFunc 96 #[.slice (some ⟨vb, 0, none⟩) 1 1, .slice (some ⟨g, (p + 1) * 3, none⟩) lb cb]).run Tryz.prog w = .ok (.value (.bool false)) w := fun lb cb => by
    rw [run_callFunc_extern Tryz.func96 (by kernel_rfl) (by kernel_rfl) (by kernel_rfl) (e := Extern.SlicesOverlaps.overlaps #[22, 22] #[4]) (by kernel_rfl),
      Lib.run_overlaps_apart w 22 4 36 Tryz.underlying22 3 (fun _ => by kernel_rfl) ⟨vb, 0, none⟩ ⟨g, (p + 1) * 3, none⟩ 1 1 lb cb hvg 36 36 3 (C * 3) (blk_shape HX.out) (by rw [← HCU.out]; exact blk_shape hg0) (by omega) (HX.out.c.2.1 0) (HX.out.c.2.1 3)]
    rfl
  have HOV := Lib.hid hov
  clear hov
  have HONE := Lib.hid (show ∀ u ∈ varCells x, u.oneCell' = true by intro u hu; simp [varCells] at hu; rcases hu with rfl | rfl | rfl <;> rfl)
  have HONE2 := Lib.hid (varsCells_one (l.drop p))
  have HOL := Lib.hid (show (varsCells (l.take p)).length = p * 3 by rw [varsCells_length, List.length_take]; have := HN.out; omega)
  have HDL := Lib.hid (show (varsCells (l.drop p)).length = (N - p) * 3 by rw [varsCells_length, List.length_drop, HN.out])
  have HVL := Lib.hid (fun (j : Nat) u (hj : (varsCells (l.drop p))[j]? = some u) => show w.cell? ((⟨g, p * 3, none⟩ : Addr).add j) = some u by
    have e : varsCells l = varsCells (l.take p) ++ varsCells (l.drop p) := by rw [← varsCells_append, List.take_append_drop]
    have h1 : (varsCells l)[p * 3 + j]? = some u := by rw [e, List.getElem?_append_right (by rw [HOL.out]; omega), HOL.out, Nat.add_sub_cancel_left]; exact hj
    have h2 := HV.out.cells (g := g) rfl _ _ h1
    rw [HA.out, Nat.zero_add] at h2
    rw [HA.out]; exact h2)
  have HFIT := Lib.hid (show (p + 1) * 3 + (varsCells (l.drop p)).length ≤ cur.size by rw [HDL.out, HCU.out]; omega)
  have hw1 : IntKind.i64.wrap ((p : Int) + 1) = (p : Int) + 1 := by rw [IntKind.wrap_i64]; omega
  have hp1 : (0 : Int) ≤ (p : Int) + 1 := by omega
  have hpn : ((p : Int) + 1).toNat = p + 1 := by omega
  have hp3 : (p : Int) + 1 ≤ (N : Int) + 1 := by omega
  have hp4 : (p : Int) ≤ (N : Int) + 1 := by omega
  have hCp : ¬ (C = p + 1) := by omega
  have hCp2 : ¬ (C = p) := by omega
  go_enter Tryz.func59, Tryz.ntmps59
  go_wp2_with (simp only [HOV.out])
  go_region_law (refine step_copy_rows rfl (.tmp 73) (.tmp 76) 22 22 rfl 36 3 Tryz.underlying22 sz36 g ((p + 1) * 3) (N - p) (C - (p + 1)) ⟨g, p * 3, none⟩ (N + 1 - p) (C - p) (by simp [Act.eval, Act.put]) (by simp [Act.eval, Act.put]) cur 36 hg0 (varsCells (l.drop p)) (by rw [show Nat.min (N + 1 - p) (N - p) = N - p from Nat.min_eq_right (by omega)]; exact HDL.out) HVL.out HFIT.out HONE2.out ?_; intro w2 hg2 hgr2)
  have hgr2' : w.grownBy w2 (some g) := ⟨hgr2.os, hgr2.tape, hgr2.output, hgr2.size, hgr2.block⟩
  have HVX := Lib.hid (fun (j : Nat) u (hj : (varCells x)[j]? = some u) => show w2.cell? ((⟨vb, 0, none⟩ : Addr).add j) = some u by
    have h1 := (HX.out.grown hgr2' (by simpa using hvg)).c.1 j
    rw [HA.out, Nat.zero_add, h1]; simpa using hj)
  have HFIT2 := Lib.hid (show p * 3 + (varCells x).length ≤ (splice cur.toList ((p + 1) * 3) (varsCells (l.drop p))).toArray.size by
    have := HFIT.out
    rw [List.size_toArray, length_splice _ _ _ (by rw [HCL.out, ← HCU.out]; exact this), HCL.out]
    have h3 : (varCells x).length = 3 := rfl
    omega)
  go_wp2_with ((with_reducible refine at_copy ?_); refine wpList_copy_rows _ rfl (.tmp 80) (.tmp 81) 22 22 rfl 36 3 Tryz.underlying22 sz36 g (p * 3) (N + 1 - p) (C - p) ⟨vb, 0, none⟩ 1 1 rfl rfl _ 36 hg2 (varCells x) (by rw [show Nat.min 1 (N + 1 - p) = 1 from Nat.min_eq_left (by omega)]; rfl) HVX.out HFIT2.out HONE.out ?_; intro w3 hg3 hgr3)
  go_ret
  refine ⟨_, _, rfl, ?_, grown_trans hgr2' hgr3⟩
  have e0 : cur.toList = varsCells (l.take p) ++ (varsCells (l.drop p) ++ cur.toList.drop (N * 3)) := by
    have h : cur.toList = cur.toList.take (N * 3) ++ cur.toList.drop (N * 3) := (List.take_append_drop _ _).symm
    rw [HT.out] at h
    rw [← List.append_assoc, ← varsCells_append, List.take_append_drop]; exact h
  have e2 : (varsCells (l.take p)).length + (varCells x).length = (p + 1) * 3 := by rw [HOL.out]; simp [varCells]; omega
  have e3 : varsCells (l.take p ++ x :: l.drop p) = varsCells (l.take p) ++ varCells x ++ varsCells (l.drop p) := by rw [varsCells_append, varsCells_cons, List.append_assoc]
  have e4 : (varsCells (l.take p) ++ varCells x ++ varsCells (l.drop p)).length = (N + 1) * 3 := by
    rw [List.length_append, List.length_append, e2, HDL.out]; omega
  have e5 : splice (splice cur.toList ((p + 1) * 3) (varsCells (l.drop p))) (p * 3) (varCells x) = varsCells (l.take p) ++ varCells x ++ varsCells (l.drop p) ++ cur.toList.drop ((N + 1) * 3) := by
    rw [← e2, ← HOL.out]
    exact splice_back _ _ _ _ _ _ e0 (by simp [varCells]) (by rw [e2, HDL.out]; omega) (by rw [HCL.out, e2, HDL.out]; omega)
  rw [e5] at hg3
  rw [e3]
  refine ⟨e4, .inr ⟨g, C, _, rfl, hbg, hg3, hC, by unfold maxLen; omega, ?_, ?_⟩⟩
  · rw [List.size_toArray, List.length_append, e4, List.length_drop, HCL.out]; omega
  · rw [← e4]; exact List.take_left

theorem varsCells_set (l : List Var) (x : Var) : ∀ (p : Nat), (((varsCells l).set (p * 3) (.string (B x.name))).set (p * 3 + 1) (.string (B x.text))).set (p * 3 + 2) (.bool x.simple) = varsCells (l.set p x) := by
  induction l with
  | nil => intro p; rfl
  | cons y l ih =>
    intro p
    cases p with
    | zero => simp [varsCells_cons, varCells]
    | succ p =>
      have e1 : (p + 1) * 3 = p * 3 + 3 := by omega
      rw [e1, List.set_cons_succ, varsCells_cons, varsCells_cons, ← ih p]
      simp [varCells]

/-- Insert of one more: at its place. -/
theorem insert_any (A : Option Addr) (N C p base : Nat) (l : List Var) (x : Var) (vb : Nat) (w : World) (hN : N = l.length) (hv : w.ownsRow base 36 3 (.slice A N C) N (varsCells l)) (hb : base ≤ w.heap.size) (hN2 : N ≤ 1000000000) (hp : p ≤ N)
    (hx : Blk w vb 36 (varCells x).toArray) (hvg : ∀ g, A = some ⟨g, 0, none⟩ → vb ≠ g) :
    Calls Tryz.prog 59 #[.slice A N C, .int .i64 p, .slice (some ⟨vb, 0, none⟩) 1 1] w fun e w' => ∃ A' C', e = .returned (.slice A' (N + 1) C') ∧ w'.ownsRow base 36 3 (.slice A' (N + 1) C') (N + 1) (varsCells (l.take p ++ x :: l.drop p)) ∧ w.grownBy w' (A.map (·.block)) := by
  by_cases hpN : p = N
  · subst hpN
    have e : l.take p ++ x :: l.drop p = l ++ [x] := by rw [hN, List.take_length, List.drop_length]
    rw [e]
    exact insert_end A p C base l x vb w hN hv hb hN2 hx
  · rcases hv.2 with ⟨h2, h3⟩ | ⟨g, cap, cur, h2, h3, h4, h5, h6, h7, h8⟩
    · omega
    · injection h2 with e1 e2 e3
      subst e1
      subst e3
      by_cases hC : N < C
      · exact insert_shift g N C p l x vb base w hN hv hN2 (by omega) hC hx (hvg g rfl)
      · obtain rfl : C = N := by omega
        refine (insert_grow g C p l x vb base w hN hv hb hN2 (by omega) hx).mono ?_
        rintro e w' ⟨A', C', he, h, hb'⟩
        exact ⟨A', C', he, h, below_grown hb' _⟩

theorem row_blk {w : World} {base e size n g C : Nat} {xs : List Value} (h : w.ownsRow base e size (.slice (some ⟨g, 0, none⟩) n C) n xs) : ∃ cur, Blk w g e cur ∧ base ≤ g := by
  rcases h.2 with ⟨h2, _⟩ | ⟨g', cap', cur, h2, hb, hg, _⟩
  · cases h2
  · injection h2 with e1 e2 e3; cases e1; exact ⟨cur, hg, hb⟩

set_option maxRecDepth 100000 in
set_option maxHeartbeats 800000 in
/-- Set: the variables with one more, in its place. -/
theorem set_any (A : Option Addr) (N C : Nat) (l : List Var) (x : Var) (w : World) (hv : VR w (.slice A N C) l) (ho : InOrder l) (hN2 : N ≤ 100000000) :
    Calls Tryz.prog 27 #[.agg #[.slice A N C], .agg #[.string (B x.name), .string (B x.text), .bool x.simple]] w fun e w' =>
      ∃ A' N' C', e = .returned (.agg #[.slice A' N' C']) ∧ VR w' (.slice A' N' C') (insV x l) ∧ Below w.heap.size w w' := by
  obtain ⟨p, hp, hins⟩ := stands_of l x.name ho
  obtain ⟨hi1, hi2⟩ := hins x rfl
  have HV := Lib.hid hv
  have HN := Lib.hid hv.parts.1
  have HP := Lib.hid hp
  clear hv hins hp
  go_enter Tryz.func27, Tryz.ntmps27
  go_wp2_with fail
  refine (clone_any A N C l _ (HV.out.below (by go_grown)) (by omega)).mono ?_
  rintro e w1 ⟨A1, C1, rfl, hown, hb⟩
  rw [show ((((w.alloc (.cells #[.slice A N C] 25)).alloc (.cells #[.string (B x.name), .string (B x.text), .bool x.simple] 36)).alloc (.cells #[.slice none 0 0] 25)).heap.size) = w.heap.size + 3 by simp only [World.size_alloc]] at hown
  have hW1 : Below w.heap.size w w1 := below_then (by go_grown) (by simp only [World.size_alloc]; omega) hb
  have BA := Lib.hid ((((Blk.new w 25 _ rfl).alloc _).alloc _).below hb (g := w.heap.size))
  have BB := Lib.hid (((Blk.new (w.alloc _) 36 _ (g := w.heap.size + 1) (by simp)).alloc _).below hb)
  have BC := Lib.hid ((Blk.new ((w.alloc _).alloc _) 25 _ (g := w.heap.size + 2) (by simp)).below hb)
  obtain ⟨a1, a2, a3⟩ := BA.out.c
  obtain ⟨b1, b2, b3⟩ := BB.out.c
  have HO := Lib.hid hown
  have HW := Lib.hid hW1
  have HVn := Lib.hid (HV.out.below hW1)
  clear hown hW1 hb
  go_wp2_with fail
  refine (place_any A N C l x.name p _ HVn.out (by omega) HP.out).mono ?_
  rintro e w2 ⟨rfl, hb2⟩
  clear a1 a2 a3 b1 b2 b3
  have HB2 := Lib.hid hb2
  have HO2 := Lib.hid (row_below HO.out hb2)
  obtain ⟨b1, b2, b3⟩ := (BB.out.below hb2).c
  obtain ⟨c1, c2, c3⟩ := (BC.out.below hb2).c
  have BC2 := Lib.hid (BC.out.below hb2)
  have hsz : w.heap.size + 3 ≤ w2.heap.size := by have := (BC.out.below hb2).lt; omega
  have HW2 := Lib.hid (below_then HW.out HW.out.size hb2)
  clear hb2 BA BB BC
  cases hat : isAt l x.name p with
  | true =>
    obtain ⟨hpl, hins⟩ := hi1 hat
    have hpN : p < N := by rw [HN.out]; exact hpl
    have HI := Lib.hid hins
    clear hi1 hi2 hins hat hpl
    rcases HO2.out.2 with ⟨h2, h3⟩ | ⟨g, cap, cur, h2, h3, h4, _⟩
    · omega
    · injection h2 with e1 e2 e3
      clear e2
      subst e1
      subst e3
      obtain ⟨y, hy⟩ : ∃ y, l[p]? = some y := ⟨l[p]'(by have := HN.out; omega), List.getElem?_eq_getElem _⟩
      have HVR : VR w2 (.slice (some ⟨g, 0, none⟩) N C1) l := by have := row_low (base' := 0) HO2.out (Nat.zero_le _); rw [HN.out] at this ⊢; exact this
      obtain ⟨y1, y2, y3⟩ := HVR.cell hy
      have HF := (show Blk w2 g 36 cur from h4).c.2.1
      have hg1 : ¬ g = w.heap.size := by omega
      have hg2 : ¬ g = w.heap.size + 1 := by omega
      have hg3 : ¬ g = w.heap.size + 1 + 1 := by omega
      clear hy h4 HVR
      go_wp2
      refine bodyPost_ret (v := .agg #[.slice (some ⟨g, 0, none⟩) N C1]) (by simp [results, Tryz.results27, go_sem, c1, c2, hg3]) rfl ?_
      refine ⟨_, _, _, rfl, ?_, (((HW2.out.setCell (p := ⟨g, p * 3, none⟩) (by show w.heap.size ≤ g; omega) _).setCell (p := ⟨g, p * 3 + 1, none⟩) (by show w.heap.size ≤ g; omega) _).setCell (p := ⟨g, p * 3 + 2, none⟩) (by show w.heap.size ≤ g; omega) _).setCell (by show w.heap.size ≤ w.heap.size + 1 + 1; omega) _⟩
      have s1 := ((HO2.out.stored (p * 3) (.string (B x.name))).1.stored (p * 3 + 1) (.string (B x.text))).1.stored (p * 3 + 2) (.bool x.simple)
      rw [varsCells_set] at s1
      have s2 := row_low (base' := 0) (s1.1.kept (grown_set_ (World.grownBy.refl _ (some (w.heap.size + 1 + 1))) ⟨w.heap.size + 1 + 1, 0, none⟩ (.slice (some ⟨g, 0, none⟩) N C1) (.inr rfl)) (.inr (by simp [Value.ownBlock]; omega))) (Nat.zero_le _)
      unfold VR
      rw [HI.out, List.length_set, ← HN.out]
      exact s2
  | false =>
    have HI := Lib.hid (hi2 hat)
    clear hi1 hi2 hat
    have hpN : p ≤ N := by rw [HN.out]; exact HP.out.le
    clear HP
    go_wp2_with fail
    have hx : Blk (w2.alloc (.cells #[.string (B x.name), .string (B x.text), .bool x.simple] 36)) w2.heap.size 36 (varCells x).toArray := Blk.new w2 36 _ rfl
    refine (insert_any A1 N C1 p (w.heap.size + 3) l x w2.heap.size _ HN.out (HO2.out.alloc _) (by simp only [World.size_alloc]; omega) (by omega) hpN hx (fun g hg e => by
      subst hg
      have := (HO2.out.lt g rfl).2
      omega)).mono ?_
    rintro e w3 ⟨A3, C3, rfl, hown3, hgr3⟩
    have hA3 : ∀ k, A1.map (·.block) = some k → w.heap.size + 3 ≤ k := fun k hk => by
      cases A1 with
      | none => cases hk
      | some a => exact (HO2.out.lt k hk).1
    have HB3 := Lib.hid (below_then (n := w.heap.size) (w1 := w2) HW2.out HW2.out.size (Below.refl _ _))
    have HW3 := Lib.hid (((HW2.out.alloc HW2.out.size (.cells #[.string (B x.name), .string (B x.text), .bool x.simple] 36)).grown hgr3 (by simp only [World.size_alloc]; omega) (fun k hk => by have := hA3 k hk; omega)))
    obtain ⟨d1, d2, d3⟩ := ((BC2.out.alloc _).grown hgr3 (fun e => by have := hA3 _ e.symm; omega)).c
    have HO3 := Lib.hid hown3
    clear hown3 hgr3 hA3 hx b1 b2 b3 c1 c2 c3 HB3
    go_wp2
    refine bodyPost_ret (v := .agg #[.slice A3 (N + 1) C3]) (by simp [results, Tryz.results27, go_sem, d1, d2]) rfl ?_
    refine ⟨_, _, _, rfl, ?_, HW3.out.setCell (by show w.heap.size ≤ w.heap.size + 1 + 1; omega) _⟩
    have hne : Value.ownBlock (.slice A3 (N + 1) C3) ≠ some (w.heap.size + 1 + 1) := fun e => by have := (HO3.out.lt _ e).1; omega
    have s2 := row_low (base' := 0) (HO3.out.kept (grown_set_ (World.grownBy.refl _ (some (w.heap.size + 1 + 1))) ⟨w.heap.size + 1 + 1, 0, none⟩ (.slice A3 (N + 1) C3) (.inr rfl)) (.inr hne)) (Nat.zero_le _)
    unfold VR
    have hl : (insV x l).length = N + 1 := by
      rw [HI.out, List.length_append, List.length_cons, List.length_take, List.length_drop]
      have := HN.out
      omega
    rw [hl, HI.out]
    exact s2
end Go.Proofs.YtopkcgdfebkbaaaGreatDoor
