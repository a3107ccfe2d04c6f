/- Walks: the document's Set. -/
import Derived.Test.YtopkcgdfebkbaaaGreatDoorW4
import Derived.BigQuiet
import Derived.Deep.RegionWith
set_option linter.unusedVariables false
set_option linter.unusedSimpArgs false
namespace Go.Proofs.YtopkcgdfebkbaaaGreatDoor
open Go.RowKit
attribute [local go_sem] B_size B_toList

/-- The document's variables. -/
def VRr (w : World) (v : Value) (l : List Var) : Prop := w.ownsRow 0 39 3 v l.length (varsCells l)
theorem info39 : (Tryz.prog.info? 39).map (fun i => (i.zero, i.size, i.bytes)) = some (some (.agg #[.string ⟨#[]⟩, .string ⟨#[]⟩, .bool false]), 3, 40) := by kernel_rfl

theorem blk_cells {w : World} {g : Nat} {t : TypeId} {cs : List Value} (h : Blk w g t cs.toArray) (j : Nat) (u : Value) (hj : cs[j]? = some u) : w.cell? ((⟨g, 0, none⟩ : Addr).add j) = some u := by
  have h1 := h.c.1 j
  have ha : (⟨g, 0, none⟩ : Addr).add j = ⟨g, j, none⟩ := by unfold Addr.add; split <;> simp_all
  rw [ha, h1]; simpa using hj
theorem VRr.parts {w : World} {A : Option Addr} {N C : Nat} {l : List Var} (h : VRr w (.slice A N C) l) : N = l.length := by
  rcases h.2 with ⟨h2, h3⟩ | ⟨g, cap, cur, h2, _⟩
  · injection h2 with e1 e2 e3; rw [e2, ← h3]
  · injection h2 with e1 e2 e3
theorem VRr.cell {w : World} {A : Option Addr} {N C : Nat} {l : List Var} (h : VRr w (.slice A N C) l) {k : Nat} {x : Var} (hk : l[k]? = some x) :
    ∃ g, A = some ⟨g, 0, none⟩ ∧ w.cell? ⟨g, k * 3, none⟩ = some (.string (B x.name)) ∧ w.cell? ⟨g, k * 3 + 1, none⟩ = some (.string (B x.text)) ∧ w.cell? ⟨g, k * 3 + 2, none⟩ = some (.bool x.simple) := by
  obtain ⟨c1, c2, c3⟩ := varsCells_at l k x hk
  rcases h.2 with ⟨h2, h3⟩ | ⟨g, cap, cur, h2, h4⟩
  · have := (List.getElem?_eq_some_iff.1 hk).1
    omega
  · injection h2 with e1 e2 e3
    subst e1
    have hc := fun j u (hj : (varsCells l)[j]? = some u) => h.cells (g := g) rfl j u hj
    have ha : ∀ j, (⟨g, 0, none⟩ : Addr).add j = ⟨g, j, none⟩ := fun j => by unfold Addr.add; split <;> simp_all
    exact ⟨g, rfl, by have := hc _ _ c1; rwa [ha] at this, by have := hc _ _ c2; rwa [ha] at this, by have := hc _ _ c3; rwa [ha] at this⟩

theorem below_dn {w : World} (n : Nat) : Below w.heap.size w (w.drewN n) := ⟨rfl, rfl, rfl, Nat.le_refl _, fun _ _ => rfl⟩
theorem bytes40 {n : Nat} (h : n ≤ 1000000000) : n * 40 ≤ 140737488355328 := by omega
theorem le_maxLen {n : Nat} (h : n ≤ 1000000000) : n ≤ maxLen := by unfold maxLen; omega

def setR (x : Var) : Bool → List Var → List Var
  | d, [] => if d then [] else [x]
  | d, y :: r => (if !d && !Op.bytesLess y.name x.name then [x] else []) ++ ((if y.name = x.name then [] else [y]) ++ setR x (d || !Op.bytesLess y.name x.name) r)
theorem setR_true (x : Var) : ∀ l : List Var, (∀ y ∈ l, y.name ≠ x.name) → setR x true l = l
  | [], _ => rfl
  | y :: r, h => by
    have h1 := h y (by simp)
    have h2 := setR_true x r (fun z hz => h z (by simp [hz]))
    simp [setR, h1, h2]
theorem setR_eq (x : Var) : ∀ l : List Var, InOrder l → setR x false l = insV x l
  | [], _ => rfl
  | y :: r, h => by
    have hh := h.head
    cases hy : Op.bytesLess y.name x.name with
    | true =>
      have hne : y.name ≠ x.name := by intro e; rw [e, less_irr] at hy; cases hy
      have := setR_eq x r h.tail
      simp [setR, insV, hy, hne, this]
    | false =>
      have hr : ∀ z ∈ r, z.name ≠ x.name := by
        intro z hz e
        have h1 := hh z hz
        rw [e, hy] at h1
        cases h1
      have := setR_true x r hr
      by_cases hne : y.name = x.name
      · have hxx : Op.bytesLess x.name x.name = false := less_irr _
        simp [setR, insV, hne, hxx, this]
      · simp [setR, insV, hy, hne, this]

theorem row_append_below {w W1 W2 : World} {e size k b : Nat} {v : Value} {xs : List Value} {o : Obj} (hb : Below w.heap.size w W1) (hr : W1.ownsRow b e size v k xs) (hw : w.heap.size ≤ b) (hg : (W1.alloc o).grownBy W2 v.ownBlock) : Below w.heap.size w W2 :=
  (hb.alloc hb.size o).grown hg (by simp; have := hb.size; omega) (fun j e' => by have := (hr.lt j e').1; omega)
theorem row_append_blk {W1 W2 : World} {b e size k : Nat} {v : Value} {xs : List Value} {o : Obj} {g : Nat} {t : TypeId} {cs : Array Value} (h : Blk W1 g t cs) (hr : W1.ownsRow b e size v k xs) (hw : g < b) (hg : (W1.alloc o).grownBy W2 v.ownBlock) : Blk W2 g t cs :=
  (h.alloc o).grown hg (fun e' => by have := (hr.lt g e'.symm).1; omega)

theorem row_snoc {w : World} {b e : Nat} {v : Value} {l : List Var} {y : Var} (h : w.ownsRow b e 3 v (l.length + 1) (varsCells l ++ varCells y)) : w.ownsRow b e 3 v (l ++ [y]).length (varsCells (l ++ [y])) := by
  rw [varsCells_snoc, List.length_append]; exact h

set_option maxRecDepth 100000 in
set_option maxHeartbeats 2000000 in
theorem refSet_any (A : Option Addr) (N C : Nat) (l : List Var) (x : Var) (w : World) (hv : VRr w (.slice A N C) l) (ho : InOrder l) (hN2 : N ≤ 100000000) :
    Calls Tryz.prog 50 #[.agg #[.slice A N C], .agg #[.string (B x.name), .string (B x.text), .bool x.simple]] w fun e w' =>
      ∃ A' N' C', e = .returned (.agg #[.slice A' N' C']) ∧ VRr w' (.slice A' N' C') (insV x l) ∧ Below w.heap.size w w' := by
  obtain ⟨i0, hi, hz0, hz1, hz2⟩ := info_parts info39
  have hN := hv.parts
  subst hN
  have HV := Lib.hid hv
  have HE := Lib.hid (setR_eq x l ho)
  clear hv ho
  have hone : ∀ y : Var, ∀ u ∈ varCells y, u.oneCell' = true := by intro y u hu; simp [varCells] at hu; rcases hu with rfl | rfl | rfl <;> rfl
  have HONE := Lib.hid hone
  clear hone
  go_enter Tryz.func50, Tryz.ntmps50
  go_wp2_with fail
  have BA := (((Blk.new w 28 #[.slice A l.length C] rfl).alloc (.cells #[.string (B x.name), .string (B x.text), .bool x.simple] 39)).alloc (.cells #[.slice none 0 0] 28))
  have BB := ((Blk.new (w.alloc (.cells #[.slice A l.length C] 28)) 39 #[.string (B x.name), .string (B x.text), .bool x.simple] (g := w.heap.size + 1) (by simp)).alloc (.cells #[.slice none 0 0] 28))
  have BC := (Blk.new ((w.alloc (.cells #[.slice A l.length C] 28)).alloc (.cells #[.string (B x.name), .string (B x.text), .bool x.simple] 39)) 28 #[.slice none 0 0] (g := w.heap.size + 2) (by simp))
  have HB0 : Below w.heap.size w (((w.alloc (.cells #[.slice A l.length C] 28)).alloc (.cells #[.string (B x.name), .string (B x.text), .bool x.simple] 39)).alloc (.cells #[.slice none 0 0] 28)) := by go_grown
  have hs0 : (((w.alloc (.cells #[.slice A l.length C] 28)).alloc (.cells #[.string (B x.name), .string (B x.text), .bool x.simple] 39)).alloc (.cells #[.slice none 0 0] 28)).heap.size = w.heap.size + 3 := by simp
  go_loopw [5, 6, 7] (fun ov dv iv wr => ∃ (i : Nat) (d : Bool) (out : List Var), iv = .int .i64 i ∧ dv = .bool d ∧ i ≤ l.length ∧ out.length ≤ 2 * i ∧ wr.ownsRow (w.heap.size + 3) 39 3 ov out.length (varsCells out) ∧ out ++ setR x d (l.drop i) = insV x l ∧ Below w.heap.size w wr ∧ Blk wr w.heap.size 28 #[.slice A l.length C] ∧ Blk wr (w.heap.size + 1) 39 #[.string (B x.name), .string (B x.text), .bool x.simple] ∧ Blk wr (w.heap.size + 2) 28 #[.slice none 0 0])
    (fun ov dv iv wr => l.length - (intOf iv).toNat)
  case atStart => exact ⟨0, false, [], rfl, rfl, by omega, by simp, World.ownsRow_nil _ _ _ _, HE.out, HB0, BA, BB, BC⟩
  case round =>
    obtain ⟨i, d, out, rfl, rfl, hil, hol, hrow, heq, hb, ha, hbb, hc⟩ := hrel
    have hi0 : (0 : Int) ≤ (i : Int) := by omega
    obtain ⟨A3, C3, rfl⟩ := row_slice hrow
    have HROW := Lib.hid hrow
    have HEQ := Lib.hid heq
    have HB := Lib.hid hb
    have HA := Lib.hid ha
    have HBB := Lib.hid hbb
    have HC := Lib.hid hc
    have hsz := hb.size
    have hsz2 := hc.lt
    obtain ⟨a1, a2, a3⟩ := ha.c
    clear hrow heq hb ha hbb hc BA BB BC HB0 hs0
    by_cases hlt : i < l.length
    · have hi1 : (i : Int) < (l.length : Int) := by omega
      obtain ⟨y, hy⟩ : ∃ y, l[i] = y := ⟨_, rfl⟩
      have hdr : l.drop i = y :: l.drop (i + 1) := by rw [← hy]; exact List.drop_eq_getElem_cons hlt
      have hyk : l[i]? = some y := by rw [List.getElem?_eq_getElem hlt, hy]
      have hvr : VRr wr (.slice A l.length C) l := row_below HV.out HB.out
      obtain ⟨g0, hA, y1, y2, y3⟩ := hvr.cell hyk
      clear hvr
      subst hA
      have HD := Lib.hid hdr
      have hyk' := hyk
      clear hy hdr hyk'
      have hk1 : out.length + 1 ≤ 1000000000 := by omega
      have hk2 : out.length + 1 + 1 ≤ 1000000000 := by omega
      have hm1 := le_maxLen hk1
      have hm2 := bytes40 hk1
      have hm3 := le_maxLen hk2
      have hm4 := bytes40 hk2
      obtain ⟨b1, b2, b3⟩ := HBB.out.c
      cases d with
      | false =>
        cases hless : Op.bytesLess y.name x.name with
        | true =>
          have hle : (Op.bytesLess x.name y.name || x.name == y.name) = false := by
            rw [less_asymm hless, Bool.false_or, beq_eq_false_iff_ne]
            intro e; rw [e, less_irr] at hless; cases hless
          have hne : y.name ≠ x.name := by intro e; rw [e, less_irr] at hless; cases hless
          have hne1 : (!y.name == x.name) = true := by simpa using hne
          go_wp2_with fail
          go_quiet (fail)
          have HB1 := Lib.hid (below_then HB.out HB.out.size (below_dn nq))
          have HROW1 := Lib.hid (row_below HROW.out (below_dn nq))
          have HA1 := Lib.hid (HA.out.below (below_dn nq))
          have HBB1 := Lib.hid (HBB.out.below (below_dn nq))
          have HC1 := Lib.hid (HC.out.below (below_dn nq))
          generalize wr.drewN nq = w1 at *
          clear HB HROW HA HBB HC y1 y2 y3 a1 a2 a3 b1 b2 b3
          have hsz1 := HC1.out.lt
          have hvr : VRr w1 (.slice (some ⟨g0, 0, none⟩) l.length C) l := row_below HV.out HB1.out
          obtain ⟨g1, hg1, y1, y2, y3⟩ := hvr.cell hyk
          cases hg1
          clear hvr
          obtain ⟨a1, a2, a3⟩ := HA1.out.c
          obtain ⟨b1, b2, b3⟩ := HBB1.out.c
          go_wp2_with fail
          go_quiet (fail)
          have HB2 := Lib.hid (below_then HB1.out HB1.out.size (below_dn nq))
          have HROW2 := Lib.hid (row_below HROW1.out (below_dn nq))
          have HA2 := Lib.hid (HA1.out.below (below_dn nq))
          have HBB2 := Lib.hid (HBB1.out.below (below_dn nq))
          have HC2 := Lib.hid (HC1.out.below (below_dn nq))
          generalize w1.drewN nq = w2 at *
          clear HB1 HROW1 HA1 HBB1 HC1 y1 y2 y3 a1 a2 a3 b1 b2 b3
          have hsz2 := HC2.out.lt
          have hvr : VRr w2 (.slice (some ⟨g0, 0, none⟩) l.length C) l := row_below HV.out HB2.out
          obtain ⟨g1, hg1, y1, y2, y3⟩ := hvr.cell hyk
          cases hg1
          clear hvr
          obtain ⟨a1, a2, a3⟩ := HA2.out.c
          obtain ⟨b1, b2, b3⟩ := HBB2.out.c
          go_wp2_with (at_builtin; refine wpList_append_own _ rfl (.tmp 41) (.tmp 47) 26 rfl (w.heap.size + 3) 39 i0 _ 3 40 Tryz.underlying26 hi hz0 hz1 hz2 rfl (by decide) _ _ (varsCells out) rfl (HROW2.out.alloc _) ⟨w2.heap.size, 0, none⟩ 1 1 (varCells y) rfl rfl (blk_cells (Blk.new w2 39 (varCells y).toArray rfl)) (HONE.out y) hm1 hm2 (by simp; omega) ?_; intro v' w3 hown' hgrow _; have HB3 := Lib.hid (row_append_below HB2.out HROW2.out (by omega) hgrow); have HA3 := Lib.hid (row_append_blk HA2.out HROW2.out (by omega) hgrow); have HBB3 := Lib.hid (row_append_blk HBB2.out HROW2.out (by omega) hgrow); have HC3 := Lib.hid (row_append_blk HC2.out HROW2.out (by omega) hgrow); have HROW3 := Lib.hid (row_snoc hown'); clear hown' hgrow)
          clear HB2 HROW2 HA2 HBB2 HC2 y1 y2 y3 a1 a2 a3 b1 b2 b3
          have hsz3 := HC3.out.lt
          obtain ⟨A3, C3, rfl⟩ := row_slice HROW3.out
          go_roundw
          case rel => exact ⟨i + 1, false, out ++ [y], by rw [Int.natCast_add]; rfl, rfl, by omega, by first | omega | (simp; omega), HROW3.out, by rw [← HEQ.out, HD.out]; simp [setR, hless, hne, less_irr], HB3.out, HA3.out, HBB3.out, HC3.out⟩
          case measure => simp [intOf]; omega
        | false =>
          have hle : (Op.bytesLess x.name y.name || x.name == y.name) = true := by
            by_cases e : x.name = y.name
            · simp [e]
            · rw [less_tri hless (Ne.symm e)]; rfl
          by_cases hne : y.name = x.name
          · have hne1 : (!y.name == x.name) = false := by simpa using hne
            go_wp2_with fail
            go_quiet (fail)
            have HB1 := Lib.hid (below_then HB.out HB.out.size (below_dn nq))
            have HROW1 := Lib.hid (row_below HROW.out (below_dn nq))
            have HA1 := Lib.hid (HA.out.below (below_dn nq))
            have HBB1 := Lib.hid (HBB.out.below (below_dn nq))
            have HC1 := Lib.hid (HC.out.below (below_dn nq))
            generalize wr.drewN nq = w1 at *
            clear HB HROW HA HBB HC y1 y2 y3 a1 a2 a3 b1 b2 b3
            have hsz1 := HC1.out.lt
            have hvr : VRr w1 (.slice (some ⟨g0, 0, none⟩) l.length C) l := row_below HV.out HB1.out
            obtain ⟨g1, hg1, y1, y2, y3⟩ := hvr.cell hyk
            cases hg1
            clear hvr
            obtain ⟨a1, a2, a3⟩ := HA1.out.c
            obtain ⟨b1, b2, b3⟩ := HBB1.out.c
            go_wp2_with (at_builtin; refine wpList_append_own _ rfl (.tmp 28) (.tmp 30) 26 rfl (w.heap.size + 3) 39 i0 _ 3 40 Tryz.underlying26 hi hz0 hz1 hz2 rfl (by decide) _ _ (varsCells out) rfl (HROW1.out.alloc _) ⟨w1.heap.size, 0, none⟩ 1 1 (varCells x) rfl rfl (blk_cells (Blk.new w1 39 (varCells x).toArray rfl)) (HONE.out x) hm1 hm2 (by simp; omega) ?_; intro v' w2 hown' hgrow _; have HB2 := Lib.hid (row_append_below HB1.out HROW1.out (by omega) hgrow); have HA2 := Lib.hid (row_append_blk HA1.out HROW1.out (by omega) hgrow); have HBB2 := Lib.hid (row_append_blk HBB1.out HROW1.out (by omega) hgrow); have HC2 := Lib.hid (row_append_blk HC1.out HROW1.out (by omega) hgrow); have HROW2 := Lib.hid (row_snoc hown'); clear hown' hgrow)
            clear HB1 HROW1 HA1 HBB1 HC1 y1 y2 y3 a1 a2 a3 b1 b2 b3
            have hsz2 := HC2.out.lt
            obtain ⟨A2, C2, rfl⟩ := row_slice HROW2.out
            have hvr : VRr w2 (.slice (some ⟨g0, 0, none⟩) l.length C) l := row_below HV.out HB2.out
            obtain ⟨g1, hg1, y1, y2, y3⟩ := hvr.cell hyk
            cases hg1
            clear hvr
            obtain ⟨a1, a2, a3⟩ := HA2.out.c
            obtain ⟨b1, b2, b3⟩ := HBB2.out.c
            go_wp2_with fail
            go_quiet (fail)
            have HB3 := Lib.hid (below_then HB2.out HB2.out.size (below_dn nq))
            have HROW3 := Lib.hid (row_below HROW2.out (below_dn nq))
            have HA3 := Lib.hid (HA2.out.below (below_dn nq))
            have HBB3 := Lib.hid (HBB2.out.below (below_dn nq))
            have HC3 := Lib.hid (HC2.out.below (below_dn nq))
            generalize w2.drewN nq = w3 at *
            clear HB2 HROW2 HA2 HBB2 HC2 y1 y2 y3 a1 a2 a3 b1 b2 b3
            have hsz3 := HC3.out.lt
            have hvr : VRr w3 (.slice (some ⟨g0, 0, none⟩) l.length C) l := row_below HV.out HB3.out
            obtain ⟨g1, hg1, y1, y2, y3⟩ := hvr.cell hyk
            cases hg1
            clear hvr
            obtain ⟨a1, a2, a3⟩ := HA3.out.c
            obtain ⟨b1, b2, b3⟩ := HBB3.out.c
            go_wp2_with fail
            go_roundw
            case rel => exact ⟨i + 1, true, out ++ [x], by rw [Int.natCast_add]; rfl, rfl, by omega, by first | omega | (simp; omega), HROW3.out, by rw [← HEQ.out, HD.out]; simp [setR, hless, hne, less_irr], HB3.out, HA3.out, HBB3.out, HC3.out⟩
            case measure => simp [intOf]; omega
          · have hne1 : (!y.name == x.name) = true := by simpa using hne
            go_wp2_with fail
            go_quiet (fail)
            have HB1 := Lib.hid (below_then HB.out HB.out.size (below_dn nq))
            have HROW1 := Lib.hid (row_below HROW.out (below_dn nq))
            have HA1 := Lib.hid (HA.out.below (below_dn nq))
            have HBB1 := Lib.hid (HBB.out.below (below_dn nq))
            have HC1 := Lib.hid (HC.out.below (below_dn nq))
            generalize wr.drewN nq = w1 at *
            clear HB HROW HA HBB HC y1 y2 y3 a1 a2 a3 b1 b2 b3
            have hsz1 := HC1.out.lt
            have hvr : VRr w1 (.slice (some ⟨g0, 0, none⟩) l.length C) l := row_below HV.out HB1.out
            obtain ⟨g1, hg1, y1, y2, y3⟩ := hvr.cell hyk
            cases hg1
            clear hvr
            obtain ⟨a1, a2, a3⟩ := HA1.out.c
            obtain ⟨b1, b2, b3⟩ := HBB1.out.c
            go_wp2_with (at_builtin; refine wpList_append_own _ rfl (.tmp 28) (.tmp 30) 26 rfl (w.heap.size + 3) 39 i0 _ 3 40 Tryz.underlying26 hi hz0 hz1 hz2 rfl (by decide) _ _ (varsCells out) rfl (HROW1.out.alloc _) ⟨w1.heap.size, 0, none⟩ 1 1 (varCells x) rfl rfl (blk_cells (Blk.new w1 39 (varCells x).toArray rfl)) (HONE.out x) hm1 hm2 (by simp; omega) ?_; intro v' w2 hown' hgrow _; have HB2 := Lib.hid (row_append_below HB1.out HROW1.out (by omega) hgrow); have HA2 := Lib.hid (row_append_blk HA1.out HROW1.out (by omega) hgrow); have HBB2 := Lib.hid (row_append_blk HBB1.out HROW1.out (by omega) hgrow); have HC2 := Lib.hid (row_append_blk HC1.out HROW1.out (by omega) hgrow); have HROW2 := Lib.hid (row_snoc hown'); clear hown' hgrow)
            clear HB1 HROW1 HA1 HBB1 HC1 y1 y2 y3 a1 a2 a3 b1 b2 b3
            have hsz2 := HC2.out.lt
            obtain ⟨A2, C2, rfl⟩ := row_slice HROW2.out
            have hvr : VRr w2 (.slice (some ⟨g0, 0, none⟩) l.length C) l := row_below HV.out HB2.out
            obtain ⟨g1, hg1, y1, y2, y3⟩ := hvr.cell hyk
            cases hg1
            clear hvr
            obtain ⟨a1, a2, a3⟩ := HA2.out.c
            obtain ⟨b1, b2, b3⟩ := HBB2.out.c
            go_wp2_with fail
            go_quiet (fail)
            have HB3 := Lib.hid (below_then HB2.out HB2.out.size (below_dn nq))
            have HROW3 := Lib.hid (row_below HROW2.out (below_dn nq))
            have HA3 := Lib.hid (HA2.out.below (below_dn nq))
            have HBB3 := Lib.hid (HBB2.out.below (below_dn nq))
            have HC3 := Lib.hid (HC2.out.below (below_dn nq))
            generalize w2.drewN nq = w3 at *
            clear HB2 HROW2 HA2 HBB2 HC2 y1 y2 y3 a1 a2 a3 b1 b2 b3
            have hsz3 := HC3.out.lt
            have hvr : VRr w3 (.slice (some ⟨g0, 0, none⟩) l.length C) l := row_below HV.out HB3.out
            obtain ⟨g1, hg1, y1, y2, y3⟩ := hvr.cell hyk
            cases hg1
            clear hvr
            obtain ⟨a1, a2, a3⟩ := HA3.out.c
            obtain ⟨b1, b2, b3⟩ := HBB3.out.c
            go_wp2_with (at_builtin; refine wpList_append_own _ rfl (.tmp 41) (.tmp 47) 26 rfl (w.heap.size + 3) 39 i0 _ 3 40 Tryz.underlying26 hi hz0 hz1 hz2 rfl (by decide) _ _ (varsCells (out ++ [x])) rfl (HROW3.out.alloc _) ⟨w3.heap.size, 0, none⟩ 1 1 (varCells y) rfl rfl (blk_cells (Blk.new w3 39 (varCells y).toArray rfl)) (HONE.out y) (by simpa using hm3) (by simpa using hm4) (by simp; omega) ?_; intro v' w4 hown' hgrow _; have HB4 := Lib.hid (row_append_below HB3.out HROW3.out (by omega) hgrow); have HA4 := Lib.hid (row_append_blk HA3.out HROW3.out (by omega) hgrow); have HBB4 := Lib.hid (row_append_blk HBB3.out HROW3.out (by omega) hgrow); have HC4 := Lib.hid (row_append_blk HC3.out HROW3.out (by omega) hgrow); have HROW4 := Lib.hid (row_snoc hown'); clear hown' hgrow)
            clear HB3 HROW3 HA3 HBB3 HC3 y1 y2 y3 a1 a2 a3 b1 b2 b3
            have hsz4 := HC4.out.lt
            obtain ⟨A4, C4, rfl⟩ := row_slice HROW4.out
            go_roundw
            case rel => exact ⟨i + 1, true, out ++ [x] ++ [y], by rw [Int.natCast_add]; rfl, rfl, by omega, by first | omega | (simp; omega), HROW4.out, by rw [← HEQ.out, HD.out]; simp [setR, hless, hne, less_irr], HB4.out, HA4.out, HBB4.out, HC4.out⟩
            case measure => simp [intOf]; omega
      | true =>
        have hless : True := trivial
        by_cases hne : y.name = x.name
        · have hne1 : (!y.name == x.name) = false := by simpa using hne
          go_wp2_with fail
          go_quiet (fail)
          have HB1 := Lib.hid (below_then HB.out HB.out.size (below_dn nq))
          have HROW1 := Lib.hid (row_below HROW.out (below_dn nq))
          have HA1 := Lib.hid (HA.out.below (below_dn nq))
          have HBB1 := Lib.hid (HBB.out.below (below_dn nq))
          have HC1 := Lib.hid (HC.out.below (below_dn nq))
          generalize wr.drewN nq = w1 at *
          clear HB HROW HA HBB HC y1 y2 y3 a1 a2 a3 b1 b2 b3
          have hsz1 := HC1.out.lt
          have hvr : VRr w1 (.slice (some ⟨g0, 0, none⟩) l.length C) l := row_below HV.out HB1.out
          obtain ⟨g1, hg1, y1, y2, y3⟩ := hvr.cell hyk
          cases hg1
          clear hvr
          obtain ⟨a1, a2, a3⟩ := HA1.out.c
          obtain ⟨b1, b2, b3⟩ := HBB1.out.c
          go_wp2_with fail
          go_quiet (fail)
          have HB2 := Lib.hid (below_then HB1.out HB1.out.size (below_dn nq))
          have HROW2 := Lib.hid (row_below HROW1.out (below_dn nq))
          have HA2 := Lib.hid (HA1.out.below (below_dn nq))
          have HBB2 := Lib.hid (HBB1.out.below (below_dn nq))
          have HC2 := Lib.hid (HC1.out.below (below_dn nq))
          generalize w1.drewN nq = w2 at *
          clear HB1 HROW1 HA1 HBB1 HC1 y1 y2 y3 a1 a2 a3 b1 b2 b3
          have hsz2 := HC2.out.lt
          have hvr : VRr w2 (.slice (some ⟨g0, 0, none⟩) l.length C) l := row_below HV.out HB2.out
          obtain ⟨g1, hg1, y1, y2, y3⟩ := hvr.cell hyk
          cases hg1
          clear hvr
          obtain ⟨a1, a2, a3⟩ := HA2.out.c
          obtain ⟨b1, b2, b3⟩ := HBB2.out.c
          go_wp2_with fail
          go_roundw
          case rel => exact ⟨i + 1, true, out, by rw [Int.natCast_add]; rfl, rfl, by omega, by first | omega | (simp; omega), HROW2.out, by rw [← HEQ.out, HD.out]; simp [setR, hless, hne, less_irr], HB2.out, HA2.out, HBB2.out, HC2.out⟩
          case measure => simp [intOf]; omega
        · have hne1 : (!y.name == x.name) = true := by simpa using hne
          go_wp2_with fail
          go_quiet (fail)
          have HB1 := Lib.hid (below_then HB.out HB.out.size (below_dn nq))
          have HROW1 := Lib.hid (row_below HROW.out (below_dn nq))
          have HA1 := Lib.hid (HA.out.below (below_dn nq))
          have HBB1 := Lib.hid (HBB.out.below (below_dn nq))
          have HC1 := Lib.hid (HC.out.below (below_dn nq))
          generalize wr.drewN nq = w1 at *
          clear HB HROW HA HBB HC y1 y2 y3 a1 a2 a3 b1 b2 b3
          have hsz1 := HC1.out.lt
          have hvr : VRr w1 (.slice (some ⟨g0, 0, none⟩) l.length C) l := row_below HV.out HB1.out
          obtain ⟨g1, hg1, y1, y2, y3⟩ := hvr.cell hyk
          cases hg1
          clear hvr
          obtain ⟨a1, a2, a3⟩ := HA1.out.c
          obtain ⟨b1, b2, b3⟩ := HBB1.out.c
          go_wp2_with fail
          go_quiet (fail)
          have HB2 := Lib.hid (below_then HB1.out HB1.out.size (below_dn nq))
          have HROW2 := Lib.hid (row_below HROW1.out (below_dn nq))
          have HA2 := Lib.hid (HA1.out.below (below_dn nq))
          have HBB2 := Lib.hid (HBB1.out.below (below_dn nq))
          have HC2 := Lib.hid (HC1.out.below (below_dn nq))
          generalize w1.drewN nq = w2 at *
          clear HB1 HROW1 HA1 HBB1 HC1 y1 y2 y3 a1 a2 a3 b1 b2 b3
          have hsz2 := HC2.out.lt
          have hvr : VRr w2 (.slice (some ⟨g0, 0, none⟩) l.length C) l := row_below HV.out HB2.out
          obtain ⟨g1, hg1, y1, y2, y3⟩ := hvr.cell hyk
          cases hg1
          clear hvr
          obtain ⟨a1, a2, a3⟩ := HA2.out.c
          obtain ⟨b1, b2, b3⟩ := HBB2.out.c
          go_wp2_with (at_builtin; refine wpList_append_own _ rfl (.tmp 41) (.tmp 47) 26 rfl (w.heap.size + 3) 39 i0 _ 3 40 Tryz.underlying26 hi hz0 hz1 hz2 rfl (by decide) _ _ (varsCells out) rfl (HROW2.out.alloc _) ⟨w2.heap.size, 0, none⟩ 1 1 (varCells y) rfl rfl (blk_cells (Blk.new w2 39 (varCells y).toArray rfl)) (HONE.out y) hm1 hm2 (by simp; omega) ?_; intro v' w3 hown' hgrow _; have HB3 := Lib.hid (row_append_below HB2.out HROW2.out (by omega) hgrow); have HA3 := Lib.hid (row_append_blk HA2.out HROW2.out (by omega) hgrow); have HBB3 := Lib.hid (row_append_blk HBB2.out HROW2.out (by omega) hgrow); have HC3 := Lib.hid (row_append_blk HC2.out HROW2.out (by omega) hgrow); have HROW3 := Lib.hid (row_snoc hown'); clear hown' hgrow)
          clear HB2 HROW2 HA2 HBB2 HC2 y1 y2 y3 a1 a2 a3 b1 b2 b3
          have hsz3 := HC3.out.lt
          obtain ⟨A3, C3, rfl⟩ := row_slice HROW3.out
          go_roundw
          case rel => exact ⟨i + 1, true, out ++ [y], by rw [Int.natCast_add]; rfl, rfl, by omega, by first | omega | (simp; omega), HROW3.out, by rw [← HEQ.out, HD.out]; simp [setR, hless, hne, less_irr], HB3.out, HA3.out, HBB3.out, HC3.out⟩
          case measure => simp [intOf]; omega
    · obtain rfl : i = l.length := by omega
      have hk1 : out.length + 1 ≤ 1000000000 := by omega
      have hm1 := le_maxLen hk1
      have hm2 := bytes40 hk1
      obtain ⟨b1, b2, b3⟩ := HBB.out.c
      obtain ⟨c1, c2, c3⟩ := HC.out.c
      cases d with
      | false =>
        have HQ : Hid (out ++ [x] = insV x l) := Lib.hid (by have := HEQ.out; rw [List.drop_length] at this; simpa [setR] using this)
        go_wp2_with (at_builtin; refine wpList_append_own _ rfl (.tmp 51) (.tmp 53) 26 rfl (w.heap.size + 3) 39 i0 _ 3 40 Tryz.underlying26 hi hz0 hz1 hz2 rfl (by decide) _ _ (varsCells out) rfl (HROW.out.alloc _) ⟨wr.heap.size, 0, none⟩ 1 1 (varCells x) rfl rfl (blk_cells (Blk.new wr 39 (varCells x).toArray rfl)) (HONE.out x) hm1 hm2 (by simp; omega) ?_; intro v' w1 hown' hgrow _; have HB1 := Lib.hid (row_append_below HB.out HROW.out (by omega) hgrow); have HC1 := Lib.hid (row_append_blk HC.out HROW.out (by omega) hgrow); have HROW1 := Lib.hid (row_snoc hown'); clear hown' hgrow; obtain ⟨A1, C1, rfl⟩ := row_slice HROW1.out; obtain ⟨d1, d2, d3⟩ := HC1.out.c)
        refine bodyPost_ret (v := .agg #[.slice A1 (out ++ [x]).length C1]) (by simp [results, Tryz.results50, go_sem, d1, d2]) rfl ?_
        have hlen : (out ++ [x]).length = out.length + 1 := by simp
        have hr := HROW1.out
        rw [hlen] at hr
        refine ⟨A1, out.length + 1, C1, by rw [hlen], ?_, HB1.out.setCell (by show w.heap.size ≤ w.heap.size + 1 + 1; omega) _⟩
        unfold VRr
        rw [← HQ.out, hlen]
        exact row_low (hr.kept (grown_set_ (World.grownBy.refl _ (some (w.heap.size + 1 + 1))) ⟨w.heap.size + 1 + 1, 0, none⟩ (.slice A1 (out.length + 1) C1) (.inr rfl)) (.inr (fun e => by have := (hr.lt _ e).1; omega))) (Nat.zero_le _)
      | true =>
        have HQ : Hid (out = insV x l) := Lib.hid (by have := HEQ.out; rw [List.drop_length] at this; simpa [setR] using this)
        go_wp2_with fail
        refine bodyPost_ret (v := .agg #[.slice A3 out.length C3]) (by simp [results, Tryz.results50, go_sem, c1, c2]) rfl ?_
        refine ⟨A3, _, C3, rfl, ?_, HB.out.setCell (by show w.heap.size ≤ w.heap.size + 1 + 1; omega) _⟩
        unfold VRr
        rw [← HQ.out]
        exact row_low (HROW.out.kept (grown_set_ (World.grownBy.refl _ (some (w.heap.size + 1 + 1))) ⟨w.heap.size + 1 + 1, 0, none⟩ (.slice A3 out.length C3) (.inr rfl)) (.inr (fun e => by have := (HROW.out.lt _ e).1; omega))) (Nat.zero_le _)
end Go.Proofs.YtopkcgdfebkbaaaGreatDoor
