/- Walks: a variable by its name. -/
import Derived.Test.YtopkcgdfebkbaaaGreatDoorW1
set_option linter.unusedVariables false
set_option linter.unusedSimpArgs false
namespace Go.Proofs.YtopkcgdfebkbaaaGreatDoor
open Go.RowKit
attribute [local go_sem] B_size B_toList

theorem getV_at {n : Bytes} : ∀ (l : List Var) (k : Nat) (x : Var), (∀ (j : Nat) (y : Var), j < k → l[j]? = some y → y.name ≠ n) → l[k]? = some x → x.name = n → getV l n = some x := by
  intro l
  induction l with
  | nil => intro k x _ h; simp at h
  | cons y l ih =>
    intro k x hno hk hx
    cases k with
    | zero => simp at hk; subst hk; simp [getV, hx]
    | succ k =>
      have h0 := hno 0 y (by omega) rfl
      simp only [getV, if_neg h0]
      exact ih k x (fun j z hj hz => hno (j + 1) z (by omega) (by simpa using hz)) (by simpa using hk) hx
theorem getV_no {n : Bytes} : ∀ (l : List Var), (∀ (j : Nat) (y : Var), l[j]? = some y → y.name ≠ n) → getV l n = none := by
  intro l
  induction l with
  | nil => intro _; rfl
  | cons y l ih =>
    intro h
    simp only [getV, if_neg (h 0 y rfl)]
    exact ih fun j z hz => h (j + 1) z (by simpa using hz)

theorem VR.parts {w : World} {A : Option Addr} {N C : Nat} {l : List Var} (h : VR w (.slice A N C) l) :
    N = l.length ∧ N ≤ C ∧ C ≤ 9223372036854775807 ∧ (0 < N → ∃ b, A = some ⟨b, 0, none⟩ ∧ b < w.heap.size) := by
  rcases h.2 with ⟨h2, h3⟩ | ⟨g, cap, cur, h2, _, h4, h5, h6, _, _⟩
  · injection h2 with e1 e2 e3
    subst e1; subst e2; subst e3
    exact ⟨h3.symm, Nat.le_refl _, by omega, by omega⟩
  · injection h2 with e1 e2 e3
    subst e1; subst e2; subst e3
    unfold maxLen at h6
    exact ⟨rfl, h5, h6, fun _ => ⟨g, rfl, (Array.getElem?_eq_some_iff.1 h4).1⟩⟩
theorem VR.cell {w : World} {b N C : Nat} {l : List Var} (h : VR w (.slice (some ⟨b, 0, none⟩) N C) l) {k : Nat} {x : Var} (hk : l[k]? = some x) :
    w.cell? ⟨b, k * 3, none⟩ = some (.string (B x.name)) ∧ w.cell? ⟨b, k * 3 + 1, none⟩ = some (.string (B x.text)) ∧ w.cell? ⟨b, k * 3 + 2, none⟩ = some (.bool x.simple) := by
  have hc := h.cells (g := b) rfl
  obtain ⟨c1, c2, c3⟩ := varsCells_at l k x hk
  have ha : ∀ j, (⟨b, 0, none⟩ : Addr).add j = ⟨b, j, none⟩ := fun j => by unfold Addr.add; split <;> simp_all
  exact ⟨by have := hc _ _ c1; rwa [ha] at this, by have := hc _ _ c2; rwa [ha] at this, by have := hc _ _ c3; rwa [ha] at this⟩
theorem VR.below {w W : World} {v : Value} {l : List Var} (h : VR w v l) (hb : Below w.heap.size w W) : VR W v l := row_below h hb

set_option maxRecDepth 100000 in
set_option maxHeartbeats 400000 in
theorem get1_any (a t name : Bytes) (s : Bool) (g : Nat) (w : World) (hc : w.cell? ⟨g, 0, none⟩ = some (.string (B name))) (hg : g < w.heap.size) :
    Calls Tryz.prog 54 #[.agg #[.string (B a), .string (B t), .bool s], .pointer (some ⟨g, 0, none⟩)] w fun e w' => e = .returned (.bool (a == name)) ∧ Below w.heap.size w w' := by
  go_enter Tryz.func54, Tryz.ntmps54
  go_wp2
  go_ret
  exact ⟨rfl, by go_grown⟩

set_option maxRecDepth 100000 in
set_option maxHeartbeats 400000 in
theorem indexFunc_any (A : Option Addr) (N C : Nat) (l : List Var) (name : Bytes) (g : Nat) (w : World) (hv : VR w (.slice A N C) l) (hc : w.cell? ⟨g, 0, none⟩ = some (.string (B name))) (hg : g < w.heap.size) :
    Calls Tryz.prog 53 #[.slice A N C, .func (.func 54) #[] #[.pointer (some ⟨g, 0, none⟩)]] w fun e w' => (∃ r : Int, e = .returned (.int .i64 r) ∧ ((r = -1 ∧ getV l name = none) ∨ (∃ (k : Nat) (x : Var), r = k ∧ l[k]? = some x ∧ getV l name = some x))) ∧ Below w.heap.size w w' := by
  obtain ⟨hN, hNC, hC, hA⟩ := hv.parts
  have HN := Lib.hid hN
  clear hN
  go_enter Tryz.func53, Tryz.ntmps53
  go_wp2
  go_loopw [8] (fun i wr => ∃ k : Nat, i = .int .i64 k ∧ k ≤ N ∧ Below w.heap.size w wr ∧ (∀ (j : Nat) (y : Var), j < k → l[j]? = some y → y.name ≠ name)) (fun i _ => N - (intOf i).toNat)
  case atStart => exact ⟨0, rfl, Nat.zero_le _, Below.refl _ _, fun _ _ h => by omega⟩
  case round =>
    obtain ⟨k, rfl, hk, hb, hno⟩ := hrel
    have HNO := Lib.hid hno
    clear hno
    by_cases hlt : k < N
    · obtain ⟨b, rfl, hbl⟩ := hA (by omega)
      obtain ⟨x, hx⟩ : ∃ x, l[k]? = some x := ⟨l[k]'(by have := HN.out; omega), List.getElem?_eq_getElem _⟩
      obtain ⟨x1, x2, x3⟩ := (hv.below hb).cell hx
      have hcr := (hb.cell (p := ⟨g, 0, none⟩) hg).trans hc
      have hgr : g < wr.heap.size := Nat.lt_of_lt_of_le hg hb.size
      by_cases hx0 : x.name = name
      · have HX := Lib.hid hx0
        clear hx0
        go_wp2_with fail
        refine (get1_any _ _ name _ g wr hcr hgr).mono ?_
        rintro e w1 ⟨rfl, hb1⟩
        have ht : (x.name == name) = true := by simpa using HX.out
        rw [ht]
        go_wp2
        go_ret
        exact ⟨⟨_, rfl, .inr ⟨k, x, rfl, hx, getV_at l k x HNO.out hx HX.out⟩⟩, below_then hb hb.size hb1⟩
      · have HX := Lib.hid hx0
        clear hx0
        go_wp2_with fail
        refine (get1_any _ _ name _ g wr hcr hgr).mono ?_
        rintro e w1 ⟨rfl, hb1⟩
        have ht : (x.name == name) = false := by simpa using HX.out
        rw [ht]
        go_wp2
        go_roundw
        case rel => exact ⟨k + 1, by go_num, by omega, below_then hb hb.size hb1, fun j y hj hy => by
          rcases Nat.lt_or_ge j k with h | h
          · exact HNO.out j y h hy
          · obtain rfl : j = k := by omega
            rw [hx] at hy; cases hy; exact HX.out⟩
        case measure => simp [intOf]; omega
    · go_wp2
      go_ret
      exact ⟨⟨_, rfl, .inl ⟨rfl, getV_no l fun j y hy => HNO.out j y (by have := HN.out; have := (List.getElem?_eq_some_iff.1 hy).1; omega) hy⟩⟩, hb⟩

/-- A variable's value; the zero value, if there is none. -/
def vrV (o : Option Var) : Value := match o with
  | none => .agg #[.string (B []), .string (B []), .bool false]
  | some x => .agg #[.string (B x.name), .string (B x.text), .bool x.simple]

set_option maxRecDepth 100000 in
set_option maxHeartbeats 400000 in
theorem get_any (A : Option Addr) (N C : Nat) (l : List Var) (name : Bytes) (w : World) (hv : VR w (.slice A N C) l) :
    Calls Tryz.prog 22 #[.agg #[.slice A N C], .string (B name)] w fun e w' => e = .returned (.tuple #[vrV (getV l name), .bool (getV l name).isSome]) ∧ Below w.heap.size w w' := by
  have HV := Lib.hid hv
  clear hv
  go_enter Tryz.func22, Tryz.ntmps22
  go_wp2_with fail
  refine (indexFunc_any A N C l name (w.heap.size + 1) _ (HV.out.below (by go_grown)) (by simp [go_sem]) (by simp)).mono ?_
  rintro e w1 ⟨⟨r, rfl, hr⟩, hb⟩
  have hw1 : Below w.heap.size w w1 := below_then (by go_grown) (by simp only [World.size_alloc]; omega) hb
  obtain ⟨a1, a2, a3⟩ := ((((Blk.new w 25 _ rfl).alloc _).alloc _).below hb (g := w.heap.size)).c
  obtain ⟨c1, c2, c3⟩ := ((Blk.new ((w.alloc _).alloc _) 36 _ (g := w.heap.size + 1 + 1) (by simp)).below hb).c
  have HW := Lib.hid hw1
  clear hw1
  clear hb
  rcases hr with ⟨rfl, hg⟩ | ⟨k, x, rfl, hx, hg⟩
  · have HG := Lib.hid hg
    clear hg
    go_wp2
    refine bodyPost_ret (v := .tuple #[.agg #[.string (B []), .string (B []), .bool false], .bool false]) (by simp [results, Tryz.results22, go_sem, c1, B]) rfl ?_
    exact ⟨by rw [HG.out]; rfl, by have := HW.out; go_grown⟩
  · have HG := Lib.hid hg
    clear hg
    obtain ⟨hN, hNC, hC, hA⟩ := HV.out.parts
    have hk : k < N := by rw [hN]; exact (List.getElem?_eq_some_iff.1 hx).1
    clear hN
    obtain ⟨b, rfl, hbl⟩ := hA (by omega)
    obtain ⟨x1, x2, x3⟩ := (HV.out.below HW.out).cell hx
    have HX := Lib.hid hx
    clear hx hA
    go_wp2
    refine bodyPost_ret (v := .tuple #[.agg #[.string (B x.name), .string (B x.text), .bool x.simple], .bool true]) (by simp [results, Tryz.results22, go_sem, c1, c2]) rfl ?_
    exact ⟨by rw [HG.out]; rfl, by have := HW.out; go_grown⟩
end Go.Proofs.YtopkcgdfebkbaaaGreatDoor
