/- Walks: a function of the expansion's own: if, foreach, call. -/
import Derived.Test.YtopkcgdfebkbaaaGreatDoorW22
set_option linter.unusedVariables false
set_option linter.unusedSimpArgs false
namespace Go.Proofs.YtopkcgdfebkbaaaGreatDoor
open Go.RowKit
attribute [local go_sem] B_size B_toList B_extract B_append drop_take_all

theorem Env.ins {K : Nat} {v : List Var} (h : Env K v) (x : Var) (hx : x.text.length ≤ 100000) : Env (K + 1) (insV x v) :=
  ⟨insV_order x h.ord, Nat.le_trans (insV_length x v) (Nat.succ_le_succ h.len), fun y hy => by rcases insV_mem hy with rfl | hy; exact hx; exact h.txt y hy⟩

set_option maxRecDepth 100000 in
set_option maxHeartbeats 8000000 in
/-- foreach's closure: a word's step, and the text with that word for the name. -/
theorem foreachW (ex : List Var → Bytes → St Bytes) (D K : Nat) (hE : Owes 51 ex D (K + 1)) (v : List Var) (A : Option Addr) (N C sb : Nat) (w0 : World) (bs bn ba : Nat) (name : Bytes) (l : List Bytes) (A1 : Option Addr) (C1 : Nat) (m0 : Nat) (hc0 : Cnt w0 sb m0)
    (hv : VR w0 (.slice A N C) v) (henv : Env K v) (hN : N ≤ 10000000) (hs : Blk w0 bs 104 #[.slice A N C, .int .i64 D, .pointer (some ⟨sb, 0, none⟩)]) (hn : Blk w0 bn 9 #[.string (B name)]) (ha : Blk w0 ba 58 #[.slice A1 l.length C1])
    (hr : w0.ownsRow 0 9 1 (.slice A1 l.length C1) l.length (strCells l)) (hl : 3 ≤ l.length) (hlx : ∀ x ∈ l, x.length ≤ 100000) (h1 : bs ≠ sb) (h2 : bn ≠ sb) (h3 : ba ≠ sb) :
    OwesW 213 #[.pointer (some ⟨bs, 0, none⟩), .pointer (some ⟨bn, 0, none⟩), .pointer (some ⟨ba, 0, none⟩)] (fun x => andS stepS fun _ => ex (insV ⟨name, x, true⟩ v) (l.getD 2 [])) sb w0 := by
  intro x n1 n2 r W hk hnn hx hf
  have HF := Lib.hid hf
  have HK := Lib.hid hk
  have HV := Lib.hid (VR_keeps hv hk hc0)
  have HROW := Lib.hid (row9_keeps hr hk hc0)
  have HS := Lib.hid (hs.keeps hk h1)
  have HN := Lib.hid (hn.keeps hk h2)
  have HA := Lib.hid (ha.keeps hk h3)
  have HE := Lib.hid hE
  have HENV := Lib.hid henv
  have HLX := Lib.hid hlx
  have hsb := cnt_lt hk.cnt
  clear hf hk hv hr hs hn ha hE henv hlx
  show Calls _ 213 #[.string (B x), .pointer (some ⟨bs, 0, none⟩), .pointer (some ⟨bn, 0, none⟩), .pointer (some ⟨ba, 0, none⟩)] W _
  obtain ⟨b1, b2, b3⟩ := HS.out.c
  go_enter Tryz.func213, Tryz.ntmps213
  go_wp2_with fail
  have hst := step_any A N C D sb n1 W HK.out.cnt (by omega)
  unfold scV at hst
  refine hst.mono ?_
  rintro e w1 ⟨rfl, k1⟩
  have HK1 := Lib.hid k1
  have HS1 := Lib.hid (HS.out.keeps k1 h1)
  have HN1 := Lib.hid (HN.out.keeps k1 h2)
  have HA1 := Lib.hid (HA.out.keeps k1 h3)
  have HV1 := Lib.hid (VR_keeps HV.out k1 HK.out.cnt)
  have HROW1 := Lib.hid (row9_keeps HROW.out k1 HK.out.cnt)
  clear k1 hst b1 b2 b3 HS HN HA HV HROW
  by_cases h4 : 2000 < n1 + 1
  · have HR2 : Hid (r = .error 12 ∧ n2 = n1 + 1) := Lib.hid (by
      have := HF.out
      unfold andS stepS at this
      rw [if_pos h4] at this
      simp at this
      exact ⟨this.1.symm, this.2.symm⟩)
    have e1 : stepE n1 = 12 := if_pos h4
    rw [e1]
    clear e1
    go_wp2_with fail
    go_ret2
    rw [HR2.out.1, HR2.out.2]
    exact ⟨rfl, HK1.out⟩
  · have HR2 : Hid (ex (insV ⟨name, x, true⟩ v) (l.getD 2 []) (n1 + 1) = some (r, n2)) := Lib.hid (by
      have := HF.out
      unfold andS stepS at this
      rw [if_neg h4] at this
      exact this)
    have e1 : stepE n1 = 0 := if_neg h4
    rw [e1]
    clear e1 HF
    obtain ⟨b1, b2, b3⟩ := HS1.out.c
    obtain ⟨c1, c2, c3⟩ := HN1.out.c
    obtain ⟨d1, d2, d3⟩ := HA1.out.c
    obtain ⟨g, hg, hcell⟩ := SR_cell HROW1.out 2 (by omega)
    subst hg
    have hgl : g < w1.heap.size := by
      rcases HROW1.out.2 with ⟨h, _⟩ | ⟨g', cap, cur, h, _, hh, _⟩
      · cases h
      · injection h with h1 h2 h3; cases h1; exact (Array.getElem?_eq_some_iff.1 hh).1
    have hl2 : l.getD 2 [] = l[2] := by rw [List.getD_eq_getElem?_getD, List.getElem?_eq_getElem (by omega)]; rfl
    rw [hl2] at HR2
    have hl3 : l[2].length ≤ 100000 := HLX.out _ (List.getElem_mem _)
    have hi2 : (2 : Int) < (l.length : Int) := by omega
    have hwith := with_any v A N C D sb w1.drew name x (row_below HV1.out (below_drew w1)) HENV.out.ord (by omega)
    unfold scV at hwith
    have hcall := fun (A' : Option Addr) (N' C' : Nat) (w2 : World) (hv' : VR w2 (.slice A' N' C') (insV ⟨name, x, true⟩ v)) (hb : Below w1.drew.heap.size w1.drew w2) =>
      HE.out (insV ⟨name, x, true⟩ v) A' N' C' sb (n1 + 1) w2 l[2] r n2 hv' (HENV.out.ins ⟨name, x, true⟩ hx) (keeps_below (keeps_drew HK1.out) hb).cnt (by omega) hl3 HR2.out
    unfold scV at hcall
    have hload : ∀ w2, Below w1.drew.heap.size w1.drew w2 → w2.cell? ⟨ba, 0, none⟩ = some (.slice (some ⟨g, 0, none⟩) l.length C1) ∧ w2.cell? ⟨g, 2, none⟩ = some (.string (B l[2])) := fun w2 hb =>
      ⟨((Blk.below (w := w1.drew) HA1.out hb).c).1 0, (hb.cell (p := ⟨g, 2, none⟩) hgl).trans hcell⟩
    go_wp2_with fail
    go_region_with (first | (go_at_call 214; refine hwith.mono ?_; rintro e w2 ⟨A', N', C', rfl, hv', hb⟩; obtain ⟨hx1, hx2⟩ := hload w2 hb) | (go_at_call 51; refine (hcall _ _ _ _ hv' hb).mono ?_; rintro e w3 ⟨rfl, k3⟩; unfold resV))
    all_goals
      have HK2 := Lib.hid (keeps_trans (keeps_below (keeps_drew HK1.out) hb) k3)
      clear k3 hcall hwith hload
      go_wp2_with fail
      go_ret2
      exact ⟨rfl, HK2.out⟩
end Go.Proofs.YtopkcgdfebkbaaaGreatDoor
