/- Walks: a reference. -/
import Derived.Test.YtopkcgdfebkbaaaGreatDoorW17
set_option linter.unusedVariables false
set_option linter.unusedSimpArgs false
namespace Go.Proofs.YtopkcgdfebkbaaaGreatDoor
open Go.RowKit
attribute [local go_sem] B_size B_toList B_extract B_append drop_take_all

/-- What 'function' owes: f. -/
def OwesF (f : List Var → Bytes → List Bytes → St Bytes) (D K : Nat) : Prop :=
  ∀ (v : List Var) (A : Option Addr) (N C sb n : Nat) (w : World) (name : Bytes) (l : List Bytes) (A1 : Option Addr) (C1 : Nat) (r : Except Nat Bytes) (n' : Nat), VR w (.slice A N C) v → Env K v → Cnt w sb n → n ≤ 2000 →
    name.length ≤ 100000 → (∀ x ∈ l, x.length ≤ 100000) → (takesB name).2 ≠ 0 → (takesB name).1 ≤ l.length → l.length ≤ (takesB name).2 → w.ownsRow 0 9 1 (.slice A1 l.length C1) l.length (strCells l) → f v name l n = some (r, n') →
    Calls Tryz.prog 137 #[scV A N C D sb, .string (B name), .slice A1 l.length C1] w fun e w' => e = .returned (resV r) ∧ Keeps sb n' w w'
/-- What 'turned' owes: f. -/
def OwesT (f : List Var → Bytes → Bytes → Bytes → St Bytes) (D K : Nat) : Prop :=
  ∀ (v : List Var) (A : Option Addr) (N C sb n : Nat) (w : World) (name p q : Bytes) (r : Except Nat Bytes) (n' : Nat), VR w (.slice A N C) v → Env K v → Cnt w sb n → n ≤ 2000 →
    name.length ≤ 100000 → p.length ≤ 100000 → q.length ≤ 100000 → f v name p q n = some (r, n') →
    Calls Tryz.prog 139 #[scV A N C D sb, .string (B name), .string (B p), .string (B q)] w fun e w' => e = .returned (resV r) ∧ Keeps sb n' w w'

theorem manyB_le (name : Bytes) : manyB name ≤ 3 := by
  unfold manyB
  split
  · omega
  · split
    · omega
    · split <;> omega
theorem takesB_le (name : Bytes) : (takesB name).1 ≤ 9 ∧ (takesB name).2 ≤ 9 := by
  have := manyB_le name
  unfold takesB
  split
  · simp
  · split
    · simp
    · split
      · simp
      · simp; omega
theorem argsF_le (M : Nat) : ∀ (k : Nat) (s : Bytes) (most : Nat) (l : List Bytes), s.length ≤ M → (∀ x ∈ l, x.length ≤ M) → (∀ x ∈ argsF k s most l, x.length ≤ M)
  | 0, s, most, l, hs, hl => by
    intro x hx
    simp [argsF] at hx
    rcases hx with hx | rfl
    · exact hl x hx
    · exact hs
  | k + 1, s, most, l, hs, hl => by
    have hle := cutB_le s [[44]]
    unfold argsF
    split
    · simp only
      split
      · intro x hx
        simp at hx
        rcases hx with hx | rfl
        · exact hl x hx
        · exact hs
      · refine argsF_le M k _ most _ (by omega) ?_
        intro x hx
        simp at hx
        rcases hx with hx | rfl
        · exact hl x hx
        · omega
    · intro x hx
      simp at hx
      rcases hx with hx | rfl
      · exact hl x hx
      · exact hs
theorem argsF_len : ∀ (k : Nat) (s : Bytes) (most : Nat) (l : List Bytes), l.length + 1 ≤ most → (argsF k s most l).length ≤ most
  | 0, s, most, l, h => by simp [argsF]; omega
  | k + 1, s, most, l, h => by
    unfold argsF
    split
    · simp only
      split
      · simp; omega
      · exact argsF_len k _ most _ (by simp; omega)
    · simp; omega
theorem argsB_le (s : Bytes) (most : Nat) : (∀ x ∈ argsB s most, x.length ≤ s.length) ∧ (1 ≤ most → (argsB s most).length ≤ most) :=
  ⟨argsF_le s.length most s most [] (Nat.le_refl _) (by simp), fun h => argsF_len most s most [] (by simpa using h)⟩

set_option maxRecDepth 100000 in
set_option maxHeartbeats 1000000 in
theorem refer_deep (cf : CallF) (K : Nat) : Owes 88 (referB cf none) 20 K := by
  intro v A N C sb n w t r n' hv henv hc hn ht hf
  have HC := Lib.hid hc
  have HF := Lib.hid hf
  clear hv hc hf henv
  have HR : Hid (r = .error 15 ∧ n' = n) := Lib.hid (by
    have := HF.out
    simp [referB, errS] at this
    exact ⟨this.1.symm, this.2.symm⟩)
  unfold scV
  go_enter Tryz.func88, Tryz.ntmps88
  go_wp2_with fail
  refine (in_deep A N C sb _).mono ?_
  rintro e w3 ⟨rfl, k3⟩
  have HB3 := Lib.hid (below_then ((Below.refl _ w).alloc (Nat.le_refl _) _) (by simp) k3)
  clear k3
  unfold scV
  go_wp2_with fail
  go_ret2
  rw [HR.out.1, HR.out.2]
  exact ⟨rfl, keeps_below (keeps_refl HC.out) (below_then HB3.out HB3.out.size (by go_grown))⟩

set_option maxRecDepth 100000 in
set_option maxHeartbeats 1000000 in
theorem refer_in (cf : CallF) (L : Lev) (D K : Nat) (hD : D < 20) (hE : Owes 51 L.ex (D + 1) K) (hV : Owes 89 L.vl (D + 1) K) (hFn : OwesF (functionB cf L) (D + 1) K) (hT : OwesT (turnedB L) (D + 1) K) (fE : Fit 4000 L.ex K) :
    Owes 88 (referB cf (some L)) D K := by
  intro v A N C sb n w t r n' hv henv hc hn ht hf
  have HV := Lib.hid hv
  have HC := Lib.hid hc
  have hsb := cnt_lt hc
  have HE := Lib.hid hE
  have HL := Lib.hid hV
  have HFN := Lib.hid hFn
  have HT := Lib.hid hT
  have HFE := Lib.hid fE
  have HF : Hid (andS stepS (fun _ => referIn cf L v t) n = some (r, n')) := Lib.hid hf
  have HENV := Lib.hid henv
  clear hv hc hE hV hFn hT fE hf henv
  unfold scV
  go_enter Tryz.func88, Tryz.ntmps88
  go_wp2_with fail
  have K0 := keeps_alloc (keeps_refl HC.out) (.cells #[.slice A N C, .int .i64 D, .pointer (some ⟨sb, 0, none⟩)] 104)
  refine (in_any A N C D sb n _ K0.cnt (by omega) hD).mono ?_
  rintro e w1 ⟨rfl, k1⟩
  have HK1 := Lib.hid (keeps_trans K0 k1)
  have hsz1 : w.heap.size < w1.heap.size := by have := k1.grown.size; simp at this; omega
  clear k1 K0
  unfold scV
  by_cases h2 : 2000 < n + 1
  · have HR2 : Hid (r = .error 12 ∧ n' = n + 1) := Lib.hid (by
      have := HF.out
      unfold andS stepS at this
      rw [if_pos h2] at this
      simp at this
      exact ⟨this.1.symm, this.2.symm⟩)
    have e1 : stepE n = 12 := if_pos h2
    rw [e1, if_pos h2]
    clear e1
    go_wp2_with fail
    go_ret2
    rw [HR2.out.1, HR2.out.2]
    exact ⟨rfl, keeps_below HK1.out (by go_grown)⟩
  · have HR2 : Hid (referIn cf L v t (n + 1) = some (r, n')) := Lib.hid (by
      have := HF.out
      unfold andS stepS at this
      rw [if_neg h2] at this
      exact this)
    have e1 : stepE n = 0 := if_neg h2
    rw [e1, if_neg h2]
    clear e1 HF
    have hn1 : n + 1 ≤ 2000 := by omega
    go_wp2_with fail
    have BX := Lib.hid (Blk.new w1 104 #[.slice A N C, .int .i64 ((D : Int) + 1), .pointer (some ⟨sb, 0, none⟩)] rfl)
    have HK2 := Lib.hid (keeps_alloc HK1.out (.cells #[.slice A N C, .int .i64 ((D : Int) + 1), .pointer (some ⟨sb, 0, none⟩)] 104))
    have hsz2 : w1.heap.size < (w1.alloc (.cells #[.slice A N C, .int .i64 ((D : Int) + 1), .pointer (some ⟨sb, 0, none⟩)] 104)).heap.size := by simp
    generalize w1.alloc (.cells #[.slice A N C, .int .i64 ((D : Int) + 1), .pointer (some ⟨sb, 0, none⟩)] 104) = w2 at *
    clear HK1
    refine (indexAny_any t w2 (by omega)).mono ?_
    rintro e w3 ⟨rfl, hb3⟩
    have HK3 := Lib.hid (keeps_below HK2.out hb3)
    have HBX3 := Lib.hid (BX.out.below hb3)
    clear hb3 HK2 BX
    have hnsb : w1.heap.size ≠ sb := by omega
    by_cases hat : 0 < Lib.indexAny t blanks
    · have HRI : Hid ((if (takesB (t.take (Lib.indexAny t blanks).toNat)).2 = 0 then namedB L v t
          else if (argsB (Lib.trimLeftS (t.drop (Lib.indexAny t blanks).toNat) blanks) (takesB (t.take (Lib.indexAny t blanks).toNat)).2).length < (takesB (t.take (Lib.indexAny t blanks).toNat)).1 then errS 1
          else functionB cf L v (t.take (Lib.indexAny t blanks).toNat) (argsB (Lib.trimLeftS (t.drop (Lib.indexAny t blanks).toNat) blanks) (takesB (t.take (Lib.indexAny t blanks).toNat)).2)) (n + 1) = some (r, n')) := Lib.hid (by
        have := HR2.out
        unfold referIn at this
        simp only [if_pos hat] at this
        exact this)
      clear HR2
      obtain ⟨k, hk1, hk2⟩ : ∃ k : Nat, Lib.indexAny t blanks = k ∧ k < t.length := by
        rcases indexAny_cases blanks t with ⟨h, _⟩ | ⟨k, h, hk, _⟩
        · rw [h] at hat; simp at hat
        · exact ⟨k, h, hk⟩
      rw [hk1] at hat HRI ⊢
      rw [Int.toNat_natCast] at HRI
      clear hk1
      have hk0 : (0 : Int) ≤ (k : Int) := by omega
      have hk3 : (k : Int) ≤ (t.length : Int) := by omega
      go_wp2_with fail
      refine (takes_any (t.take k) w3).mono ?_
      rintro e w4 ⟨rfl, rfl⟩
      have htk := takesB_le (t.take k)
      have HFNC := fun (l : List Bytes) (A1 : Option Addr) (C1 : Nat) (W : World) (hk : Keeps sb (n + 1) w W) (hl : ∀ x ∈ l, x.length ≤ 100000) (h1 : (takesB (t.take k)).2 ≠ 0) (h2 : (takesB (t.take k)).1 ≤ l.length) (h3 : l.length ≤ (takesB (t.take k)).2) (hr : W.ownsRow 0 9 1 (.slice A1 l.length C1) l.length (strCells l)) (hf : functionB cf L v (t.take k) l (n + 1) = some (r, n')) =>
        HFN.out v A N C sb (n + 1) W (t.take k) l A1 C1 r n' (VR_keeps HV.out hk HC.out) HENV.out hk.cnt hn1 (by simp; omega) hl h1 h2 h3 hr hf
      generalize takesB (t.take k) = tk at *
      obtain ⟨lo, hi⟩ := tk
      simp only at htk HRI HFNC ⊢
      go_wp2_with fail
      refine (trimLeft_any (t.drop k) _).mono ?_
      rintro e w5 ⟨rfl, hb5⟩
      have HK5 := Lib.hid (keeps_below HK3.out hb5)
      have HBX5 := Lib.hid (HBX3.out.below hb5)
      clear hb5 HK3 HBX3
      have hsl := trimLeftS_le (t.drop k)
      have hdl : (t.drop k).length = t.length - k := List.length_drop
      go_wp2_with fail
      refine (arguments_any (Lib.trimLeftS (t.drop k) blanks) hi w5 (by omega) (by omega)).mono ?_
      have hal := argsB_le (Lib.trimLeftS (t.drop k) blanks) hi
      generalize argsB (Lib.trimLeftS (t.drop k) blanks) hi = l at *
      rintro e w6 ⟨A1, C1, rfl, hrow, hb6⟩
      have HROW := Lib.hid (row_low hrow (Nat.zero_le _))
      have HK6 := Lib.hid (keeps_below HK5.out hb6)
      have HBX6 := Lib.hid (HBX5.out.below hb6)
      clear hb6 HK5 HBX5 hrow
      by_cases hi0 : hi = 0
      · subst hi0
        have HNM : Hid ((if (cutB t [[58]]).2.1 ≠ [] ∧ (cutB (cutB t [[58]]).2.2 [[61]]).2.1 ≠ [] then turnedB L v (cutB t [[58]]).1 (cutB (cutB t [[58]]).2.2 [[61]]).1 (cutB (cutB t [[58]]).2.2 [[61]]).2.2 else andS (L.ex v t) fun name => L.vl v name) (n + 1) = some (r, n')) := HRI.out
        clear HRI HFNC
        go_wp2_with fail
        refine (pcut_any t (some ⟨w6.heap.size, 0, none⟩) 1 [[58]] _ (row_low (row_new w6 [[58]] (by decide)) (Nat.zero_le _)) (by omega) (by decide)).mono ?_
        rintro e v1 ⟨rfl, hb1⟩
        have HB1 : Hid (Below w6.heap.size w6 v1) := Lib.hid (below_then ((Below.refl _ _).alloc (Nat.le_refl _) _) (by simp) hb1)
        have HKa := Lib.hid (keeps_below HK6.out HB1.out)
        have HBXa := Lib.hid (HBX6.out.below HB1.out)
        clear hb1 HB1
        have hla := cutB_le t [[58]]
        generalize cutB t [[58]] = a at *
        obtain ⟨a1, a2, a3⟩ := a
        simp only at hla HNM ⊢
        go_wp2_with fail
        refine (pcut_any a3 (some ⟨v1.heap.size, 0, none⟩) 1 [[61]] _ (row_low (row_new v1 [[61]] (by decide)) (Nat.zero_le _)) (by omega) (by decide)).mono ?_
        rintro e v2 ⟨rfl, hb2⟩
        have HB2 : Hid (Below v1.heap.size v1 v2) := Lib.hid (below_then ((Below.refl _ _).alloc (Nat.le_refl _) _) (by simp) hb2)
        have HKb := Lib.hid (keeps_below HKa.out HB2.out)
        have HBXb := Lib.hid (HBXa.out.below HB2.out)
        clear hb2 HB2 HKa HBXa
        have hlb := cutB_le a3 [[61]]
        generalize cutB a3 [[61]] = b at *
        obtain ⟨b1, b2, b3⟩ := b
        simp only at hlb HNM ⊢
        obtain ⟨f1, f2, f3⟩ := HBXb.out.c
        by_cases hab : a2 ≠ [] ∧ b2 ≠ []
        · rw [if_pos hab] at HNM
          obtain ⟨ha2, hb2⟩ := hab
          have hea : a2.isEmpty = false := by cases a2; exact absurd rfl ha2; rfl
          have heb : b2.isEmpty = false := by cases b2; exact absurd rfl hb2; rfl
          have hea1 : (a2 != []) = true := by simpa using ha2
          have heb1 : (b2 != []) = true := by simpa using hb2
          have hcall := HT.out v A N C sb (n + 1) v2 a1 b1 b3 r n' (VR_keeps HV.out HKb.out HC.out) HENV.out HKb.out.cnt hn1 (by omega) (by omega) (by omega) HNM.out
          rw [scV_succ] at hcall
          go_wp2_with fail
          refine hcall.mono ?_
          rintro e v3 ⟨rfl, k3⟩
          have HKc := Lib.hid (keeps_trans HKb.out k3)
          clear k3 hcall
          unfold resV
          go_wp2_with fail
          go_ret2
          exact ⟨rfl, HKc.out⟩
        · rw [if_neg hab] at HNM
          obtain ⟨qr, n2, hrf, hor⟩ := andS_cases HNM.out
          have hfine := HFE.out v t (n + 1) qr n2 HENV.out ht hn1 hrf
          have hcall := HE.out v A N C sb (n + 1) v2 t qr n2 (VR_keeps HV.out HKb.out HC.out) HENV.out HKb.out.cnt hn1 ht hrf
          rw [scV_succ] at hcall
          have HOR := Lib.hid hor
          have HFI := Lib.hid hfine
          clear hrf hor hfine HNM
          have hab2 : a2 = [] ∨ (a2 ≠ [] ∧ b2 = []) := by
            by_cases h1 : a2 = []
            · exact .inl h1
            · by_cases h2 : b2 = []
              · exact .inr ⟨h1, h2⟩
              · exact absurd ⟨h1, h2⟩ hab
          have hsplit : (a2 = [] ∨ (a2.isEmpty = false ∧ (a2 != []) = true ∧ b2 = [])) := by
            rcases hab2 with h | ⟨h, h'⟩
            · exact .inl h
            · exact .inr ⟨by cases a2; exact absurd rfl h; rfl, by simpa using h, h'⟩
          clear hab hab2
          rcases hsplit with rfl | ⟨ha2, ha3, rfl⟩
          all_goals
            go_wp2_with fail
            refine hcall.mono ?_
            rintro e v3 ⟨rfl, k3⟩
            have HKc := Lib.hid (keeps_trans HKb.out k3)
            have HBXc := Lib.hid (HBXb.out.keeps k3 hnsb)
            have hor := HOR.out
            have hfine := HFI.out
            clear k3 hcall HOR HFI f1 f2 f3
            obtain ⟨g1, g2, g3⟩ := HBXc.out.c
            unfold resV
            rcases hor with ⟨e, rfl, rfl, rfl⟩ | ⟨y, rfl, hgo⟩
            · have he0 : ((e : Int) != 0) = true := by have := hfine.1; simp; omega
              simp only [tx, er]
              go_wp2_with fail
              go_ret2
              exact ⟨rfl, HKc.out⟩
            · have hcall := HL.out v A N C sb n2 v3 y r n' (VR_keeps HV.out HKc.out HC.out) HENV.out HKc.out.cnt hfine.2 (by have := hfine.1; omega) hgo
              rw [scV_succ] at hcall
              clear hgo hfine
              simp only [tx, er]
              go_wp2_with fail
              refine hcall.mono ?_
              rintro e v4 ⟨rfl, k4⟩
              have HKd := Lib.hid (keeps_trans HKc.out k4)
              clear k4 hcall
              unfold resV
              go_wp2_with fail
              go_ret2
              exact ⟨rfl, HKd.out⟩
      · have hi1 : ((hi : Int) == 0) = false := by rw [beq_eq_false_iff_ne]; omega
        rw [if_neg hi0] at HRI
        by_cases hlo : l.length < lo
        · rw [if_pos hlo] at HRI
          have hlo1 : (l.length : Int) < (lo : Int) := by omega
          have HR3 : Hid (r = .error 1 ∧ n' = n + 1) := Lib.hid (by
            have := HRI.out
            simp [errS] at this
            exact ⟨this.1.symm, this.2.symm⟩)
          clear HRI HFNC
          go_wp2_with fail
          go_ret2
          rw [HR3.out.1, HR3.out.2]
          exact ⟨rfl, HK6.out⟩
        · rw [if_neg hlo] at HRI
          have hlo1 : ¬ (l.length : Int) < (lo : Int) := by omega
          have hcall := HFNC l A1 C1 w6.drew (keeps_drew HK6.out) (fun x hx => by have := hal.1 x hx; omega) hi0 (by omega) (hal.2 (by omega)) (row_below HROW.out (below_drew w6)) HRI.out
          rw [scV_succ] at hcall
          have hK6 := Lib.hid (keeps_drew HK6.out)
          obtain ⟨f1, f2, f3⟩ := HBX6.out.c
          clear HFNC hal HRI
          go_wp2_with fail
          go_region_with (go_at_call 137; refine hcall.mono ?_; rintro e w7 ⟨rfl, k7⟩; unfold resV)
          all_goals
            have HK7 := Lib.hid (keeps_trans hK6.out k7)
            clear k7 hcall
            go_wp2_with fail
            go_ret2
            exact ⟨rfl, HK7.out⟩
    · have HNM : Hid ((if (cutB t [[58]]).2.1 ≠ [] ∧ (cutB (cutB t [[58]]).2.2 [[61]]).2.1 ≠ [] then turnedB L v (cutB t [[58]]).1 (cutB (cutB t [[58]]).2.2 [[61]]).1 (cutB (cutB t [[58]]).2.2 [[61]]).2.2 else andS (L.ex v t) fun name => L.vl v name) (n + 1) = some (r, n')) := Lib.hid (by
        have := HR2.out
        unfold referIn at this
        simp only [if_neg hat] at this
        exact this)
      clear HR2
      generalize Lib.indexAny t blanks = at_ at *
      go_wp2_with fail
      refine (pcut_any t (some ⟨w3.heap.size, 0, none⟩) 1 [[58]] _ (row_low (row_new w3 [[58]] (by decide)) (Nat.zero_le _)) (by omega) (by decide)).mono ?_
      rintro e v1 ⟨rfl, hb1⟩
      have HB1 : Hid (Below w3.heap.size w3 v1) := Lib.hid (below_then ((Below.refl _ _).alloc (Nat.le_refl _) _) (by simp) hb1)
      have HKa := Lib.hid (keeps_below HK3.out HB1.out)
      have HBXa := Lib.hid (HBX3.out.below HB1.out)
      clear hb1 HB1
      have hla := cutB_le t [[58]]
      generalize cutB t [[58]] = a at *
      obtain ⟨a1, a2, a3⟩ := a
      simp only at hla HNM ⊢
      go_wp2_with fail
      refine (pcut_any a3 (some ⟨v1.heap.size, 0, none⟩) 1 [[61]] _ (row_low (row_new v1 [[61]] (by decide)) (Nat.zero_le _)) (by omega) (by decide)).mono ?_
      rintro e v2 ⟨rfl, hb2⟩
      have HB2 : Hid (Below v1.heap.size v1 v2) := Lib.hid (below_then ((Below.refl _ _).alloc (Nat.le_refl _) _) (by simp) hb2)
      have HKb := Lib.hid (keeps_below HKa.out HB2.out)
      have HBXb := Lib.hid (HBXa.out.below HB2.out)
      clear hb2 HB2 HKa HBXa
      have hlb := cutB_le a3 [[61]]
      generalize cutB a3 [[61]] = b at *
      obtain ⟨b1, b2, b3⟩ := b
      simp only at hlb HNM ⊢
      obtain ⟨f1, f2, f3⟩ := HBXb.out.c
      by_cases hab : a2 ≠ [] ∧ b2 ≠ []
      · rw [if_pos hab] at HNM
        obtain ⟨ha2, hb2⟩ := hab
        have hea : a2.isEmpty = false := by cases a2; exact absurd rfl ha2; rfl
        have heb : b2.isEmpty = false := by cases b2; exact absurd rfl hb2; rfl
        have hea1 : (a2 != []) = true := by simpa using ha2
        have heb1 : (b2 != []) = true := by simpa using hb2
        have hcall := HT.out v A N C sb (n + 1) v2 a1 b1 b3 r n' (VR_keeps HV.out HKb.out HC.out) HENV.out HKb.out.cnt hn1 (by omega) (by omega) (by omega) HNM.out
        rw [scV_succ] at hcall
        go_wp2_with fail
        refine hcall.mono ?_
        rintro e v3 ⟨rfl, k3⟩
        have HKc := Lib.hid (keeps_trans HKb.out k3)
        clear k3 hcall
        unfold resV
        go_wp2_with fail
        go_ret2
        exact ⟨rfl, HKc.out⟩
      · rw [if_neg hab] at HNM
        obtain ⟨qr, n2, hrf, hor⟩ := andS_cases HNM.out
        have hfine := HFE.out v t (n + 1) qr n2 HENV.out ht hn1 hrf
        have hcall := HE.out v A N C sb (n + 1) v2 t qr n2 (VR_keeps HV.out HKb.out HC.out) HENV.out HKb.out.cnt hn1 ht hrf
        rw [scV_succ] at hcall
        have HOR := Lib.hid hor
        have HFI := Lib.hid hfine
        clear hrf hor hfine HNM
        have hab2 : a2 = [] ∨ (a2 ≠ [] ∧ b2 = []) := by
          by_cases h1 : a2 = []
          · exact .inl h1
          · by_cases h2 : b2 = []
            · exact .inr ⟨h1, h2⟩
            · exact absurd ⟨h1, h2⟩ hab
        have hsplit : (a2 = [] ∨ (a2.isEmpty = false ∧ (a2 != []) = true ∧ b2 = [])) := by
          rcases hab2 with h | ⟨h, h'⟩
          · exact .inl h
          · exact .inr ⟨by cases a2; exact absurd rfl h; rfl, by simpa using h, h'⟩
        clear hab hab2
        rcases hsplit with rfl | ⟨ha2, ha3, rfl⟩
        all_goals
          go_wp2_with fail
          refine hcall.mono ?_
          rintro e v3 ⟨rfl, k3⟩
          have HKc := Lib.hid (keeps_trans HKb.out k3)
          have HBXc := Lib.hid (HBXb.out.keeps k3 hnsb)
          have hor := HOR.out
          have hfine := HFI.out
          clear k3 hcall HOR HFI f1 f2 f3
          obtain ⟨g1, g2, g3⟩ := HBXc.out.c
          unfold resV
          rcases hor with ⟨e, rfl, rfl, rfl⟩ | ⟨y, rfl, hgo⟩
          · have he0 : ((e : Int) != 0) = true := by have := hfine.1; simp; omega
            simp only [tx, er]
            go_wp2_with fail
            go_ret2
            exact ⟨rfl, HKc.out⟩
          · have hcall := HL.out v A N C sb n2 v3 y r n' (VR_keeps HV.out HKc.out HC.out) HENV.out HKc.out.cnt hfine.2 (by have := hfine.1; omega) hgo
            rw [scV_succ] at hcall
            clear hgo hfine
            simp only [tx, er]
            go_wp2_with fail
            refine hcall.mono ?_
            rintro e v4 ⟨rfl, k4⟩
            have HKd := Lib.hid (keeps_trans HKc.out k4)
            clear k4 hcall
            unfold resV
            go_wp2_with fail
            go_ret2
            exact ⟨rfl, HKd.out⟩
end Go.Proofs.YtopkcgdfebkbaaaGreatDoor
