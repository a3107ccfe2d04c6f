/- Walks: the function 'call', and the functions of words. -/
import Derived.Test.YtopkcgdfebkbaaaGreatDoorW25
import Derived.Test.YtopkcgdfebkbaaaGreatDoorShelfB
set_option linter.unusedVariables false
set_option linter.unusedSimpArgs false
namespace Go.Proofs.YtopkcgdfebkbaaaGreatDoor
open Go.RowKit
attribute [local go_sem] B_size B_toList B_extract B_append drop_take_all

/-- What the functions of words owe: cf. -/
def OwesC (cf : CallF) : Prop :=
  ∀ (name : Bytes) (l : List Bytes) (A : Option Addr) (C : Nat) (w : World) (r : Except Nat Bytes), Glob w → name.length ≤ 100000 → (∀ x ∈ l, x.length ≤ 4000) → w.ownsRow 0 9 1 (.slice A l.length C) l.length (strCells l) → cf name l = some r →
    Calls Tryz.prog 215 #[.string (B name), .slice A l.length C] w fun e w' => e = .returned (resV r) ∧ Below w.heap.size w w'

theorem itoa_any (i : Nat) (hi : i < 100) (w : World) : Calls Tryz.prog 216 #[.int .i64 i] w fun e w' => e = .returned (.string (B (Lib.itoa (i : Int)))) ∧ w' = w := by
  have h := Tryz.strconv_Itoa_small i hi w
  have e : Lib.itoa (i : Int) = Lib.decDigits i := by unfold Lib.itoa; rw [if_neg (by omega)]; simp
  rw [e]
  exact h

theorem getD_at2 {l : List Bytes} {i : Nat} (h : i < l.length) : l.getD i [] = l[i] := by rw [List.getD_eq_getElem?_getD, List.getElem?_eq_getElem h]; rfl
theorem itoa_succ (i : Nat) (hi : i < 99) (w : World) : Calls Tryz.prog 216 #[.int .i64 ((i : Int) + 1)] w fun e w' => e = .returned (.string (B (Lib.itoa ((i : Int) + 1)))) ∧ w' = w := by
  have h := itoa_any (i + 1) (by omega) w
  rw [Int.natCast_add] at h
  exact h
theorem itoa_wrap (i : Nat) (hi : i < 99) (w : World) : Calls Tryz.prog 216 #[.int .i64 (IntKind.i64.wrap ((i : Int) + 1))] w fun e w' => e = .returned (.string (B (Lib.itoa ((i : Int) + 1)))) ∧ w' = w := by
  have h : IntKind.i64.wrap ((i : Int) + 1) = (i : Int) + 1 := by simp [IntKind.wrap, IntKind.bits, IntKind.signed]; omega
  rw [h]
  exact itoa_succ i hi w
theorem row_far {w : World} {b e size n : Nat} {v : Value} {xs : List Value} (h : w.ownsRow b e size v n xs) {g : Nat} {t : TypeId} {cs : Array Value} (hb : Blk w g t cs) (ht : t ≠ e) (i : Nat) (u : Value) : (w.setCell ⟨g, i, none⟩ u).ownsRow b e size v n xs := by
  refine h.kept (row := some g) ⟨rfl, rfl, rfl, by simp [World.setCell], fun k hk hne => Below.heap_setCell w ⟨g, i, none⟩ u k (by simpa using hne)⟩ ?_
  rcases h.2 with ⟨rfl, _⟩ | ⟨g2, cap, cur, rfl, _, hg, _⟩
  · exact .inl rfl
  · refine .inr fun e' => ?_
    have e2 : g2 = g := by simpa [Value.ownBlock] using e'
    subst e2
    unfold Blk at hb
    rw [hg] at hb
    cases hb
    exact ht rfl
theorem VR_alloc {w : World} {v : Value} {l : List Var} (h : VR w v l) (o : Obj) : VR (w.alloc o) v l := World.ownsRow.alloc h o
theorem insV_length' (x : Var) (v : List Var) : (insV x v).length ≤ v.length + 1 := insV_length x v

set_option maxRecDepth 100000 in
set_option maxHeartbeats 1000000 in
/-- 'call', from the variable on: its arguments put in, its text expanded. -/
theorem function_rest (cf : CallF) (hC : OwesC cf) (L : Lev) (D K : Nat) (hE : ∀ K', K' ≤ K + 10 → Owes 51 L.ex D K') (fE : ∀ K, Fit 4000 L.ex K) (hK : K ≤ 10000)
    (v : List Var) (A : Option Addr) (N C sb n : Nat) (w : World) (name : Bytes) (l : List Bytes) (A1 : Option Addr) (C1 : Nat) (r : Except Nat Bytes) (n' : Nat) (hv : VR w (.slice A N C) v) (henv : Env K v) (hc : Cnt w sb n) (hn : n ≤ 2000)
    (hnl : name.length ≤ 100000) (hif : name ≠ sIf) (hfe : name ≠ sForeach)
    (hlx : ∀ x ∈ l, x.length ≤ 100000) (hl1 : 1 ≤ l.length) (hl9 : l.length ≤ 9) (hr : w.ownsRow 0 9 1 (.slice A1 l.length C1) l.length (strCells l)) (hf : functionB cf L v name l n = some (r, n')) :
    Calls Tryz.prog 137 #[scV A N C D sb, .string (B name), .slice A1 l.length C1] w fun e w' => e = .returned (resV r) ∧ Keeps sb n' w w' := by
  have HV := Lib.hid hv
  have HC := Lib.hid hc
  have hsb := cnt_lt hc
  have HE := Lib.hid hE
  have HFE := Lib.hid fE
  have HENV := Lib.hid henv
  have HROW := Lib.hid hr
  have HLX := Lib.hid hlx
  have HCF := Lib.hid hC
  have hNl : N ≤ 10000000 := by have := hv.parts.1; have := henv.len; omega
  have e1 : (name == [105, 102]) = false := by simpa [sIf] using hif
  have e2 : (name == [102, 111, 114, 101, 97, 99, 104]) = false := by simpa [sForeach] using hfe
  obtain ⟨g, hA, _⟩ := SR_cell hr 0 (by omega)
  subst hA
  have hf' : andS (allS (L.ex v) l []) (fun l => if name ≠ sCall then callS cf name l else
      match getV v (trimB (l.getD 0 [])) with
      | none => okS []
      | some x => L.ex (withArgs (insV ⟨[48], trimB (l.getD 0 []), true⟩ v) 0 (l.drop 1)) x.text) n = some (r, n') := by
    have := hf
    unfold functionB at this
    rw [if_neg hif, if_neg hfe] at this
    exact this
  obtain ⟨q, n2, hq, hor⟩ := andS_cases hf'
  have HFI := Lib.hid (allS_fine L.ex K (fE K) v henv l [] n n2 q hlx (by simp) hn hq)
  have HOR := Lib.hid hor
  have HQ := Lib.hid hq
  have BX := Lib.hid (Blk.new w 104 #[.slice A N C, .int .i64 D, .pointer (some ⟨sb, 0, none⟩)] rfl)
  have BL := Lib.hid (Blk.new (w.alloc (.cells #[.slice A N C, .int .i64 D, .pointer (some ⟨sb, 0, none⟩)] 104)) 58 #[.slice (some ⟨g, 0, none⟩) l.length C1] (g := w.heap.size + 1) (by simp))
  have BX0 := Lib.hid (BX.out.alloc (.cells #[.slice (some ⟨g, 0, none⟩) l.length C1] 58))
  have HK0 := Lib.hid (keeps_alloc (keeps_alloc (keeps_refl HC.out) (.cells #[.slice A N C, .int .i64 D, .pointer (some ⟨sb, 0, none⟩)] 104)) (.cells #[.slice (some ⟨g, 0, none⟩) l.length C1] 58))
  have hs0 : ((w.alloc (.cells #[.slice A N C, .int .i64 D, .pointer (some ⟨sb, 0, none⟩)] 104)).alloc (.cells #[.slice (some ⟨g, 0, none⟩) l.length C1] 58)).heap.size = w.heap.size + 1 + 1 := by simp
  have hwall : ∀ w0 : World, Keeps sb n w w0 → Calls Tryz.prog 211 #[scV A N C D sb, .slice (some ⟨g, 0, none⟩) l.length C1] w0 fun e w' => allPost w0.heap.size sb n2 w0 q e w' := fun w0 hk =>
    all_any L.ex D K (HE.out K (by omega)) (HFE.out K) v A N C sb n w0 l (some ⟨g, 0, none⟩) C1 q n2 (VR_keeps HV.out hk HC.out) HENV.out hk.cnt hn HLX.out (by omega) (row9_keeps HROW.out hk HC.out) HQ.out
  clear hv hc hE fE henv hr hf hf' hlx hor hq hC
  unfold scV at hwall ⊢
  go_enter Tryz.func137, Tryz.ntmps137
  go_wp2_with fail
  clear BX
  generalize (w.alloc (.cells #[.slice A N C, .int .i64 D, .pointer (some ⟨sb, 0, none⟩)] 104)).alloc (.cells #[.slice (some ⟨g, 0, none⟩) l.length C1] 58) = w0 at *
  have HROW0 := Lib.hid (row9_keeps HROW.out HK0.out HC.out)
  obtain ⟨f1, f2, f3⟩ := BX0.out.c
  obtain ⟨b1, b2, b3⟩ := BL.out.c
  have hcall := hwall w0 HK0.out
  clear hwall
  go_wp2_with fail
  refine hcall.mono ?_
  intro e w1 hpost
  obtain ⟨hpost, k1⟩ := hpost
  have HK1 := Lib.hid (keeps_trans HK0.out k1)
  have BX1 := Lib.hid (BX0.out.keeps k1 (by omega))
  have BL1 := Lib.hid (BL.out.keeps k1 (by omega))
  clear k1 hcall f1 f2 f3 b1 b2 b3 HK0 BX0 BL HROW0 HROW
  rcases HFI.out with ⟨x, rfl, hx1, hx2⟩ | ⟨o, rfl, ho, hol, hn2⟩
  · have he0 : ((x : Int) != 0) = true := by simp; omega
    simp only at hpost
    subst hpost
    go_wp2_with fail
    go_ret2
    rcases HOR.out with ⟨e2, h1, rfl, rfl⟩ | ⟨y, h1, _⟩
    · cases h1
      exact ⟨rfl, HK1.out⟩
    · cases h1
  · obtain ⟨A2, C2, he, hrow⟩ := hpost
    subst he
    have HR2 := Lib.hid (row_low (base' := 0) hrow (Nat.zero_le _))
    have HO1 : Hid (o.length = l.length) := Lib.hid (by simpa using ho)
    have hgo : (if name ≠ sCall then callS cf name o else
      match getV v (trimB (o.getD 0 [])) with
      | none => okS []
      | some x => L.ex (withArgs (insV ⟨[48], trimB (o.getD 0 []), true⟩ v) 0 (o.drop 1)) x.text) n2 = some (r, n') := by
      rcases HOR.out with ⟨e2, h1, _⟩ | ⟨y, h1, h2⟩
      · cases h1
      · cases h1; exact h2
    have HG := Lib.hid hgo
    have HOL := Lib.hid hol
    clear HOR HFI hol ho hrow hgo
    by_cases hcl : name = sCall
    · subst hcl
      have e3 : (sCall == [99, 97, 108, 108]) = true := by decide
      have h0o : 0 < o.length := by have := HO1.out; omega
      have h0i : (0 : Int) < (o.length : Int) := by omega
      have HS : Hid ((match getV v (trimB o[0]) with
        | none => okS []
        | some x => L.ex (withArgs (insV ⟨[48], trimB o[0], true⟩ v) 0 (o.drop 1)) x.text) n2 = some (r, n')) := Lib.hid (by
        have := HG.out
        rw [if_neg (by simp), getD_at2 h0o] at this
        exact this)
      obtain ⟨g2, hA2, c0⟩ := SR_cell HR2.out 0 h0o
      subst hA2
      have ho0 := HOL.out o[0] (List.getElem_mem h0o)
      have HO0 := Lib.hid ho0
      clear ho0 HG
      have hC2 : o.length ≤ C2 ∧ C2 ≤ 9223372036854775807 := by
        rcases HR2.out.2 with ⟨hv, h0⟩ | ⟨g, cap, cur, hv, hb, hg, hle, hcm, _⟩
        · omega
        · injection hv with e1 e2 e3; subst e3; exact ⟨hle, hcm⟩
      generalize o[0] = own at *
      go_wp2_with fail
      refine (trim_any own w1 (by have := HO0.out; omega)).mono ?_
      rintro e w2 ⟨rfl, hb2⟩
      have hol2 : (trimB own).length ≤ 100000 := by have := trimB_le own; have := HO0.out; omega
      have HK2 := Lib.hid (keeps_below HK1.out hb2)
      have BX2 := Lib.hid (BX1.out.below hb2)
      have HR3 := Lib.hid (row_below HR2.out hb2)
      clear hb2 c0 HK1 BX1 BL1 HR2 HO0
      generalize trimB own = nm at *
      obtain ⟨f1, f2, f3⟩ := BX2.out.c
      go_wp2_with fail
      refine (get_any A N C v nm w2 (VR_keeps HV.out HK2.out HC.out)).mono ?_
      rintro e w3 ⟨rfl, hb3⟩
      have HK3 := Lib.hid (keeps_below HK2.out hb3)
      have BX3 := Lib.hid (BX2.out.below hb3)
      have HR4 := Lib.hid (row_below HR3.out hb3)
      have hsz3 : w.heap.size < w3.heap.size := BX3.out.lt
      clear hb3 f1 f2 f3 HK2 BX2 HR3
      cases hg : getV v nm with
      | none =>
        have HR : Hid (r = .ok [] ∧ n' = n2) := Lib.hid (by
          have := HS.out
          rw [hg] at this
          simp [okS] at this
          exact ⟨this.1.symm, this.2.symm⟩)
        clear HS hg
        simp only [vrV, Option.isSome_none]
        go_wp2_with fail
        go_ret2
        rw [HR.out.1, HR.out.2]
        exact ⟨rfl, keeps_alloc HK3.out _⟩
      | some x =>
        have HX : Hid (x ∈ v) := Lib.hid (getV_mem hg)
        have HS2 : Hid (L.ex (withArgs (insV ⟨[48], nm, true⟩ v) 0 (o.drop 1)) x.text n2 = some (r, n')) := Lib.hid (by
          have := HS.out
          rw [hg] at this
          exact this)
        clear HS hg
        simp only [vrV, Option.isSome_some]
        have HK4 := Lib.hid (keeps_alloc HK3.out (.cells #[.string (B x.name), .string (B x.text), .bool x.simple] 36))
        have BX4 := Lib.hid (BX3.out.alloc (.cells #[.string (B x.name), .string (B x.text), .bool x.simple] 36))
        have BV4 := Lib.hid (Blk.new w3 36 #[.string (B x.name), .string (B x.text), .bool x.simple] rfl)
        have HR5 := Lib.hid (HR4.out.alloc (.cells #[.string (B x.name), .string (B x.text), .bool x.simple] 36))
        obtain ⟨f1, f2, f3⟩ := BX4.out.c
        have hsz4 : (w3.alloc (.cells #[.string (B x.name), .string (B x.text), .bool x.simple] 36)).heap.size = w3.heap.size + 1 := by simp
        clear HK3 BX3 HR4
        go_wp2_with fail
        generalize w3.alloc (.cells #[.string (B x.name), .string (B x.text), .bool x.simple] 36) = w4 at *
        have hwith := with_any v A N C D sb w4 [48] nm (VR_keeps HV.out HK4.out HC.out) HENV.out.ord (by omega)
        unfold scV at hwith
        refine hwith.mono ?_
        rintro e w5 ⟨A', N', C', rfl, hv', hb5⟩
        have HK5 := Lib.hid (keeps_below HK4.out hb5)
        have BV5 := Lib.hid (BV4.out.below hb5)
        have HR6 := Lib.hid (row_below HR5.out hb5)
        have HV5 := Lib.hid hv'
        have hsz5 : w3.heap.size < w5.heap.size := BV5.out.lt
        clear hb5 hv' hwith f1 f2 f3 HK4 BX4 BV4 HR5
        have h1C : (1 : Int) ≤ (o.length : Int) := by omega
        have h2C : (o.length : Int) ≤ (C2 : Int) := by omega
        have HE5 := Lib.hid ((HENV.out.ins ⟨[48], nm, true⟩ hol2).ord)
        have HB18 := Lib.hid (Blk.new w5 104 #[.slice A' N' C', .int .i64 D, .pointer (some ⟨sb, 0, none⟩)] rfl)
        have HK6 := Lib.hid (keeps_alloc HK5.out (.cells #[.slice A' N' C', .int .i64 D, .pointer (some ⟨sb, 0, none⟩)] 104))
        have HV6 := Lib.hid (VR_alloc HV5.out (.cells #[.slice A' N' C', .int .i64 D, .pointer (some ⟨sb, 0, none⟩)] 104))
        have HR7 := Lib.hid (HR6.out.alloc (.cells #[.slice A' N' C', .int .i64 D, .pointer (some ⟨sb, 0, none⟩)] 104))
        have BV6 := Lib.hid (BV5.out.alloc (.cells #[.slice A' N' C', .int .i64 D, .pointer (some ⟨sb, 0, none⟩)] 104))
        have HEN0 := Lib.hid (HENV.out.ins ⟨[48], nm, true⟩ hol2)
        have hs6 : (w5.alloc (.cells #[.slice A' N' C', .int .i64 D, .pointer (some ⟨sb, 0, none⟩)] 104)).heap.size = w5.heap.size + 1 := by simp
        have hsw5 : w.heap.size < w5.heap.size := by omega
        obtain ⟨m, hm⟩ : ∃ m, o.length - 1 = m := ⟨_, rfl⟩
        have HM := Lib.hid hm
        have hm8 : m ≤ 8 := by have := HO1.out; omega
        clear HV5 HK5 HR6 BV5 HQ
        by_cases hC1 : C2 = 1
        · have hm0 : m = 0 := by omega
          subst hm0
          have hol1 : o.length ≤ 1 := by omega
          have hd1 : o.drop 1 = [] := List.drop_eq_nil_of_le hol1
          have hex := HS2.out
          rw [hd1] at hex
          have hcall := HE.out (K + 1) (by omega) (insV ⟨[48], nm, true⟩ v) A' N' C' sb n2 _ x.text r n' HV6.out HEN0.out HK6.out.cnt hn2 (HENV.out.txt x HX.out) hex
          unfold scV at hcall
          obtain ⟨v1, v2, v3⟩ := BV6.out.c
          obtain ⟨d1, d2, d3⟩ := (HB18.out).c
          clear hol1 hd1 hex HM
          go_wp2_with fail
          go_loopw [118] (fun iv wr => iv = .int .i64 0 ∧ wr = w5.alloc (.cells #[.slice A' N' C', .int .i64 D, .pointer (some ⟨sb, 0, none⟩)] 104)) (fun iv wr => 0)
          case atStart => exact ⟨rfl, rfl⟩
          case round =>
            obtain ⟨rfl, rfl⟩ := hrel
            go_wp2_with fail
            refine hcall.mono ?_
            rintro e w7 ⟨rfl, k7⟩
            have HK7 := Lib.hid (keeps_trans HK6.out k7)
            clear k7 hcall
            unfold resV
            go_wp2_with fail
            go_ret2
            exact ⟨rfl, HK7.out⟩
        · go_wp2_with fail
          clear hm
          go_loopw [118] (fun iv wr => ∃ (i : Nat) (u : List Var) (A'' : Option Addr) (N'' C'' : Nat), iv = .int .i64 i ∧ i ≤ m ∧ Blk wr w5.heap.size 104 #[.slice A'' N'' C'', .int .i64 D, .pointer (some ⟨sb, 0, none⟩)] ∧ VR wr (.slice A'' N'' C'') u ∧ Env (K + 1 + i) u ∧
              withArgs u i (o.drop (1 + i)) = withArgs (insV ⟨[48], nm, true⟩ v) 0 (o.drop 1) ∧ Keeps sb n2 w wr ∧ Blk wr w3.heap.size 36 #[.string (B x.name), .string (B x.text), .bool x.simple] ∧ wr.ownsRow 0 9 1 (.slice (some ⟨g2, 0, none⟩) o.length C2) o.length (strCells o))
            (fun iv wr => m - (intOf iv).toNat)
          case atStart => exact ⟨0, _, A', N', C', rfl, by omega, HB18.out, HV6.out, HEN0.out, rfl, HK6.out, BV6.out, HR7.out⟩
          case round =>
            obtain ⟨i, u, A'', N'', C'', rfl, him, hb18, hvu, heu, hwa, hk, hbv, hro⟩ := hrel
            have hi0 : (0 : Int) ≤ (i : Int) := by omega
            have HB18r := Lib.hid hb18
            have HVu := Lib.hid hvu
            have HEu := Lib.hid heu
            have HWA := Lib.hid hwa
            have HK := Lib.hid hk
            have HBV := Lib.hid hbv
            have HRO := Lib.hid hro
            obtain ⟨d1, d2, d3⟩ := hb18.c
            have hNu : N'' ≤ 100000000 := by have := hvu.parts.1; have := heu.len; omega
            clear hb18 hvu heu hwa hk hbv hro HB18 HV6 HEN0 HK6 BV6 HR7
            by_cases hlt : i < m
            · have hi1 : (i : Int) < (m : Int) := by omega
              have hio : 1 + i < o.length := by have := HM.out; omega
              obtain ⟨t, ht⟩ : ∃ t, o[1 + i] = t := ⟨_, rfl⟩
              have htm : t.length ≤ 4000 := by rw [← ht]; exact HOL.out _ (List.getElem_mem hio)
              have HDR : Hid (o.drop (1 + i) = t :: o.drop (1 + (i + 1))) := Lib.hid (by rw [← ht, show 1 + (i + 1) = 1 + i + 1 by omega]; exact List.drop_eq_getElem_cons hio)
              obtain ⟨g', hg', ct⟩ := SR_cell HRO.out (1 + i) hio
              cases hg'
              rw [ht] at ct
              clear ht
              have hwith := with_any u A'' N'' C'' D sb wr.drew (Lib.itoa ((i : Int) + 1)) t (row_below HVu.out (below_drew wr)) HEu.out.ord (by omega)
              unfold scV at hwith
              have hcells := fun w7 (hb : Below wr.drew.heap.size wr.drew w7) => (Blk.below (w := wr.drew) HB18r.out hb).c
              have hit := itoa_wrap i (by omega)
              go_wp2_with fail
              go_region_with (first | (go_at_call 216; refine (hit _).mono ?_; rintro e w7 ⟨rfl, rfl⟩) | (go_at_call 214; refine hwith.mono ?_; rintro e w7 ⟨A2, N2, C2', rfl, hv7, hb7⟩; obtain ⟨q1, q2, q3⟩ := hcells w7 hb7))
              all_goals
                have HK7 := Lib.hid (keeps_below (keeps_drew HK.out) hb7)
                have HB7 := Lib.hid (Blk.below (w := wr.drew) HB18r.out hb7)
                have HBV7 := Lib.hid (Blk.below (w := wr.drew) HBV.out hb7)
                have HRO7 := Lib.hid (row_below (row_below HRO.out (below_drew wr)) hb7)
                have HV7 := Lib.hid hv7
                clear q1 q2 q3 hv7 hb7 hcells hit hwith ct d1 d2 d3 HB18r HBV HRO HK HVu
                have hne5 : w3.heap.size ≠ w5.heap.size := by omega
                go_wp2_with fail
                go_roundw
                case rel =>
                  refine ⟨i + 1, insV ⟨Lib.itoa ((i : Int) + 1), t, true⟩ u, A2, N2, C2', by rw [Int.natCast_add]; rfl, by omega, ?_, ?_, ?_, ?_, ?_, ?_, ?_⟩
                  · exact ((HB7.out.set_ 0 (.slice A2 N2 C2')).set_ 1 (.int .i64 D)).set_ 2 (.pointer (some ⟨sb, 0, none⟩))
                  · exact VR_far (VR_far (VR_far HV7.out HB7.out (by decide) 0 _) (HB7.out.set_ 0 _) (by decide) 1 _) ((HB7.out.set_ 0 _).set_ 1 _) (by decide) 2 _
                  · rw [show K + 1 + (i + 1) = K + 1 + i + 1 by omega]
                    exact HEu.out.ins ⟨Lib.itoa ((i : Int) + 1), t, true⟩ (Nat.le_trans htm (by decide))
                  · rw [← HWA.out, HDR.out]
                    rfl
                  · exact keeps_set (keeps_set (keeps_set HK7.out ⟨w5.heap.size, 0, none⟩ _ (by show w.heap.size ≤ w5.heap.size; omega) (by show sb < w5.heap.size; omega)) ⟨w5.heap.size, 1, none⟩ _ (by show w.heap.size ≤ w5.heap.size; omega) (by show sb < w5.heap.size; omega)) ⟨w5.heap.size, 2, none⟩ _ (by show w.heap.size ≤ w5.heap.size; omega) (by show sb < w5.heap.size; omega)
                  · exact ((HBV7.out.far (p := ⟨w5.heap.size, 0, none⟩) hne5 _).far (p := ⟨w5.heap.size, 1, none⟩) hne5 _).far (p := ⟨w5.heap.size, 2, none⟩) hne5 _
                  · exact row_far (row_far (row_far HRO7.out HB7.out (by decide) 0 _) (HB7.out.set_ 0 _) (by decide) 1 _) ((HB7.out.set_ 0 _).set_ 1 _) (by decide) 2 _
                case measure => simp [intOf]; omega
            · obtain rfl : i = m := by omega
              have hdrop : o.drop (1 + i) = [] := List.drop_eq_nil_of_le (by have := HM.out; omega)
              have hu : u = withArgs (insV ⟨[48], nm, true⟩ v) 0 (o.drop 1) := by
                have := HWA.out
                rw [hdrop] at this
                exact this
              have hex := HS2.out
              rw [← hu] at hex
              have hcall := HE.out (K + 1 + i) (by omega) u A'' N'' C'' sb n2 wr x.text r n' HVu.out HEu.out HK.out.cnt hn2 (HENV.out.txt x HX.out) hex
              unfold scV at hcall
              obtain ⟨v1, v2, v3⟩ := HBV.out.c
              clear hdrop hu hex HWA
              go_wp2_with fail
              refine hcall.mono ?_
              rintro e w7 ⟨rfl, k7⟩
              have HK7 := Lib.hid (keeps_trans HK.out k7)
              clear k7 hcall
              unfold resV
              go_wp2_with fail
              go_ret2
              exact ⟨rfl, HK7.out⟩
    · have e3 : (name == [99, 97, 108, 108]) = false := by simpa [sCall] using hcl
      have HS : Hid (callS cf name o n2 = some (r, n')) := Lib.hid (by have := HG.out; rw [if_pos hcl] at this; exact this)
      have hcf : cf name o = some r ∧ n' = n2 := by
        have := HS.out
        unfold callS at this
        cases hx : cf name o with
        | none => rw [hx] at this; cases this
        | some x => rw [hx] at this; cases this; exact ⟨rfl, rfl⟩
      obtain ⟨hcf, rfl⟩ := hcf
      have hcall := HCF.out name o A2 C2 w1 r HK1.out.cnt.glob hnl HOL.out HR2.out hcf
      clear hcf HS HG
      go_wp2_with fail
      refine hcall.mono ?_
      rintro e w2 ⟨rfl, hb2⟩
      have HK2 := Lib.hid (keeps_below HK1.out hb2)
      clear hb2 hcall
      unfold resV
      go_wp2_with fail
      go_ret2
      exact ⟨rfl, HK2.out⟩
end Go.Proofs.YtopkcgdfebkbaaaGreatDoor
