/- Walks: strings.IndexAny at a blank, at every text; the words of a text. -/
import Derived.Test.YtopkcgdfebkbaaaGreatDoorW6
import Derived.Laws.RangeAny
import Derived.Laws.Runes
import Derived.WalkMore
import Derived.Lib.OthersKept
import Derived.Lib.DecodeN
import Derived.Lib.TrimU
set_option linter.unusedVariables false
set_option linter.unusedSimpArgs false
namespace Go.Proofs.YtopkcgdfebkbaaaGreatDoor
open Go.RowKit
attribute [local go_sem] B_size B_toList B_extract B_append drop_take_all

theorem indexByte_empty (c : Int) (w : World) : Calls Tryz.prog 263 #[.string ByteArray.empty, .int .u8 c] w fun e w' => e = .returned (.int .i64 (-1)) ∧ w' = w :=
  Tryz.strings_IndexByte ByteArray.empty c w

set_option maxRecDepth 100000 in
set_option maxHeartbeats 1000000 in
theorem indexRune_high (r : Int) (w : World) (h : 128 ≤ r) (hm : r ≤ 1114111) :
    Calls Tryz.prog 207 #[.string (B blanks), .int .i32 r] w fun e w' => e = .returned (.int .i64 (-1)) ∧ Below w.heap.size w w' := by
  have n0 : ¬ r < 128 := by omega
  have p0 : (0:Int) ≤ r := by omega
  by_cases hr : r = 65533
  · subst hr
    go_enter Tryz.func207, Tryz.ntmps207
    go_wp2_with fail
    go_loopg [5, 6] 2 (fun g _ _ wx => ∃ i : Nat, i + g = 2 ∧ wx = w.iter (B blanks) i)
    case atStart => exact ⟨0, by omega, rfl⟩
    case round =>
      obtain ⟨i, hig, rfl⟩ := hrel
      cases gk with
      | zero =>
        obtain rfl : i = 2 := by omega
        have hnx := fun ty => run_next_end (P := Tryz.prog) w (B blanks) 2 ty (by rw [B_size]; decide)
        go_wp2
        go_ret
        exact ⟨rfl, (Below.refl _ w).alloc (Nat.le_refl _) _⟩
      | succ g =>
        have hi : i < (B blanks).size := by rw [B_size]; show i < 2; omega
        have hnx := fun ty => run_next_any (P := Tryz.prog) w (B blanks) i ty hi
        have hd : ((Utf8.decode (B blanks) i).1 == 65533) = false ∧ (Utf8.decode (B blanks) i).2 = 1 := by
          match i, hi with
          | 0, _ => exact ⟨by decide, by decide⟩
          | 1, _ => exact ⟨by decide, by decide⟩
        obtain ⟨hd1, hd2⟩ := hd
        rw [hd2] at hnx
        go_wp2
        go_roundg g
        case measure => omega
        case rel => exact ⟨i + 1, by omega, rfl⟩
  · have hr' : (r == 65533) = false := by simpa using hr
    cases hv : Lib.validRune r with
    | false =>
      go_enter Tryz.func207, Tryz.ntmps207
      go_wp2_with fail
      refine (Tryz.utf8_ValidRune _ _).mono ?_
      rintro e w1 ⟨rfl, rfl⟩
      rw [hv]
      go_wp2
      go_ret
      exact ⟨rfl, Below.refl _ _⟩
    | true =>
      obtain ⟨q2, q3, q1⟩ := encode_facts r (by unfold Lib.validRune at hv; unfold Utf8.valid; simp at hv ⊢; omega) h
      obtain ⟨e, he⟩ : ∃ e, Utf8.encode r = e := ⟨_, rfl⟩
      rw [he] at q2 q3 q1
      have hwr : wrap64 ((e.size : Int) - 1) = (e.size : Int) - 1 := by unfold wrap64; omega
      go_enter Tryz.func207, Tryz.ntmps207
      go_wp2_with fail
      refine (Tryz.utf8_ValidRune _ _).mono ?_
      rintro e w1 ⟨rfl, rfl⟩
      rw [hv]
      go_wp2
      have hq : (0:Int) ≤ (e.size : Int) - 1 := by omega
      go_step3
      go_wp2
      go_loopw [9] (fun c wr => c = .int .i64 ((e.size : Int) - 1) ∧ wr = w1) (fun _ _ => 0)
      case atStart => exact ⟨rfl, rfl⟩
      case round =>
        obtain ⟨rfl, rfl⟩ := hrel
        by_cases h3 : e.size = 2
        · have hc : (e.size : Int) - 1 = 1 := by omega
          have hw2 : IntKind.i64.wrap 2 = 2 := by decide
          have hl2 : List.length blanks = 2 := rfl
          have q4 : 128 ≤ (e[1]'(by omega)).toNat := by have := q1 (by omega); simp only [h3] at this; exact this
          have q5 : ((((B blanks)[1]'(by rw [B_size]; decide)).toNat : Int) != ((e[1]'(by omega)).toNat : Int)) = true := by
            have h9 : ((B blanks)[1]'(by rw [B_size]; decide)).toNat = 9 := rfl
            rw [h9]; simp; omega
          rw [hc]
          go_wp2
          go_step3
          go_wp2
          go_quiet (fail)
          obtain ⟨w5, hw5⟩ : ∃ w5, wr.drewN nq = w5 := ⟨_, rfl⟩
          have hb5 : Below wr.heap.size wr w5 := by rw [← hw5]; exact below_drewN _
          rw [hw5]
          clear hw5
          go_wp2
          go_quiet ((go_at_call 263; exact Calls.quiet_of_same (indexByte_empty _ _)))
          go_wp2
          rw [Exit.noGoto_ret]
          go_wp2
          rw [Exit.noGoto_ret]
          go_wp2
          go_ret
          exact ⟨rfl, below_then hb5 hb5.size (below_drewN _)⟩
        · have h4 : ¬ (e.size : Int) - 1 < 2 := by omega
          go_wp2
          go_ret
          exact ⟨rfl, Below.refl _ _⟩

/-- The bytes of a rune behind its first are no ASCII. -/
theorem decode_cont (s : ByteArray) (pos : Nat) (j : Nat) (h1 : 1 ≤ j) (h2 : j < (Utf8.decode s pos).2) : pos + j < s.size ∧ 128 ≤ (s.get! (pos + j)).toNat := by
  have hw : ∀ k, (decide (pos + k < s.size) && ((s.get! (pos + k)).toNat / 64 == 2)) = true → pos + k < s.size ∧ 128 ≤ (s.get! (pos + k)).toNat := by
    intro k hk
    simp at hk
    omega
  revert h2
  simp only [Utf8.decode]
  split
  · intro h; simp at h; omega
  · split
    · rename_i h
      simp only [Bool.and_eq_true] at h
      split
      · intro h2; obtain rfl : j = 1 := by simp at h2; omega
        exact hw 1 (by simpa using h.2)
      · intro h2; simp at h2; omega
    · split
      · rename_i h
        simp only [Bool.and_eq_true] at h
        split
        · intro h2
          have hj : j = 1 ∨ j = 2 := by simp at h2; omega
          rcases hj with rfl | rfl
          · exact hw 1 (by simpa using h.1.2)
          · exact hw 2 (by simpa using h.2)
        · intro h2; simp at h2; omega
      · split
        · rename_i h
          simp only [Bool.and_eq_true] at h
          split
          · intro h2
            have hj : j = 1 ∨ j = 2 ∨ j = 3 := by simp at h2; omega
            rcases hj with rfl | rfl | rfl
            · exact hw 1 (by simpa using h.1.1.2)
            · exact hw 2 (by simpa using h.1.2)
            · exact hw 3 (by simpa using h.2)
          · intro h2; simp at h2; omega
        · intro h2; simp at h2; omega

theorem contains_blank (c : UInt8) : blanks.contains c = isBlank c := by
  unfold blanks isBlank
  by_cases h1 : c = 32
  · subst h1; rfl
  · by_cases h2 : c = 9
    · subst h2; rfl
    · simp [List.contains_cons, h1, h2]

set_option maxRecDepth 100000 in
set_option maxHeartbeats 1000000 in
theorem indexAny_short (s : Bytes) (w : World) (h8 : s.length ≤ 8) :
    Calls Tryz.prog 134 #[.string (B s), .string (B blanks)] w fun e w' => e = .returned (.int .i64 (Lib.indexAny s blanks)) ∧ Below w.heap.size w w' := by
  have hsz : (B s).size = s.length := B_size s
  have h8z : decide ((8 : Int) < (s.length : Int)) = false := decide_eq_false (by omega)
  have hl2 : List.length blanks = 2 := rfl
  go_enter Tryz.func134, Tryz.ntmps134
  go_wp2_with (go_at_call 208; refine (Tryz.strings_shouldUseASCIISet _ _).mono ?_; rintro e w' ⟨rfl, hw⟩; rw [hw, h8z])
  go_loopg [9, 10] s.length (fun g _ _ wx => ∃ i : Nat, i ≤ s.length ∧ s.length ≤ i + g ∧ wx.heap[w.heap.size]? = some (.stringIter (B s) i) ∧ Below w.heap.size w wx ∧ Lib.NoAny s blanks i)
  case atStart => exact ⟨0, by omega, by omega, World.iter_heap _ _ _, (Below.refl _ w).alloc (Nat.le_refl _) _, Lib.NoAny.zero _ _⟩
  case round =>
    obtain ⟨i, hi0, hig, hit, hbx, hno⟩ := hrel
    have HN := Lib.hid hno
    have HB := Lib.hid hbx
    clear hno hbx
    by_cases hi : i < s.length
    · have hi' : i < (B s).size := by omega
      cases gk with
      | zero => omega
      | succ g =>
        obtain ⟨x, hx⟩ : ∃ x, s[i] = x := ⟨_, rfl⟩
        have hxb : (B s)[i]'hi' = x := by rw [← hx]; exact B_get s i hi' hi
        have HX : Hid (s[i]? = some x) := Lib.hid (by rw [← hx]; exact List.getElem?_eq_getElem hi)
        clear hx
        by_cases h128 : x.toNat < 128
        · have hnx := fun ty => Lib.run_next_ascii_at (P := Tryz.prog) wr w.heap.size (B s) i ty hit hi' (by rw [hxb]; exact h128)
          have HT := Lib.hid (Lib.iterAt_heap wr w.heap.size (B s) i (i + 1) hit)
          have HB2 := Lib.hid (Lib.below_iterAt HB.out (Nat.le_refl _) (B s) (i + 1))
          rw [hxb] at hnx
          clear hxb hit
          generalize wr.iterAt w.heap.size (B s) (i + 1) = wy at *
          have hcon := Lib.contains_iff_indexByte blanks x
          have hback : ((x.toNat : Int)).toNat.toUInt8 = x := by simp
          cases hin : blanks.contains x
          · rw [hin] at hcon
            have hlt : ¬ ((0 : Int) ≤ Lib.indexByte blanks x) := of_decide_eq_false hcon.symm
            clear hcon
            go_wp2_with (go_at_call 207; refine (Tryz.strings_IndexRune_ascii _ _ _ (by omega) (by omega)).mono ?_; rintro e w' ⟨rfl, hw⟩; rw [hw, hback, B_data])
            go_roundg g
            case measure => omega
            case rel => exact ⟨i + 1, by omega, by omega, HT.out, HB2.out, HN.out.succ HX.out hin⟩
          · rw [hin] at hcon
            have hge : (0 : Int) ≤ Lib.indexByte blanks x := of_decide_eq_true hcon.symm
            clear hcon
            go_wp2_with (go_at_call 207; refine (Tryz.strings_IndexRune_ascii _ _ _ (by omega) (by omega)).mono ?_; rintro e w' ⟨rfl, hw⟩; rw [hw, hback, B_data])
            go_ret
            exact ⟨by rw [Lib.indexAny_hit HN.out HX.out hin]; rfl, HB2.out⟩
        · have hd := decode_high (B s) i hi' (by rw [hxb]; omega)
          have hm := Lib.rune_le (B s) i
          have HC : Hid (∀ j, 1 ≤ j → j < (Utf8.decode (B s) i).2 → i + j < (B s).size ∧ 128 ≤ ((B s).get! (i + j)).toNat) := Lib.hid (decode_cont (B s) i)
          have hnx := fun ty => Lib.run_next_any_at (P := Tryz.prog) wr w.heap.size (B s) i ty hit hi'
          generalize Utf8.decode (B s) i = q at *
          obtain ⟨r, k⟩ := q
          simp only at hd hm HC hnx
          have hik : i + k ≤ s.length := by
            by_cases hk : k = 1
            · omega
            · have := (HC.out (k - 1) (by omega) (by omega)).1; omega
          have HT := Lib.hid (Lib.iterAt_heap wr w.heap.size (B s) i (i + k) hit)
          have HB2 := Lib.hid (Lib.below_iterAt HB.out (Nat.le_refl _) (B s) (i + k))
          clear hxb hit
          generalize wr.iterAt w.heap.size (B s) (i + k) = wy at *
          go_wp2_with (go_at_call 207; refine (indexRune_high _ _ (by omega) (by omega)).mono ?_; rintro e w' ⟨rfl, hb⟩)
          have hlt : w.heap.size < wy.heap.size := (Array.getElem?_eq_some_iff.1 HT.out).1
          go_roundg g
          case measure => omega
          case rel =>
            refine ⟨i + k, by omega, by omega, (hb.block _ hlt).trans HT.out, below_then HB2.out HB2.out.size hb, ?_⟩
            intro j b hj hjb
            by_cases h1 : j < i
            · exact HN.out j b h1 hjb
            · have hjl : j < s.length := (List.getElem?_eq_some_iff.1 hjb).1
              have hb128 : 128 ≤ b.toNat := by
                by_cases h2 : j = i
                · subst h2
                  rw [HX.out] at hjb; cases hjb; omega
                · have h3 := (HC.out (j - i) (by omega) (by omega)).2
                  rw [show i + (j - i) = j from by omega] at h3
                  have h4 : (B s).get! j = b := by
                    have hj' : j < (B s).size := by omega
                    have := get_at (B s) j hj'
                    rw [Nat.add_zero] at this
                    rw [this, B_get s j hj' hjl]
                    exact Option.some.inj ((List.getElem?_eq_getElem hjl).symm.trans hjb)
                  rw [h4] at h3; exact h3
              unfold blanks
              have h32 : b ≠ 32 := fun e => by subst e; simp at hb128
              have h9 : b ≠ 9 := fun e => by subst e; simp at hb128
              simp [List.contains_cons, h32, h9]
    · obtain rfl : i = s.length := by omega
      have hnx := fun ty => Lib.run_next_end_at (P := Tryz.prog) wr w.heap.size (B s) s.length ty hit (by omega)
      go_wp2
      go_ret
      exact ⟨by rw [Lib.indexAny_none HN.out]; rfl, HB.out⟩

theorem indexAny_any (s : Bytes) (w : World) (hs : s.length < 4294967281) :
    Calls Tryz.prog 134 #[.string (B s), .string (B blanks)] w fun e w' => e = .returned (.int .i64 (Lib.indexAny s blanks)) ∧ Below w.heap.size w w' := by
  by_cases h8 : s.length ≤ 8
  · exact indexAny_short s w h8
  · have h := Tryz.strings_IndexAny_long (zero_of_info (P := Tryz.prog) (t := 225) (n := 256) (by kernel_rfl)).1 (B s) (B blanks) w (by rw [B_size]; decide) (by rw [B_size]; omega) (by rw [B_size]; exact hs) (by rw [B_size]; decide) (by rw [B_data]; exact ascii_of_all (by decide))
    rw [B_data, B_data] at h
    exact h.mono fun e w' ⟨h1, h2⟩ => ⟨h1, by rw [h2]; exact ((Below.refl _ _).alloc (Nat.le_refl _) _).alloc (by simp) _⟩

/-! ### The first word -/
theorem takeWhile_of (p : UInt8 → Bool) : ∀ (l : Bytes) (k : Nat), (∀ j b, j < k → l[j]? = some b → p b = true) → (∀ b, l[k]? = some b → p b = false) → k ≤ l.length → l.takeWhile p = l.take k ∧ l.dropWhile p = l.drop k
  | [], k, _, _, hk => by simp at hk; subst hk; simp
  | a :: l, 0, _, h2, _ => by
    have := h2 a rfl
    simp [List.takeWhile_cons, List.dropWhile_cons, this]
  | a :: l, k + 1, h1, h2, hk => by
    have ha := h1 0 a (by omega) rfl
    have ih := takeWhile_of p l k (fun j b hj hb => h1 (j + 1) b (by omega) (by simpa using hb)) (fun b hb => h2 b (by simpa using hb)) (by simpa using hk)
    simp [List.takeWhile_cons, List.dropWhile_cons, ha, ih]

theorem indexAny_cases (chars : Bytes) : ∀ (l : Bytes), (Lib.indexAny l chars = -1 ∧ Lib.NoAny l chars l.length) ∨ (∃ k : Nat, Lib.indexAny l chars = k ∧ k < l.length ∧ Lib.NoAny l chars k ∧ ∃ b, l[k]? = some b ∧ chars.contains b = true)
  | [] => .inl ⟨rfl, Lib.NoAny.zero _ _⟩
  | a :: l => by
    unfold Lib.indexAny
    by_cases ha : chars.contains a = true
    · rw [if_pos ha]
      exact .inr ⟨0, rfl, by simp, Lib.NoAny.zero _ _, a, rfl, ha⟩
    · rw [if_neg ha]
      have ha' : chars.contains a = false := by simpa using ha
      rcases indexAny_cases chars l with ⟨h1, h2⟩ | ⟨k, h1, hk, h2, b, hb, hc⟩
      · rw [h1]
        refine .inl ⟨by simp, fun j b hj hjb => ?_⟩
        cases j with
        | zero => simp at hjb; subst hjb; exact ha'
        | succ j => exact h2 j b (by simp at hj; omega) (by simpa using hjb)
      · rw [h1]
        refine .inr ⟨k + 1, ?_, by simp; omega, fun j b hj hjb => ?_, b, by simpa using hb, hc⟩
        · have : ((k : Int) == -1) = false := by simp
          rw [this]; simp
        · cases j with
          | zero => simp at hjb; subst hjb; exact ha'
          | succ j => exact h2 j b (by omega) (by simpa using hjb)

theorem natCast_not_neg (k : Nat) : ¬ ((k : Int) < 0) := by omega
/-- Where the first word of a text ends. -/
def wordEnd (s : Bytes) : Nat := if Lib.indexAny s blanks < 0 then s.length else (Lib.indexAny s blanks).toNat
theorem wordEnd_le (s : Bytes) : wordEnd s ≤ s.length := by
  unfold wordEnd
  rcases indexAny_cases blanks s with ⟨h1, _⟩ | ⟨k, h1, hk, _⟩
  · rw [h1]; simp
  · rw [h1, if_neg (natCast_not_neg k)]; simp; omega
theorem wordEnd_split (s : Bytes) : s.takeWhile (fun c => !isBlank c) = s.take (wordEnd s) ∧ s.dropWhile (fun c => !isBlank c) = s.drop (wordEnd s) := by
  have hn : ∀ c, (!isBlank c) = !blanks.contains c := fun c => by rw [contains_blank]
  refine takeWhile_of _ s (wordEnd s) ?_ ?_ (wordEnd_le s)
  · intro j b hj hb
    rw [hn]
    unfold wordEnd at hj
    rcases indexAny_cases blanks s with ⟨h1, h2⟩ | ⟨k, h1, hk, h2, _⟩
    · rw [h1] at hj; simp at hj; rw [h2 j b hj hb]; rfl
    · rw [h1, if_neg (natCast_not_neg k)] at hj; simp at hj; rw [h2 j b (by omega) hb]; rfl
  · intro b hb
    rw [hn]
    unfold wordEnd at hb
    rcases indexAny_cases blanks s with ⟨h1, h2⟩ | ⟨k, h1, hk, h2, c, hc, hcc⟩
    · rw [h1] at hb; simp at hb
    · rw [h1, if_neg (natCast_not_neg k), Int.toNat_natCast] at hb
      rw [hc] at hb; cases hb; rw [hcc]; rfl
end Go.Proofs.YtopkcgdfebkbaaaGreatDoor
