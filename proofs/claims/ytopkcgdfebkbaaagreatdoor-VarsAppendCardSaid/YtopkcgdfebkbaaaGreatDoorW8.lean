/- Ranges over a function: what an iterator hands on; the law; the words of a text, gathered. -/
import Derived.Test.YtopkcgdfebkbaaaGreatDoorW7
import Derived.RangeFuncNested
import Derived.RangeFuncBound
import Derived.RangeFuncCalls
import Derived.RangeFuncLeaves
import Derived.RangeFuncBox
import Derived.Shelf.Abstract
import Derived.Shelf.RegionOpen
import Derived.WalkKit
import Derived.OwnWalkIn
import Derived.TacticsInMore
import Derived.LoopNIn
import Derived.LoopIn
import Derived.Maps.AppendAt
set_option linter.unusedVariables false
set_option linter.unusedSimpArgs false
namespace Go.Proofs.YtopkcgdfebkbaaaGreatDoor
open Go.RowKit
attribute [local go_sem] B_size B_toList B_extract B_append drop_take_all
attribute [local go_sem] Oper.semAt_some

/-- AN ITERATOR's VALUE: function gf over lb; it hands on xs, each in its turn; it writes no block that lay ahead of it but nb. J: what stands between two rounds; Jx: where a round has said 'no more'. -/
def Gives (gf : Nat) (lb : Array Value) (nb : Nat) (xs : List Value) (w : World) : Prop :=
  ∀ (l : Nat) (J Jx : List Value → World → Prop) (W : World), W.heap[nb]? = w.heap[nb]? →
    (∀ s A B, J s A → A.grownBy B (some nb) → J s B) → (∀ s A B, Jx s A → A.grownBy B (some nb) → Jx s B) →
    (∀ pre x A, pre ++ [x] <+: xs → J pre A → ∀ m, YieldAt Fence.wide m Tryz.prog l #[x] A fun e B' =>
      (e = .returned (.bool true) ∧ J (pre ++ [x]) B' ∧ B'.heap[nb]? = A.heap[nb]?) ∨ (e = .returned (.bool false) ∧ Jx (pre ++ [x]) B')) →
    J [] W → ∀ n, CallsIn Fence.wide n Tryz.prog gf (#[.func (.yield l) #[] #[]] ++ lb) W fun e W' => (∃ v, e = .returned v) ∧ (J xs W' ∨ ∃ pre, pre <+: xs ∧ Jx pre W')

/-- What a round of the loop may turn: all but the loop's own two blocks (from n₀ on) that hold no cells, and nb. -/
structure Spares (n₀ nb : Nat) (A B : World) : Prop where
  size : A.heap.size ≤ B.heap.size
  same : ∀ (k : Nat) (o : Obj), n₀ ≤ k → A.heap[k]? = some o → o.isCells = false → B.heap[k]? = some o
  kept : B.heap[nb]? = A.heap[nb]?

/-- How a round's body may be left. -/
def roundEnd (n₀ nb : Nat) (I : List Value → World → Prop) (Ix : Code → List Value → World → Prop) (xs : List Value) (W : World) : Exit → Act → World → Prop
  | .normal, _, W' => Spares n₀ nb W W' ∧ I xs W'
  | .ret, _, W' => Spares n₀ nb W W' ∧ Ix .ret xs W'
  | .exit id, _, W' => Spares n₀ nb W W' ∧ Ix (.exit id) xs W'
  | .goto t, _, W' => Spares n₀ nb W W' ∧ Ix (.goto t) xs W'
  | .panic _, _, _ => False
  | .outgrown, _, _ => False

/-- An invariant that abides the iterator's own block, new blocks, and blocks that are no cells, from n₀ on. -/
def Abides {β : Type} (n₀ nb : Nat) (I : β → World → Prop) : Prop :=
  ∀ s A B row, I s A → A.grownBy B row → (row = some nb ∨ ∀ r, row = some r → n₀ ≤ r ∧ ∃ o : Obj, A.heap[r]? = some o ∧ o.isCells = false) → I s B
theorem Abides.put {β : Type} {n₀ nb : Nat} {I : β → World → Prop} (h : Abides n₀ nb I) {s : β} {W : World} {l : Nat} {o : Obj} (o' : Obj) (hs : I s W) (hB : n₀ ≤ l) (hl : W.heap[l]? = some o) (ho : o.isCells = false) : I s (W.putObj l o') :=
  h s W _ (some l) hs (grownBy_putObj' W l o') (.inr fun r e => by cases e; exact ⟨hB, o, hl, ho⟩)
theorem Abides.alloc {β : Type} {n₀ nb : Nat} {I : β → World → Prop} (h : Abides n₀ nb I) {s : β} {W : World} (o : Obj) (hs : I s W) : I s (W.alloc o) :=
  h s W _ none hs (World.grownBy_alloc W o none) (.inr fun r e => by cases e)

theorem grown_keeps_put {A B : World} {nb l : Nat} {o : Obj} (hg : A.grownBy B (some nb)) (hl : A.heap[l]? = some o) (hne : l ≠ nb) : B.heap[l]? = some o :=
  (hg.block l (Array.getElem?_eq_some_iff.1 hl).1 (by simpa using hne)).trans hl

/-- THE STATEMENT 'for x := range g { .. }' OVER AN ITERATOR THAT GIVES. -/
theorem wpIn_range {g : Operand} {p : Tmp} {assign body : Code} {Q : Exit → Act → World → Prop} {a : Act} {w w0 : World} (n : Nat)
    {gf : Nat} {lb : Array Value} (hg : a.eval g = .func (.func gf) #[] lb) (eg : ∀ args w, (callFunc gf args).run Tryz.prog w = .ok (.enter gf args) w)
    {nb : Nat} {xs : List Value} (hseq : Gives gf lb nb xs w0) (hnb : nb < w.heap.size) (hb0 : w.heap[nb]? = w0.heap[nb]?)
    (I : List Value → World → Prop) (Ix : Code → List Value → World → Prop) (hI : Abides w.heap.size nb I) (hIx : ∀ c, Abides w.heap.size nb (Ix c)) (h0 : I [] w) (a₁ : Value → Act)
    (hassign : ∀ (l : Nat) (x : Value) (W : World) (m : Nat) (K : Act → World → Prop), K (a₁ x) W →
      assign.wpIn (Fence.wide.inRound l) m Tryz.prog (Exit.then K (fun _ _ _ => False)) { tmps := a.tmps.setIfInBounds p x, defers := [] } W)
    (hbody : ∀ (l m : Nat) (pre : List Value) (x : Value) (W : World), pre ++ [x] <+: xs → I pre W → w.heap.size ≤ W.heap.size → body.wpIn (Fence.wide.inRound l) m Tryz.prog (roundEnd w.heap.size nb I Ix (pre ++ [x]) W) (a₁ x) W)
    (hdone : ∀ (D : Nat) (W : World), w.heap.size ≤ D → I xs W → W.heap[D]? = some (.deferred (some [])) → Q .normal { a with defers := { target := .collected D, args := #[] } :: a.defers } W)
    (hstop : ∀ (D : Nat) (c : Code) (pre : List Value) (W : World), w.heap.size ≤ D → pre <+: xs → Ix c pre W → W.heap[D]? = some (.deferred (some [])) → c.wpIn Fence.wide n Tryz.prog Q { a with defers := { target := .collected D, args := #[] } :: a.defers } W) :
    (Code.rangeFunc g #[p] assign body).wpIn Fence.wide n Tryz.prog Q a w := by
  refine wpIn_rangeFunc fun fn hfn => ?_
  show ∃ l mark w₁ d w₁' f args w₂, (Instr.enterLoop fn a.tmps #[p] assign body none).run Tryz.prog w = _ ∧ _
  obtain ⟨rec, hrec⟩ : ∃ rec : LoopState → Option Code → Loop, rec = fun st pe => { state := st, pending := pe, fn, tmps := a.tmps, params := #[p], assign, body, defers := w.heap.size } := ⟨_, rfl⟩
  obtain ⟨W1, hW1⟩ : ∃ W1, (w.alloc (.deferred (some []))).alloc (.loop (rec .ready none)) = W1 := ⟨_, rfl⟩
  have hL1 : W1.heap[w.heap.size + 1]? = some (.loop (rec .ready none)) := by
    rw [← hW1]; have := World.alloc_heap_new (w.alloc (.deferred (some []))) (.loop (rec .ready none)); rwa [World.size_alloc] at this
  have hK1 : W1.heap[w.heap.size]? = some (.deferred (some [])) := by
    rw [← hW1]; exact (Below.heap_alloc _ _ _ (by simp)).trans (World.alloc_heap_new w _)
  have hI1 : I [] W1 := by rw [← hW1]; exact hI.alloc _ (hI.alloc _ h0)
  have hN1 : W1.heap[nb]? = w0.heap[nb]? := by
    rw [← hb0, ← hW1]; exact (Below.heap_alloc _ _ _ (by simp; omega)).trans (Below.heap_alloc _ _ _ hnb)
  refine ⟨w.heap.size + 1, [{ target := .collected w.heap.size, args := #[] }], W1, { target := .fn (.func gf) lb, args := #[.func (.yield (w.heap.size + 1)) #[] #[]] }, W1, gf,
    #[.func (.yield (w.heap.size + 1)) #[] #[]] ++ lb, W1, ?_, ?_, fun _ _ => trivial, ?_, (fun h => by cases h), ?_⟩
  · rw [← hW1, hrec]; exact run_enterLoop_outer _ _ _ _ _
  · simp only [resolve, hg]
    simp [go_sem]
  · simp [invoke, go_sem, eg]
  · refine (hseq (w.heap.size + 1)
      (fun pre W => I pre W ∧ W.heap[w.heap.size + 1]? = some (.loop (rec .ready none)) ∧ W.heap[w.heap.size]? = some (.deferred (some [])))
      (fun pre W => ∃ c, Ix c pre W ∧ W.heap[w.heap.size + 1]? = some (.loop (rec .done (some c))) ∧ W.heap[w.heap.size]? = some (.deferred (some [])))
      W1 hN1
      (fun s A B hs hg' => ⟨hI s A B _ hs.1 hg' (.inl rfl), grown_keeps_put hg' hs.2.1 (by omega), grown_keeps_put hg' hs.2.2 (by omega)⟩)
      (fun s A B hs hg' => by
        obtain ⟨c, hc, hl, hk⟩ := hs
        exact ⟨c, hIx c s A B _ hc hg' (.inl rfl), grown_keeps_put hg' hl (by omega), grown_keeps_put hg' hk (by omega)⟩)
      ?_ ⟨hI1, hL1, hK1⟩ _).mono ?_
    · rintro pre x W hpre ⟨hi, hl, hk⟩ m
      have hlt : w.heap.size + 1 < W.heap.size := (Array.getElem?_eq_some_iff.1 hl).1
      have hy := run_yield (P := Tryz.prog) (args := #[x]) hl (by rw [hrec]; rfl)
      rw [hrec] at hy
      simp only [List.zip_toArray, List.zip_cons_cons, List.zip_nil_right, List.size_toArray, List.length_cons, List.length_nil, List.foldl_toArray, List.foldl_cons, List.foldl_nil] at hy
      refine ⟨fn, a.tmps.setIfInBounds p x, assign, body, hy, roundIn_of_wpIn trivial ?_⟩
      refine hassign _ x W m _ ?_
      refine ⟨_, run_beginRound hl (by rw [hrec]), ?_⟩
      have hl2 : (W.putObj (w.heap.size + 1) (.loop { rec .ready none with state := .busy })).heap[w.heap.size + 1]? = some (.loop { rec .ready none with state := .busy }) := World.putObj_heap_same hlt
      have hk2 : (W.putObj (w.heap.size + 1) (.loop { rec .ready none with state := .busy })).heap[w.heap.size]? = some (.deferred (some [])) := (World.putObj_heap_other (by omega)).trans hk
      have hn2 : (W.putObj (w.heap.size + 1) (.loop { rec .ready none with state := .busy })).heap[nb]? = W.heap[nb]? := World.putObj_heap_other (by omega)
      refine wpIn_mono (hbody _ m pre x _ hpre (hI.put _ hi (by omega) hl rfl) (by simp; omega)) ?_
      have fin : ∀ (jump : Option Code) (W3 : World), Spares w.heap.size nb (W.putObj (w.heap.size + 1) (.loop { rec .ready none with state := .busy })) W3 →
          (Instr.endRound (w.heap.size + 1) jump).run Tryz.prog W3 = .ok (.bool jump.isNone) (W3.putObj (w.heap.size + 1) (.loop (rec (if jump.isNone then .ready else .done) jump))) ∧
          W3.heap[w.heap.size + 1]? = some (.loop { rec .ready none with state := .busy }) ∧
          (W3.putObj (w.heap.size + 1) (.loop (rec (if jump.isNone then .ready else .done) jump))).heap[w.heap.size + 1]? = some (.loop (rec (if jump.isNone then .ready else .done) jump)) ∧
          (W3.putObj (w.heap.size + 1) (.loop (rec (if jump.isNone then .ready else .done) jump))).heap[w.heap.size]? = some (.deferred (some [])) ∧
          (W3.putObj (w.heap.size + 1) (.loop (rec (if jump.isNone then .ready else .done) jump))).heap[nb]? = W.heap[nb]? := fun jump W3 hk3 => by
        have hl3 := hk3.same _ _ (by omega) hl2 rfl
        have := run_endRound (P := Tryz.prog) jump hl3
        rw [hrec] at this ⊢
        exact ⟨this, by rw [hrec] at hl3; exact hl3, World.putObj_heap_same (Array.getElem?_eq_some_iff.1 hl3).1, (World.putObj_heap_other (by omega)).trans (hk3.same _ _ (by omega) hk2 rfl), (World.putObj_heap_other (by omega)).trans (hk3.kept.trans hn2)⟩
      rintro e a3 W3 hp
      cases e with
      | normal =>
        obtain ⟨hk3, hi3⟩ := hp
        obtain ⟨hr, hl3, hl4, hk4, hn4⟩ := fin none W3 hk3
        exact ⟨_, _, hr, .inl ⟨rfl, ⟨hI.put _ hi3 (by omega) hl3 rfl, hl4, hk4⟩, hn4⟩⟩
      | ret =>
        obtain ⟨hk3, hi3⟩ := hp
        obtain ⟨hr, hl3, hl4, hk4, hn4⟩ := fin (some .ret) W3 hk3
        exact ⟨_, _, hr, .inr ⟨rfl, .ret, (hIx _).put _ hi3 (by omega) hl3 rfl, hl4, hk4⟩⟩
      | exit id =>
        obtain ⟨hk3, hi3⟩ := hp
        obtain ⟨hr, hl3, hl4, hk4, hn4⟩ := fin (some (.exit id)) W3 hk3
        exact ⟨_, _, hr, .inr ⟨rfl, .exit id, (hIx _).put _ hi3 (by omega) hl3 rfl, hl4, hk4⟩⟩
      | goto t =>
        obtain ⟨hk3, hi3⟩ := hp
        obtain ⟨hr, hl3, hl4, hk4, hn4⟩ := fin (some (.goto t)) W3 hk3
        exact ⟨_, _, hr, .inr ⟨rfl, .goto t, (hIx _).put _ hi3 (by omega) hl3 rfl, hl4, hk4⟩⟩
      | panic ch => exact hp.elim
      | outgrown => exact hp.elim
    · rintro e W2 ⟨⟨v, rfl⟩, (⟨hi, hl, hk⟩ | ⟨pre, hSp, c, hi, hl, hk⟩)⟩
      · exact ⟨none, _, by have := run_endLoop (P := Tryz.prog) hl (by rw [hrec]; simp); rw [hrec] at this; exact this, hdone _ _ (Nat.le_refl _) (hI.put _ hi (by omega) hl rfl) ((World.putObj_heap_other (by omega)).trans hk)⟩
      · exact ⟨some c, _, by have := run_endLoop (P := Tryz.prog) hl (by rw [hrec]; simp); rw [hrec] at this; exact this, hstop _ c pre _ (Nat.le_refl _) hSp ((hIx c).put _ hi (by omega) hl rfl) ((World.putObj_heap_other (by omega)).trans hk)⟩

/-! ### The words of a text -/
theorem dropWhile_le (p : UInt8 → Bool) : ∀ l : Bytes, (l.dropWhile p).length ≤ l.length
  | [] => Nat.le_refl _
  | a :: l => by
    rw [List.dropWhile_cons]
    split
    · have := dropWhile_le p l; simp; omega
    · exact Nat.le_refl _
theorem dropWhile_head (p : UInt8 → Bool) : ∀ (l : Bytes) (a : UInt8) (r : Bytes), l.dropWhile p = a :: r → p a = false
  | [], _, _, h => by simp at h
  | b :: l, a, r, h => by
    rw [List.dropWhile_cons] at h
    split at h
    · exact dropWhile_head p l a r h
    · rename_i hb
      cases h
      simpa using hb
theorem trimLeftS_le (s : Bytes) : (Lib.trimLeftS s blanks).length ≤ s.length := dropWhile_le _ s
theorem dropWord_lt (s : Bytes) (hne : Lib.trimLeftS s blanks ≠ []) : ((Lib.trimLeftS s blanks).dropWhile (fun c => !isBlank c)).length < (Lib.trimLeftS s blanks).length := by
  cases h : Lib.trimLeftS s blanks with
  | nil => exact absurd h hne
  | cons a r =>
    have ha := dropWhile_head _ s a r h
    have hb : isBlank a = false := by rw [← contains_blank]; exact ha
    rw [List.dropWhile_cons]
    simp only [hb, Bool.not_false, if_true]
    have := dropWhile_le (fun c => !isBlank c) r
    simp; omega
theorem wordsF_more : ∀ (k m : Nat) (s : Bytes), s.length < k → s.length < m → wordsF k s = wordsF m s
  | 0, _, _, h, _ => by omega
  | _ + 1, 0, _, _, h => by omega
  | k + 1, m + 1, s, hk, hm => by
    unfold wordsF
    simp only
    split
    · rfl
    · rename_i hne
      have h1 := trimLeftS_le s
      have h2 : ((Lib.trimLeftS s blanks).dropWhile (fun c => !isBlank c)).length < (Lib.trimLeftS s blanks).length := dropWord_lt s hne
      rw [wordsF_more k m _ (by omega) (by omega)]

theorem wordsB_eq (s : Bytes) : wordsB s = if Lib.trimLeftS s blanks = [] then [] else (Lib.trimLeftS s blanks).take (wordEnd (Lib.trimLeftS s blanks)) :: wordsB ((Lib.trimLeftS s blanks).drop (wordEnd (Lib.trimLeftS s blanks))) := by
  unfold wordsB
  conv => lhs; unfold wordsF
  simp only [(wordEnd_split _).1, (wordEnd_split _).2]
  split
  · rfl
  · rename_i hne
    have h1 := trimLeftS_le s
    have h2 := dropWord_lt s hne
    rw [(wordEnd_split _).2] at h2
    rw [wordsF_more s.length _ _ (by omega) (Nat.lt_succ_self _)]

/-- How long the text in a block is. -/
def boxLen (w : World) (nb : Nat) : Nat := match w.cell? ⟨nb, 0, none⟩ with | some (.string b) => b.size | _ => 0
theorem boxLen_eq {w : World} {nb : Nat} {s : Bytes} (h : Blk w nb 9 #[.string (B s)]) : boxLen w nb = s.length := by
  unfold boxLen
  rw [(Blk.c h).1 0]
  exact B_size s

set_option maxRecDepth 100000 in
set_option maxHeartbeats 1000000 in
theorem words_gives (s : Bytes) (nb : Nat) (w : World) (hw : Blk w nb 9 #[.string (B s)]) (hs : s.length < 4294967281) :
    Gives 232 #[.pointer (some ⟨nb, 0, none⟩)] nb (strCells (wordsB s)) w := by
  intro l J Jx W hnb hJ hJx hY h0 n
  have hW : Blk W nb 9 #[.string (B s)] := hnb.trans hw
  have HJ := Lib.hid hJ
  have HJx := Lib.hid hJx
  have HY := Lib.hid hY
  clear hJ hJx hY hnb hw
  refine callsIn_of_wp Tryz.func232 rfl trivial ?_ rfl
  simp only [Tryz.ntmps232, List.size_toArray, List.length_cons, List.length_nil, Nat.reduceAdd, Nat.reduceSub, Array.replicate_succ, Array.replicate_zero, List.push_toArray, List.append_toArray, List.nil_append, List.cons_append]
  gi_wp2
  gi_loopw [3] (fun _ wr => ∃ (pre : List Value) (rest : Bytes), strCells (wordsB s) = pre ++ strCells (wordsB rest) ∧ rest.length ≤ s.length ∧ Blk wr nb 9 #[.string (B rest)] ∧ J pre wr)
    (fun _ wr => boxLen wr nb)
  case atStart => exact ⟨[], s, rfl, Nat.le_refl _, hW, h0⟩
  case round =>
    obtain ⟨pre, rest, hp, hr, hb, hj⟩ := hrel
    have HP := Lib.hid hp
    have HB := Lib.hid hb
    have HJ0 := Lib.hid hj
    clear hp hj
    obtain ⟨b1, b2, b3⟩ := hb.c
    have hl := trimLeftS_le rest
    have hcut := wordsB_eq rest
    have HC := Lib.hid hcut
    clear hb hcut
    gi_wp2_with fail
    refine ⟨trivial, (fun h => by cases h), (callsIn_wide.2 (trimLeft_any rest wr)).mono ?_⟩
    rintro e w1 ⟨rfl, hb1⟩
    obtain ⟨t, ht⟩ : ∃ t, Lib.trimLeftS rest blanks = t := ⟨_, rfl⟩
    have HD : Hid (t ≠ [] → (t.drop (wordEnd t)).length < t.length) := Lib.hid (by
      rw [← ht, ← (wordEnd_split _).2]; exact dropWord_lt rest)
    rw [ht] at hl HC ⊢
    clear ht
    have HB1 := Lib.hid (HB.out.below hb1)
    have HG1 := Lib.hid (below_grown hb1 (some nb))
    obtain ⟨c1, c2, c3⟩ := HB1.out.c
    clear b1 b2 hb1
    gi_wp2_with fail
    have HB2 := Lib.hid (HB1.out.set_ 0 (.string (B t)))
    have HG2 := Lib.hid (grown_trans HG1.out (grownBy_setCell' w1 nb (.string (B t))))
    generalize w1.setCell ⟨nb, 0, none⟩ (.string (B t)) = w2 at *
    clear c1 c2
    refine ⟨trivial, (fun h => by cases h), (callsIn_wide.2 (indexAny_any t w2 (by omega))).mono ?_⟩
    rintro e w3 ⟨rfl, hb3⟩
    have HB3 := Lib.hid (HB2.out.below hb3)
    have HG3 := Lib.hid (grown_trans HG2.out (below_grown hb3 (some nb)))
    have HJ3 := Lib.hid (HJ.out pre wr w3 HJ0.out HG3.out)
    obtain ⟨d1, d2, d3⟩ := HB3.out.c
    clear hb3
    by_cases h0 : t = []
    · subst h0
      have HE : Hid (wordsB rest = []) := Lib.hid (by rw [HC.out]; simp)
      gi_wp2
      refine ⟨(fun _ h => by cases h), ?_⟩
      gi_wp2
      refine bodyPost_ret (results_none rfl _ _ _) rfl ?_
      exact ⟨⟨_, rfl⟩, .inl (by rw [HP.out, HE.out]; simpa [strCells] using HJ3.out)⟩
    · have he : (B t).toList.isEmpty = false := by rw [B_toList]; cases t; exact absurd rfl h0; rfl
      have he' : t.isEmpty = false := by cases t; exact absurd rfl h0; rfl
      have HN : Hid (wordsB rest = t.take (wordEnd t) :: wordsB (t.drop (wordEnd t))) := Lib.hid (by rw [HC.out, if_neg h0])
      have HX := Lib.hid (HY.out pre (.string (B (t.take (wordEnd t)))) w3 (by rw [HP.out, HN.out]; exact ⟨strCells (wordsB (t.drop (wordEnd t))), by simp [strCells]⟩) HJ3.out)
      have HP2 : Hid (strCells (wordsB s) = (pre ++ [Value.string (B (t.take (wordEnd t)))]) ++ strCells (wordsB (t.drop (wordEnd t)))) := Lib.hid (by rw [HP.out, HN.out]; simp [strCells])
      have hle := wordEnd_le t
      have HLT : Hid (0 < wordEnd t) := Lib.hid (by
        have := HD.out h0
        rw [List.length_drop] at this
        omega)
      rcases indexAny_cases blanks t with ⟨h1, _⟩ | ⟨k, h1, hk, _, _⟩
      · have hwe : wordEnd t = t.length := by unfold wordEnd; rw [h1]; rfl
        rw [hwe] at HX HP2 HN HLT
        clear hwe hle
        rw [h1]
        rw [List.take_length] at HX HP2
        obtain ⟨fn, tmps, assign, body, hy, hR⟩ := HX.out _
        gi_wp2
        refine ⟨(fun h => by cases h), hR.mono ?_⟩
        rintro e w4 (⟨rfl, hj4, hk4⟩ | ⟨rfl, hjx⟩)
        · have HB4 := Lib.hid (hk4.trans HB3.out)
          obtain ⟨f1, f2, f3⟩ := Blk.c HB4.out
          have HJ4 := Lib.hid hj4
          clear d1 d2 d3 hk4 hj4
          have HB5 : Hid (Blk (w4.setCell ⟨nb, 0, none⟩ (.string ByteArray.empty)) nb 9 #[.string (B [])]) := Lib.hid (Blk.set_ HB4.out 0 _)
          gi_wp2
          go_roundw
          case rel => exact ⟨_, [], by rw [HP2.out, List.drop_length], by simp, HB5.out, HJ.out _ _ _ HJ4.out (grownBy_setCell' _ _ _)⟩
          case measure =>
            rw [boxLen_eq HB5.out, boxLen_eq HB.out]
            have := HLT.out
            simp; omega
        · gi_wp2
          refine bodyPost_ret (results_none rfl _ _ _) rfl ?_
          exact ⟨⟨_, rfl⟩, .inr ⟨_, ⟨_, HP2.out.symm⟩, hjx⟩⟩
      · have hwe : wordEnd t = k := by unfold wordEnd; rw [h1, if_neg (natCast_not_neg k)]; rfl
        rw [hwe] at HX HP2 HN HLT
        clear hwe hle
        rw [h1]
        have hk0 : (0 : Int) ≤ (k : Int) := by omega
        have hk1 : (k : Int) ≤ (t.length : Int) := by omega
        obtain ⟨fn, tmps, assign, body, hy, hR⟩ := HX.out _
        gi_wp2
        refine ⟨(fun h => by cases h), hR.mono ?_⟩
        rintro e w4 (⟨rfl, hj4, hk4⟩ | ⟨rfl, hjx⟩)
        · have HB4 := Lib.hid (hk4.trans HB3.out)
          obtain ⟨f1, f2, f3⟩ := Blk.c HB4.out
          have HJ4 := Lib.hid hj4
          clear d1 d2 d3 hk4 hj4
          have HB5 : Hid (Blk (w4.setCell ⟨nb, 0, none⟩ (.string (B (t.drop k)))) nb 9 #[.string (B (t.drop k))]) := Lib.hid (Blk.set_ HB4.out 0 _)
          gi_wp2
          go_roundw
          case rel => exact ⟨_, _, HP2.out, by simp; omega, HB5.out, HJ.out _ _ _ HJ4.out (grownBy_setCell' _ _ _)⟩
          case measure =>
            rw [boxLen_eq HB5.out, boxLen_eq HB.out]
            have := HLT.out
            simp; omega
        · gi_wp2
          refine bodyPost_ret (results_none rfl _ _ _) rfl ?_
          exact ⟨⟨_, rfl⟩, .inr ⟨_, ⟨_, HP2.out.symm⟩, hjx⟩⟩
end Go.Proofs.YtopkcgdfebkbaaaGreatDoor
