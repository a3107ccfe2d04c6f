/- Plain law: VarsAppend; what texts without a dollar sign, and references to one letter, come to. -/
import Derived.Test.YtopkcgdfebkbaaaGreatDoorPA
import Derived.Lib.IndexLaws
import Derived.KernelRfl
set_option linter.unusedVariables false
set_option linter.unusedSimpArgs false
namespace Go.Proofs.YtopkcgdfebkbaaaGreatDoor
open Go

theorem index_no {s : Bytes} {c : UInt8} (h : c ∉ s) : Lib.index s [c] = -1 := by
  induction s with
  | nil => rfl
  | cons x s ih =>
    have hx : (c == x) = false := by rw [beq_eq_false_iff_ne]; intro e; exact h (by simp [e])
    have := ih (fun e => h (by simp [e]))
    simp [Lib.index, List.isPrefixOf, hx, this]
theorem index_at {p q : Bytes} {c : UInt8} (h : c ∉ p) : Lib.index (p ++ c :: q) [c] = p.length := by
  induction p with
  | nil => simp [Lib.index, List.isPrefixOf]
  | cons x p ih =>
    have hx : (c == x) = false := by rw [beq_eq_false_iff_ne]; intro e; exact h (by simp [e])
    have := ih (fun e => h (by simp [e]))
    have h2 : ((p.length : Int) == -1) = false := by rw [beq_eq_false_iff_ne]; omega
    simp [Lib.index, List.isPrefixOf, hx, this, h2]
theorem cut_no {s : Bytes} {c : UInt8} (h : c ∉ s) : Lib.cut s [c] = (s, [], false) := by
  unfold Lib.cut
  rw [index_no h]
  rfl
theorem cut_at {p q : Bytes} {c : UInt8} (h : c ∉ p) : Lib.cut (p ++ c :: q) [c] = (p, q, true) := by
  unfold Lib.cut
  rw [index_at h]
  simp

theorem scan_plain (rf vl : Bytes → St Bytes) (k : Nat) (t acc : Bytes) (h : (36 : UInt8) ∉ t) : scanF rf vl (k + 1) t acc = shortS (acc ++ t) := by
  unfold scanF
  rw [cut_no h]
  rfl
theorem lev_plain (cf : CallF) (d : Nat) (v : List Var) (t : Bytes) (h : (36 : UInt8) ∉ t) : (lev cf d).ex v t = shortS t := by
  cases d <;> exact scan_plain _ _ _ _ _ h

theorem scan_ref (rf vl : Bytes → St Bytes) (k : Nat) (p acc x : Bytes) (c : UInt8) (h : (36 : UInt8) ∉ p) (hc : innerB (36 :: 40 :: c :: x) = some ([c], [])) :
    scanF rf vl (k + 2) (p ++ 36 :: 40 :: c :: x) acc = andS (rf [c]) fun y => shortS (acc ++ p ++ y) := by
  unfold scanF
  rw [cut_at h]
  simp only [if_true]
  rw [if_neg (by decide), if_pos (by decide), hc]
  simp only
  congr 1
  funext y
  rw [scan_plain _ _ _ _ _ (by simp)]
  simp

/-- The letters that the law names. -/
def Letter (c : UInt8) : Prop := c = 113 ∨ c = 114 ∨ c = 115 ∨ c = 110
theorem letter_inner {c : UInt8} (h : Letter c) : innerB [36, 40, c, 41] = some ([c], []) := by rcases h with rfl | rfl | rfl | rfl <;> decide
theorem letter_any {c : UInt8} (h : Letter c) : Lib.indexAny [c] blanks = -1 := by rcases h with rfl | rfl | rfl | rfl <;> decide
theorem letter_cut {c : UInt8} (h : Letter c) : cutB [c] [[58]] = ([c], [], []) := by rcases h with rfl | rfl | rfl | rfl <;> decide
theorem letter_dollar {c : UInt8} (h : Letter c) : (36 : UInt8) ∉ [c] := by rcases h with rfl | rfl | rfl | rfl <;> decide

theorem short_ok {b : Bytes} (h : b.length ≤ 4000) : shortS b = okS b := by
  unfold shortS
  rw [if_neg (by omega)]
theorem and_ok {α β : Type} (a : α) (f : α → St β) (n : Nat) : andS (okS a) f n = f a n := rfl
theorem step_ok {β : Type} (f : Unit → St β) (n : Nat) (h : n < 2000) : andS stepS f n = f () (n + 1) := by
  unfold andS stepS
  rw [if_neg (by omega)]

theorem refer_letter (cf : CallF) (d : Nat) (v : List Var) (c : UInt8) (h : Letter c) (m : Nat) (hm : m < 2000) : referB cf (some (lev cf d)) v [c] m = (lev cf d).vl v [c] (m + 1) := by
  show andS stepS (fun _ => referIn cf (lev cf d) v [c]) m = _
  rw [step_ok _ _ hm]
  unfold referIn
  rw [letter_any h]
  simp only
  rw [if_neg (by decide)]
  unfold namedB
  rw [letter_cut h]
  simp only
  rw [if_neg (by simp), lev_plain _ _ _ _ (letter_dollar h), short_ok (by simp)]
  rfl
theorem lev_ref (cf : CallF) (d : Nat) (v : List Var) (p : Bytes) (c : UInt8) (hc : Letter c) (hp : (36 : UInt8) ∉ p) (m : Nat) (hm : m < 2000) :
    (lev cf (d + 1)).ex v (p ++ [36, 40, c, 41]) m = andS ((lev cf d).vl v [c]) (fun y => shortS (p ++ y)) (m + 1) := by
  show scanF (referB cf (some (lev cf d)) v) _ ((p ++ [36, 40, c, 41]).length + 1) (p ++ [36, 40, c, 41]) [] m = _
  have hl : (p ++ [36, 40, c, 41]).length + 1 = p.length + 3 + 2 := by simp
  rw [hl, scan_ref _ _ _ _ _ _ _ hp (letter_inner hc)]
  unfold andS
  rw [refer_letter cf d v c hc m hm]
  rfl

theorem vl_simple (cf : CallF) (d : Nat) (v : List Var) (n : Bytes) (x : Var) (h : getV v n = some x) (hs : x.simple = true) : (lev cf d).vl v n = okS x.text := by
  cases d with
  | zero => show valueB none v n = _; unfold valueB; rw [h]; simp [hs]
  | succ d => show valueB (some (lev cf d).ex) v n = _; unfold valueB; rw [h]; simp [hs]
theorem vl_late (cf : CallF) (d : Nat) (v : List Var) (n : Bytes) (x : Var) (h : getV v n = some x) (hs : x.simple = false) (m : Nat) (hm : m < 2000) : (lev cf (d + 1)).vl v n m = (lev cf d).ex v x.text (m + 1) := by
  show valueB (some (lev cf d).ex) v n m = _
  unfold valueB
  rw [h]
  simp only [hs]
  exact step_ok _ _ hm

/-- A reference to a simple variable; to one whose text has no dollar sign; to one whose text refers to such a one at its end. -/
theorem ex_simple (cf : CallF) (d : Nat) (v : List Var) (p : Bytes) (c : UInt8) (hc : Letter c) (hp : (36 : UInt8) ∉ p) (m : Nat) (hm : m < 2000) (x : Var) (h : getV v [c] = some x) (hs : x.simple = true) (hl : (p ++ x.text).length ≤ 4000) :
    (lev cf (d + 1)).ex v (p ++ [36, 40, c, 41]) m = some (.ok (p ++ x.text), m + 1) := by
  rw [lev_ref cf d v p c hc hp m hm, vl_simple cf d v _ x h hs, and_ok, short_ok hl]
  rfl
theorem ex_late (cf : CallF) (d : Nat) (v : List Var) (p : Bytes) (c : UInt8) (hc : Letter c) (hp : (36 : UInt8) ∉ p) (m k : Nat) (hm : m + 1 < 2000) (x : Var) (h : getV v [c] = some x) (hs : x.simple = false) (y : Bytes) (hy : (lev cf d).ex v x.text (m + 2) = some (.ok y, k)) (hl : (p ++ y).length ≤ 4000) :
    (lev cf (d + 2)).ex v (p ++ [36, 40, c, 41]) m = some (.ok (p ++ y), k) := by
  rw [lev_ref cf (d + 1) v p c hc hp m (by omega)]
  unfold andS
  rw [vl_late cf d v _ x h hs (m + 1) hm, hy]
  simp only
  rw [short_ok hl]
  rfl
theorem ex_plain (cf : CallF) (d : Nat) (v : List Var) (t : Bytes) (h : (36 : UInt8) ∉ t) (hl : t.length ≤ 4000) (m : Nat) : (lev cf d).ex v t m = some (.ok t, m) := by
  rw [lev_plain cf d v t h, short_ok hl]
  rfl

/-- The variables of the law. -/
def vQ : Bytes := [113]
def vR : Bytes := [114]
def vS : Bytes := [115]
def vN : Bytes := [110]
def refB (c : UInt8) : Bytes := [36, 40, c, 41]
def ap0 (a b : Bytes) : List Var := insV ⟨vR, a, false⟩ (insV ⟨vS, a, true⟩ (insV ⟨vQ, b, false⟩ []))
def ap1 (a b : Bytes) : List Var := [⟨vQ, b, false⟩, ⟨vR, a, false⟩, ⟨vS, a ++ 32 :: b, true⟩]
def ap2 (a b : Bytes) : List Var := [⟨vQ, b, false⟩, ⟨vR, a ++ 32 :: refB 113, false⟩, ⟨vS, a ++ 32 :: b, true⟩]
def ap3 (a b c : Bytes) : List Var := [⟨vQ, c, false⟩, ⟨vR, a ++ 32 :: refB 113, false⟩, ⟨vS, a ++ 32 :: b, true⟩]
def ap4 (a b c : Bytes) : List Var := [⟨vN, c, false⟩, ⟨vQ, c, false⟩, ⟨vR, a ++ 32 :: refB 113, false⟩, ⟨vS, a ++ 32 :: b, true⟩]

theorem ap0_eq (a b : Bytes) : ap0 a b = [⟨vQ, b, false⟩, ⟨vR, a, false⟩, ⟨vS, a, true⟩] := rfl
theorem late_plain (cf : CallF) (d : Nat) (v : List Var) (p : Bytes) (c : UInt8) (hc : Letter c) (hp : (36 : UInt8) ∉ p) (m : Nat) (hm : m + 1 < 2000) (x : Var) (h : getV v [c] = some x) (hs : x.simple = false) (hx : (36 : UInt8) ∉ x.text) (hl : (p ++ x.text).length ≤ 4000) :
    (lev cf (d + 2)).ex v (p ++ refB c) m = some (.ok (p ++ x.text), m + 2) :=
  ex_late cf d v p c hc hp m (m + 2) hm x h hs x.text (ex_plain cf d v _ hx (by simp at hl; omega) _) hl

theorem ap_w (cf : CallF) (a b : Bytes) (hb : (36 : UInt8) ∉ b) (hlb : b.length ≤ 200) : assignB cf (ap0 a b) vS [43, 61] (refB 113) = some (.ok (ap1 a b)) := by
  have e : expandB cf (ap0 a b) (refB 113) = some (.ok b) := by
    unfold expandB
    rw [show refB 113 = [] ++ refB 113 from rfl, late_plain cf 18 _ [] 113 (.inl rfl) (by simp) 0 (by decide) ⟨vQ, b, false⟩ rfl rfl hb (by simp; omega)]
    rfl
  unfold assignB
  rw [if_pos (by decide), if_neg (by decide), if_neg (by decide), if_neg (by decide), if_pos rfl, show getV (ap0 a b) vS = some ⟨vS, a, true⟩ from rfl]
  simp only [if_true]
  rw [e]
  rfl
theorem ap_x (cf : CallF) (a b : Bytes) : assignB cf (ap1 a b) vR [43, 61] (refB 113) = some (.ok (ap2 a b)) := by
  unfold assignB
  rw [if_pos (by decide), if_neg (by decide), if_neg (by decide), if_neg (by decide), if_pos rfl]
  rfl
theorem ap_y (cf : CallF) (a b c : Bytes) : assignB cf (ap2 a b) vQ [61] c = some (.ok (ap3 a b c)) := by
  unfold assignB
  rw [if_pos (by decide), if_pos rfl]
  rfl
theorem ap_z (cf : CallF) (a b c : Bytes) : assignB cf (ap3 a b c) vN [43, 61] c = some (.ok (ap4 a b c)) := by
  unfold assignB
  rw [if_pos (by decide), if_neg (by decide), if_neg (by decide), if_neg (by decide), if_pos rfl]
  rfl

theorem ap_zs (cf : CallF) (a b c : Bytes) (ha : a.length ≤ 200) (hb : b.length ≤ 200) : expandB cf (ap4 a b c) (refB 115) = some (.ok (a ++ 32 :: b)) := by
  unfold expandB
  rw [show refB 115 = [] ++ [36, 40, 115, 41] from rfl, ex_simple cf 19 _ [] 115 (.inr (.inr (.inl rfl))) (by simp) 0 (by decide) ⟨vS, a ++ 32 :: b, true⟩ rfl rfl (by simp; omega)]
  rfl
theorem ap_r (cf : CallF) (v : List Var) (a y : Bytes) (ha : a.length ≤ 200) (hy : y.length ≤ 200) (ha2 : (36 : UInt8) ∉ a) (hy2 : (36 : UInt8) ∉ y) (hr : getV v vR = some ⟨vR, a ++ 32 :: refB 113, false⟩) (hq : getV v vQ = some ⟨vQ, y, false⟩) :
    expandB cf v (refB 114) = some (.ok (a ++ 32 :: y)) := by
  have hp : (36 : UInt8) ∉ a ++ [32] := by simp [ha2]
  have h1 := late_plain cf 16 v (a ++ [32]) 113 (.inl rfl) hp 2 (by decide) ⟨vQ, y, false⟩ hq rfl hy2 (by simp; omega)
  have e1 : (a ++ [32]) ++ refB 113 = a ++ 32 :: refB 113 := by simp
  have e2 : (a ++ [32]) ++ y = a ++ 32 :: y := by simp
  rw [e1] at h1
  simp only at h1
  rw [e2] at h1
  unfold expandB
  rw [show refB 114 = [] ++ [36, 40, 114, 41] from rfl, ex_late cf 18 v [] 114 (.inr (.inl rfl)) (by simp) 0 _ (by decide) _ hr rfl _ h1 (by simp; omega)]
  rfl
theorem ap_zn (cf : CallF) (a b c : Bytes) (hc : c.length ≤ 200) (hc2 : (36 : UInt8) ∉ c) : expandB cf (ap4 a b c) (refB 110) = some (.ok c) := by
  unfold expandB
  rw [show refB 110 = [] ++ refB 110 from rfl, late_plain cf 18 _ [] 110 (.inr (.inr (.inr rfl))) (by simp) 0 (by decide) ⟨vN, c, false⟩ rfl rfl hc2 (by simp; omega)]
  rfl

/-! ### Chapter 11's examples -/
def noCall : CallF := fun _ _ => none
/-- a: 'x $(b)'; b: 'y', simple; s: 'p.c q.c', simple; f: '$(2)$(1)'. -/
def shV : List Var := insV ⟨[102], [36, 40, 50, 41, 36, 40, 49, 41], false⟩ (insV ⟨[115], [112, 46, 99, 32, 113, 46, 99], true⟩ (insV ⟨[98], [121], true⟩ (insV ⟨[97], [120, 32, 36, 40, 98, 41], false⟩ [])))
/-- '$(a) $b$$' -/
def sh1 : Bytes := [36, 40, 97, 41, 32, 36, 98, 36, 36]
/-- '$(s:.c=.o) $(foreach i,$(s),<$(i)>)' -/
def sh2 : Bytes := [36, 40, 115, 58, 46, 99, 61, 46, 111, 41, 32, 36, 40, 102, 111, 114, 101, 97, 99, 104, 32, 105, 44, 36, 40, 115, 41, 44, 60, 36, 40, 105, 41, 62, 41]
/-- '$(call f,a,b)' -/
def sh3 : Bytes := [36, 40, 99, 97, 108, 108, 32, 102, 44, 97, 44, 98, 41]
/-- '$(if ,x,y)' -/
def sh4 : Bytes := [36, 40, 105, 102, 32, 44, 120, 44, 121, 41]
theorem sh1_eq : expandB noCall shV sh1 = some (.ok [120, 32, 121, 32, 121, 36]) := by kernel_rfl
theorem sh2_eq : expandB noCall shV sh2 = some (.ok [112, 46, 111, 32, 113, 46, 111, 32, 60, 112, 46, 99, 62, 32, 60, 113, 46, 99, 62]) := by kernel_rfl
theorem sh3_eq : expandB noCall shV sh3 = some (.ok [98, 97]) := by kernel_rfl
theorem sh4_eq : expandB noCall shV sh4 = some (.ok [121]) := by kernel_rfl
end Go.Proofs.YtopkcgdfebkbaaaGreatDoor
