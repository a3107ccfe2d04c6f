/- Plain laws: texts in order; variables that stand in order, and one more put in. -/
import Derived.Test.YtopkcgdfebkbaaaGreatDoorPure
set_option linter.unusedVariables false
set_option linter.unusedSimpArgs false
namespace Go.Proofs.YtopkcgdfebkbaaaGreatDoor
open Go

theorem less_irr : ∀ a : Bytes, Op.bytesLess a a = false := by
  intro a
  induction a with
  | nil => rfl
  | cons x a ih => simp [Op.bytesLess, ih]
theorem less_trans : ∀ {a b c : Bytes}, Op.bytesLess a b = true → Op.bytesLess b c = true → Op.bytesLess a c = true := by
  intro a
  induction a with
  | nil =>
    intro b c h1 h2
    cases c with
    | nil => cases b <;> simp [Op.bytesLess] at h2
    | cons z c => rfl
  | cons x a ih =>
    intro b c h1 h2
    cases b with
    | nil => simp [Op.bytesLess] at h1
    | cons y b =>
      cases c with
      | nil => simp [Op.bytesLess] at h2
      | cons z c =>
        simp only [Op.bytesLess, Bool.or_eq_true, decide_eq_true_eq, Bool.and_eq_true, beq_iff_eq] at h1 h2 ⊢
        rcases h1 with h1 | ⟨rfl, h1⟩
        · rcases h2 with h2 | ⟨rfl, h2⟩
          · exact .inl (UInt8.lt_trans h1 h2)
          · exact .inl h1
        · rcases h2 with h2 | ⟨rfl, h2⟩
          · exact .inl h2
          · exact .inr ⟨rfl, ih h1 h2⟩
theorem less_tri : ∀ {a b : Bytes}, Op.bytesLess a b = false → a ≠ b → Op.bytesLess b a = true := by
  intro a
  induction a with
  | nil =>
    intro b h1 h2
    cases b with
    | nil => exact absurd rfl h2
    | cons y b => simp [Op.bytesLess] at h1
  | cons x a ih =>
    intro b h1 h2
    cases b with
    | nil => rfl
    | cons y b =>
      simp only [Op.bytesLess, Bool.or_eq_false_iff, decide_eq_false_iff_not, Bool.and_eq_false_iff, beq_eq_false_iff_ne] at h1
      simp only [Op.bytesLess, Bool.or_eq_true, decide_eq_true_eq, Bool.and_eq_true, beq_iff_eq]
      obtain ⟨h3, h4⟩ := h1
      by_cases h : y < x
      · exact .inl h
      · have hxy : x = y := UInt8.le_antisymm (UInt8.not_lt.1 h) (UInt8.not_lt.1 h3)
        subst hxy
        refine .inr ⟨rfl, ih ?_ (fun e => h2 (by rw [e]))⟩
        rcases h4 with h4 | h4
        · exact absurd rfl h4
        · exact h4
theorem less_asymm {a b : Bytes} (h : Op.bytesLess a b = true) : Op.bytesLess b a = false := by
  cases h2 : Op.bytesLess b a with
  | false => rfl
  | true => have := less_trans h h2; rw [less_irr] at this; cases this

/-- Variables that stand in order, each name once. -/
def InOrder (l : List Var) : Prop := l.Pairwise fun a b => Op.bytesLess a.name b.name = true

/-- Where a name stands among variables that stand in order. -/
structure Stands (l : List Var) (name : Bytes) (p : Nat) : Prop where
  le : p ≤ l.length
  ahead : ∀ (j : Nat) (x : Var), j < p → l[j]? = some x → Op.bytesLess x.name name = true
  behind : ∀ (j : Nat) (x : Var), p ≤ j → l[j]? = some x → Op.bytesLess x.name name = false
def isAt (l : List Var) (name : Bytes) (p : Nat) : Bool := match l[p]? with | none => false | some x => x.name == name

theorem InOrder.tail {x : Var} {l : List Var} (h : InOrder (x :: l)) : InOrder l := (List.pairwise_cons.1 h).2
theorem InOrder.head {x : Var} {l : List Var} (h : InOrder (x :: l)) : ∀ y ∈ l, Op.bytesLess x.name y.name = true := (List.pairwise_cons.1 h).1

theorem stands_of (l : List Var) (n : Bytes) (h : InOrder l) : ∃ p, Stands l n p ∧ ∀ x : Var, x.name = n → (isAt l n p = true → p < l.length ∧ insV x l = l.set p x) ∧ (isAt l n p = false → insV x l = l.take p ++ x :: l.drop p) := by
  induction l with
  | nil => exact ⟨0, ⟨Nat.le_refl _, fun _ _ h => by omega, fun j x _ h => by simp at h⟩, fun x _ => ⟨fun h => by simp [isAt] at h, fun _ => rfl⟩⟩
  | cons y l ih =>
    cases hy : Op.bytesLess y.name n with
    | true =>
      obtain ⟨p, hp, hx⟩ := ih h.tail
      refine ⟨p + 1, ⟨by simpa using hp.le, ?_, ?_⟩, ?_⟩
      · intro j x hj hxj
        cases j with
        | zero => simp at hxj; subst hxj; exact hy
        | succ j => exact hp.ahead j x (by omega) (by simpa using hxj)
      · intro j x hj hxj
        cases j with
        | zero => omega
        | succ j => exact hp.behind j x (by omega) (by simpa using hxj)
      · intro x hxn
        have e : insV x (y :: l) = y :: insV x l := by simp only [insV, hxn, hy, if_true]
        obtain ⟨a, b⟩ := hx x hxn
        refine ⟨fun hat => ?_, fun hat => ?_⟩
        · have := a (by simpa [isAt] using hat)
          rw [e, this.2]
          exact ⟨by simpa using this.1, by simp⟩
        · have := b (by simpa [isAt] using hat)
          rw [e, this]; simp
    | false =>
      refine ⟨0, ⟨Nat.zero_le _, fun _ _ h => by omega, ?_⟩, ?_⟩
      · intro j x _ hxj
        cases j with
        | zero => simp at hxj; subst hxj; exact hy
        | succ j =>
          have hm : x ∈ l := List.mem_of_getElem? (by simpa using hxj)
          have h1 := h.head x hm
          cases h2 : Op.bytesLess x.name n with
          | false => rfl
          | true => have := less_trans h1 h2; rw [hy] at this; cases this
      · intro x hxn
        refine ⟨fun hat => ?_, fun hat => ?_⟩
        · have hyn : y.name = n := by simpa [isAt] using hat
          refine ⟨by simp, ?_⟩
          simp [insV, hxn, hyn, less_irr]
        · have hyn : y.name ≠ n := by simpa [isAt] using hat
          simp [insV, hxn, hy, hyn]

theorem insV_mem {x z : Var} : ∀ {l : List Var}, z ∈ insV x l → z = x ∨ z ∈ l := by
  intro l
  induction l with
  | nil => intro h; simpa [insV] using h
  | cons y l ih =>
    intro h
    simp only [insV] at h
    split at h
    · rcases List.mem_cons.1 h with h | h
      · exact .inr (by simp [h])
      · rcases ih h with h | h
        · exact .inl h
        · exact .inr (by simp [h])
    · split at h
      · rcases List.mem_cons.1 h with h | h
        · exact .inl h
        · exact .inr (by simp [h])
      · rcases List.mem_cons.1 h with h | h
        · exact .inl h
        · exact .inr h
theorem insV_order (x : Var) : ∀ {l : List Var}, InOrder l → InOrder (insV x l) := by
  intro l
  induction l with
  | nil => intro _; exact List.pairwise_singleton _ _
  | cons y l ih =>
    intro h
    simp only [insV]
    split
    · rename_i hy
      refine List.pairwise_cons.2 ⟨fun z hz => ?_, ih h.tail⟩
      rcases insV_mem hz with rfl | hz
      · exact hy
      · exact h.head z hz
    · rename_i hy
      have hy' : Op.bytesLess y.name x.name = false := by simpa using hy
      split
      · rename_i he
        exact List.pairwise_cons.2 ⟨fun z hz => by rw [← he]; exact h.head z hz, h.tail⟩
      · rename_i he
        have hxy := less_tri hy' he
        refine List.pairwise_cons.2 ⟨fun z hz => ?_, h⟩
        rcases List.mem_cons.1 hz with rfl | hz
        · exact hxy
        · exact less_trans hxy (h.head z hz)
theorem insV_length (x : Var) : ∀ (l : List Var), (insV x l).length ≤ l.length + 1 := by
  intro l
  induction l with
  | nil => simp [insV]
  | cons y l ih =>
    simp only [insV]
    split
    · simpa using ih
    · split <;> simp
end Go.Proofs.YtopkcgdfebkbaaaGreatDoor
