/- Walks: all functions; all levels; Expand. -/
import Derived.Test.YtopkcgdfebkbaaaGreatDoorW26
import Derived.Test.YtopkcgdfebkbaaaGreatDoorW27
import Derived.Test.YtopkcgdfebkbaaaGreatDoorW28
set_option linter.unusedVariables false
set_option linter.unusedSimpArgs false
namespace Go.Proofs.YtopkcgdfebkbaaaGreatDoor
open Go.RowKit
attribute [local go_sem] B_size B_toList B_extract B_append drop_take_all

theorem function_owes (cf : CallF) (hC : OwesC cf) (L : Lev) (D K : Nat) (hE : ∀ K', K' ≤ K + 10 → Owes 51 L.ex D K') (fE : ∀ K, Fit 4000 L.ex K) (hK : K ≤ 10000) : OwesF (functionB cf L) D K := by
  intro v A N C sb n w name l A1 C1 r n' hv henv hc hn hnl hlx h0 h1 h2 hr hf
  by_cases hif : name = sIf
  · subst hif
    have e : takesB sIf = (2, 3) := by decide
    rw [e] at h1 h2
    exact function_if cf L D K (hE K (by omega)) (fE K) v A N C sb n w l A1 C1 r n' hv henv hc hn hlx h1 h2 hr hf
  · by_cases hfe : name = sForeach
    · subst hfe
      have e : takesB sForeach = (3, 3) := by decide
      rw [e] at h1 h2
      match l, h1, h2, hlx, hr, hf with
      | [a, b, c], _, _, hlx, hr, hf => exact function_foreach cf L D K (hE K (by omega)) (hE (K + 1) (by omega)) fE hK v A N C sb n w a b c A1 C1 r n' hv henv hc hn hlx hr hf
      | [], h1, _, _, _, _ => exact absurd h1 (by simp)
      | [_], h1, _, _, _, _ => exact absurd h1 (by simp)
      | [_, _], h1, _, _, _, _ => exact absurd h1 (by simp)
      | _ :: _ :: _ :: _ :: _, _, h2, _, _, _ => exact absurd h2 (by simp)
    · have h9 := (takesB_le name).2
      have h3 : 1 ≤ (takesB name).1 := by
        unfold takesB at h0 ⊢
        rw [if_neg hif, if_neg hfe] at h0 ⊢
        split
        · simp
        · rename_i hcl
          rw [if_neg hcl] at h0
          simp only at h0 ⊢
          omega
      exact function_rest cf hC L D K hE fE hK v A N C sb n w name l A1 C1 r n' hv henv hc hn hnl hif hfe hlx (by omega) (by omega) hr hf

theorem lev_owes (cf : CallF) (hC : OwesC cf) (hcf : CallFit cf) : ∀ (d D K : Nat), D + d = 20 → K + 10 * d ≤ 10000 → Owes 51 (lev cf d).ex D K ∧ Owes 89 (lev cf d).vl D K
  | 0, D, K, hD, hK => by
    obtain rfl : D = 20 := by omega
    exact ⟨expand_any (referB cf none) (valueB none) 20 K (refer_deep cf K) (value_deep K) (refer_fit_none cf K) (value_fit_none K), value_deep K⟩
  | d + 1, D, K, hD, hK => by
    have hx := fun K' (h : K' ≤ K + 10) => lev_owes cf hC hcf d (D + 1) K' (by omega) (by omega)
    have fx := fun K => (lev_fit cf hcf d K).1
    have fv := fun K => (lev_fit cf hcf d K).2
    have hR : Owes 88 (referB cf (some (lev cf d))) D K := refer_in cf (lev cf d) D K (by omega) (hx K (by omega)).1 (hx K (by omega)).2
      (function_owes cf hC (lev cf d) (D + 1) K (fun K' h => (hx K' h).1) fx (by omega)) (turned_any (lev cf d) (D + 1) K (hx K (by omega)).1 (fx K) (hx K (by omega)).2 (fv K)) (fx K)
    have hV : Owes 89 (valueB (some (lev cf d).ex)) D K := value_in (lev cf d).ex D K (by omega) (hx K (by omega)).1
    exact ⟨expand_any _ _ D K hR hV (refer_fit cf hcf _ fx fv K) (value_fit _ K (fx K)), hV⟩

theorem expandB_fine {cf : CallF} (hcf : CallFit cf) {v : List Var} {K : Nat} (henv : Env K v) {t : Bytes} (ht : t.length ≤ 100000) {r : Except Nat Bytes} (h : expandB cf v t = some r) : ∃ n', (lev cf 20).ex v t 0 = some (r, n') ∧ Fine 4000 n' r := by
  unfold expandB at h
  obtain ⟨⟨q, n'⟩, h1, h2⟩ := Option.map_eq_some_iff.1 h
  cases h2
  exact ⟨n', h1, (lev_fit cf hcf 20 K).1 v t 0 q n' henv ht (by decide) h1⟩

set_option maxRecDepth 100000 in
set_option maxHeartbeats 1000000 in
/-- Expand. -/
theorem expandAll_any (cf : CallF) (hC : OwesC cf) (hcf : CallFit cf) (v : List Var) (A : Option Addr) (N C K : Nat) (w : World) (t : Bytes) (r : Except Nat Bytes) (hv : VR w (.slice A N C) v) (henv : Env K v) (hK : K ≤ 9000) (hg : Glob w) (ht : t.length ≤ 100000) (hf : expandB cf v t = some r) :
    Calls Tryz.prog 20 #[.agg #[.slice A N C], .string (B t)] w fun e w' => e = .returned (resV r) ∧ Below w.heap.size w w' := by
  obtain ⟨n', hex, _⟩ := expandB_fine hcf henv ht hf
  have hO := (lev_owes cf hC hcf 20 0 K (by decide) (by omega)).1
  have hgs := hg.size
  have HB0 : Below w.heap.size w ((w.alloc (.cells #[.slice A N C] 25)).alloc (.cells #[.int .i64 0] 3)) := ((Below.refl _ w).alloc (Nat.le_refl _) _).alloc (by simp) _
  have hcnt : Cnt ((w.alloc (.cells #[.slice A N C] 25)).alloc (.cells #[.int .i64 0] 3)) (w.heap.size + 1) 0 := ⟨Blk.new (w.alloc (.cells #[.slice A N C] 25)) 3 #[.int .i64 0] (by simp), by omega, hg.below HB0 hgs⟩
  have hcall := hO v A N C (w.heap.size + 1) 0 _ t r n' (row_below hv HB0) henv hcnt (by decide) ht hex
  have HB := Lib.hid HB0
  unfold scV at hcall
  clear hex hO hg hgs HB0 hcnt hv henv hf
  go_enter Tryz.func20, Tryz.ntmps20
  go_wp2_with fail
  refine hcall.mono ?_
  rintro e w2 ⟨rfl, k2⟩
  have HK := Lib.hid k2
  clear k2 hcall
  unfold resV
  go_wp2_with fail
  go_ret2
  exact ⟨rfl, HB.out.grown HK.out.grown HB.out.size (fun k e => by cases e; omega)⟩
end Go.Proofs.YtopkcgdfebkbaaaGreatDoor
