/- VarsAppend: for every three texts the call returns true (the library's tables as the program's text lays them). Conditions: those of the given row alone. -/
import Derived.Test.YtopkcgdfebkbaaaGreatDoorW34
import Derived.Test.YtopkcgdfebkbaaaGreatDoorShelfC
import Derived.Test.YtopkcgdfebkbaaaGreatDoorVaF
import Derived.Test.YtopkcgdfebkbaaaGreatDoorCards
import Derived.Test.YtopkcgdfebkbaaaGreatDoorTie
import Derived.ProofKit
import Derived.OpenShut
import Derived.Deep.DeepHandedRow
import Derived.Deep.DeepWitnessRowRef
import Derived.Lay
import Derived.SevenTiedAt
import Derived.LaidOnce
import Derived.SizedLaws
set_option linter.unusedVariables false
namespace Go.Proofs.YtopkcgdfebkbaaaGreatDoor
open Go.RowKit

/-- What a row's world holds where its call begins. -/
theorem glob_of_row {W : World} (hsh : W.ShapedOpen Tryz.prog) : Glob W := by
  obtain ⟨m, hm⟩ := Tryz.laysM219.s1_3 W hsh
  obtain ⟨cs, h7, _⟩ := hsh.1 7 #[.nilIface] 158 (of_decide_eq_true (by kernel_rfl)) (by kernel_rfl)
  exact ⟨W, ⟨m, hm⟩, (Array.getElem?_eq_some_iff.1 h7).1, fun _ _ => rfl⟩
end Go.Proofs.YtopkcgdfebkbaaaGreatDoor
namespace Go.Proofs.YtopkcgdfebkbaaaGreatDoor.vaP
open Go.ChangeShapes Go.WideShapes Go.ChangeAt Go.RowKit
open Go.ChangeMaps (open_string shut_string)

theorem own : ownKnob Tryz.prog.godebug = none := by kernel_rfl
theorem laid_met (os : Os) (args : Array Value) : laidMetH Tryz.prog Rows.varsAppendRow.laid ((World.laidAll Tryz.prog os Rows.varsAppendRow.laid).forCall (fun _ _ => 0) ⟨#[], args, []⟩).memory := by
  rw [MakeChecks.laidMetH_plain _ _ _ (by kernel_rfl)]
  exact laidMet_laidAll _ (by kernel_rfl) (by kernel_rfl)

set_option maxRecDepth 100000 in
set_option maxHeartbeats 2000000 in
theorem lifted (os : Os) (started : os.Started) (H : Type) (enc : TypeId × Value → H) (F : Stop.Interp) :
    ReturnsInHanded {} Tryz.checked os 6 .any ((OpenSpec.ofChange Rows.varsAppendSpec).preRow enc Tryz.prog Tryz.f6 Rows.varsAppendRow.domain false Rows.varsAppendRow.laid) (((OpenSpec.ofChange Rows.varsAppendSpec).at F).post enc Tryz.prog Tryz.f6 false true false false) := by
  have hw : (DataW.whole enc Tryz.prog ((World.laidAll Tryz.prog os Rows.varsAppendRow.laid).forCall (fun _ _ => 0) ⟨#[], #[.string ⟨#[]⟩, .string ⟨#[]⟩, .string ⟨#[]⟩], []⟩).memory Tryz.f6.params.toList (OpenSpec.ofChange Rows.varsAppendSpec).vars false #[Value.string ⟨#[]⟩, .string ⟨#[]⟩, .string ⟨#[]⟩].toList 8).map (fun x => (x.1, x.2.1)) =
      some ([.lit (.string []), .lit (.string []), .lit (.string [])], []) := by kernel_rfl
  obtain ⟨⟨x1, x2, x3⟩, hx, hx1⟩ := Option.map_eq_some_iff.1 hw
  simp only [Prod.mk.injEq] at hx1
  obtain ⟨rfl, rfl⟩ := hx1
  refine returnsInHanded_of_row (C := Tryz.checked) (s := OpenSpec.ofChange Rows.varsAppendSpec) own started (by kernel_rfl) Tryz.func6
    (witness_row_atRef (enc := enc) (C := Tryz.checked) false (World.laidAll Tryz.prog os Rows.varsAppendRow.laid) #[.string ⟨#[]⟩, .string ⟨#[]⟩, .string ⟨#[]⟩] (World.laidAll_os _ _ _) (by kernel_rfl) (by kernel_rfl) (by kernel_rfl)
      (OpenSpec.preRow_of_cond 8 hx (by kernel_rfl) (fun k hk => by cases hk) (by kernel_rfl) (laid_met os _))) ?_
  intro W base args ds gs before hval0 hW _ _ _ hL hsh _
  have hval : ∀ (j : Nat) t v, Tryz.f6.params[j]? = some t → args[j]? = some v → Value.okWide Tryz.prog W .any base t v := hval0
  have hW' := hW
  obtain ⟨p, q, hA0, hV, rfl, hfz, hnd⟩ := hW
  have hA : DataW.TrodAll enc Tryz.prog W 0 (fun _ => true) true Tryz.f6.params.toList args.toList ds p := hA0
  rw [Tryz.params6] at hA hval
  obtain ⟨v0, vs0, d0, ds0, p0, q0, hargs, rfl, rfl, h0, r0⟩ := trodAll_cons hA
  obtain ⟨v1, vs1, d1, ds1, p1, q1, rfl, rfl, rfl, h1, r1⟩ := trodAll_cons r0
  obtain ⟨v2, vs2, d2, ds2, p2, q2, rfl, rfl, rfl, h2, r2⟩ := trodAll_cons r1
  obtain ⟨rfl, rfl, rfl⟩ := trodAll_nil r2
  obtain rfl : args = #[v0, v1, v2] := by cases args; simp_all
  obtain ⟨rfl, rfl⟩ := trodVars_none hV
  obtain ⟨a, rfl, rfl, rfl, wa⟩ := open_string Tryz.underlying9 (hval 0 9 v0 rfl rfl) h0
  obtain ⟨b, rfl, rfl, rfl, wb⟩ := open_string Tryz.underlying9 (hval 1 9 v1 rfl rfl) h1
  obtain ⟨c, rfl, rfl, rfl, wc⟩ := open_string Tryz.underlying9 (hval 2 9 v2 rfl rfl) h2
  clear hA0 hval0
  simp only [List.append_nil] at hW'
  obtain ⟨la, rfl⟩ := B_surj a
  obtain ⟨lb, rfl⟩ := B_surj b
  obtain ⟨lc, rfl⟩ := B_surj c
  refine (varsAppend_any la lb lc W (glob_of_row hsh)).mono fun e W' ⟨he, hb⟩ => ?_
  subst he
  exact ⟨_, rfl, _, _, _, [], [], [], hW', trodAll_mk1 (shut_bool Tryz.underlying4 _), trodAll_cons_mk (shut_string Tryz.underlying9 wa) (trodAll_cons_mk (shut_string Tryz.underlying9 wb) (trodAll_cons_mk (shut_string Tryz.underlying9 wc) trodAll_mk0)), rfl, hb.frame _, fun h => by cases h⟩

theorem isNamed : Tryz.pinned.checked.prog.funcNamed Rows.varsAppendRow.func = some 6 := by kernel_rfl
theorem isInst : Tryz.f6.isInstance Tryz.pinned.checked.prog Rows.varsAppendRow.origin Rows.varsAppendRow.targs := of_decide_eq_true (by kernel_rfl)
theorem isWrap : Tryz.f6.isWrapper Tryz.pinned.checked.prog Rows.varsAppendRow.wrapper Rows.varsAppendRow.mainSum := by
  unfold Func.isWrapper; first | (rw [if_pos (by decide +kernel)]; kernel_rfl) | (rw [if_neg (by decide +kernel)]; exact ⟨rfl, rfl⟩)
theorem said : Rows.VarsAppendSaid :=
  OpenClaim.holds_of_cond 6 Tryz.f6 rfl rfl rfl rfl rfl rfl rfl ⟨rfl, rfl, rfl, rfl, rfl⟩ rfl rfl rfl rfl rfl isNamed Tryz.func6 facts isInst isWrap
    (fun os started H enc _ F => by rw [OpenClaim.pre_eq_preRow]; exact lifted os started H enc F)

theorem isLooks : true = Tryz.pinned.checked.prog.looks [] := by kernel_rfl
theorem plain (f : FuncId) (fn : Func) (hf : Tryz.pinned.checked.prog.funcNamed Rows.varsAppendRow.func = some f) (hfn : Tryz.pinned.checked.prog.funcs[f]? = some fn) :
    true = Tryz.pinned.checked.prog.looks [] ∧ ∀ (j : Nat) t, fn.params[j]? = some t → Tryz.pinned.checked.prog.wantsStandIn t = false := by
  obtain rfl : f = 6 := Option.some.inj (isNamed.symm.trans hf) |>.symm
  obtain rfl : fn = Tryz.f6 := (Option.some.inj (Tryz.func6.symm.trans hfn)).symm
  refine ⟨isLooks, fun j t ht => ?_⟩
  rw [Tryz.params6] at ht
  have hm : t ∈ [9, 9, 9] := by simpa using Array.mem_of_getElem? ht
  have hall : ([9, 9, 9].all fun u => !Tryz.prog.wantsStandIn u) = true := by kernel_rfl
  exact (show Tryz.prog.wantsStandIn t = false by simpa using List.all_eq_true.1 hall t hm)
theorem wfText : Rows.varsAppendRow.wfByText (OpenSpec.ofChange Rows.varsAppendSpec) = true := by kernel_rfl
theorem goes : false = Rows.varsAppendRow.goesBy Tryz.pinned.checked.prog := by kernel_rfl
theorem mainIs : Tryz.pinned.checked.prog.mainIs = some (true, "73da5e6ca0adf724c85a1c6c4a9226a199002993e1bd5757556fde8e0d70f660".toList) := by kernel_rfl

/-- THE STATEMENT. -/
theorem holds : Rows.VarsAppendCardSaid :=
  Claim7.holds_tied_plain_at .later [] _ _ _ _ said (fun _ h => by cases h) wfText (fun _ h => by cases h) varsAppend_row_tie rfl ⟨rfl, rfl⟩ mainIs rfl plain goes
#print axioms holds
end Go.Proofs.YtopkcgdfebkbaaaGreatDoor.vaP
