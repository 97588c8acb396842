/- BookOrder: called with whatever reads as its arguments, it returns true and leaves them as they were. No condition. -/
import Derived.Test.YtlenaaghkiedbaaRows
import Derived.Test.YtlenaaghkiedbaaRfEnvOk
import Derived.Test.YtlenaaghkiedbaaRf28
import Derived.Test.YtlenaaghkiedbaaOrd
import Derived.Test.YtlenaaghkiedbaaExtOk3
import Derived.WalkKit
import Derived.ProofKit
import Derived.OpenShut
import Derived.ShutString
import Derived.ChangeOld
import Derived.Below
import Derived.SizedLaws
import Derived.KernelRfl
set_option linter.unusedVariables false
namespace Go.Proofs.Ytlenaaghkiedbaa.bookOrder
open Go.ChangeShapes Go.WideShapes Go.ChangeAt Go.RowKit
theorem own : ownKnob Try.prog.godebug = none := by kernel_rfl
theorem laidOut : laidOutB Try.prog = true := by kernel_rfl
def theFn : Rf.FnI := (Rf.fnT 7).getD ⟨[], [], []⟩
theorem theFn_is : Rf.En.fn 7 = some theFn := by kernel_rfl
theorem shapes : Rf.shpsOf Rf.En.ty 12 [46, 46, 23] = some ([.lst true 192 Rf.stpShp, .lst true 192 Rf.stpShp, .lst false 1 [.bool]], theFn.tin) := by kernel_rfl
theorem shapesOut : theFn.tout = List.replicate 3 .skip ++ [.bool] := by kernel_rfl
set_option maxRecDepth 100000 in
theorem lifted (os : Os) (started : os.Started) (H : Type) (enc : TypeId × Value → H) :
    ReturnsInHanded {} Try.checked os 7 .any (Rows.bookOrderSpec.pre6 enc Try.prog Try.f7 Rows.bookOrderRow.domain false) (Rows.bookOrderSpec.post enc Try.prog Try.f7 false true false false) := by
  refine returnsInHanded_of_change_sized (C := Try.checked) own started (by kernel_rfl) Try.func7
    (ChangeSpec.witness6 (enc := enc) (C := Try.checked) false ⟨#[], #[.slice none 0 0, .slice none 0 0, .slice none 0 0], []⟩ 8 (by kernel_rfl) (by kernel_rfl) (by kernel_rfl) (by kernel_rfl)) ?_
  intro W base args ds gs before hval0 hW hcnd hsz0 _
  have hsz : (DataW.weightsEach Try.prog (Try.f7.params.toList ++ Rows.bookOrderSpec.plain.varTypes Try.prog) (ds ++ gs)).all (· ≤ reachBytes) = true := hsz0
  have hval : ∀ (j : Nat) t v, Try.f7.params[j]? = some t → args[j]? = some v → Value.okWide Try.prog W .any base t v := hval0
  have hW' := hW
  obtain ⟨p, q, hA0, hV, rfl, hfz, hnd⟩ := hW
  have hA : DataW.TrodAll enc Try.prog W 0 (fun _ => true) true Try.f7.params.toList args.toList ds p := hA0
  rw [Try.params7] at hA hval hsz
  have hB := hA
  obtain ⟨v0, vs0, d0, ds0, p0, q0, hargs, rfl, rfl, h0, r0⟩ := trodAll_cons hB
  obtain ⟨v1, vs1, d1, ds1, p1, q1, rfl, rfl, rfl, h1, r1⟩ := trodAll_cons r0
  obtain ⟨v2, vs2, d2, ds2, p2, q2, rfl, rfl, rfl, h2, r2⟩ := trodAll_cons r1
  obtain ⟨rfl, rfl, rfl⟩ := trodAll_nil r2
  obtain rfl : args = #[v0, v1, v2] := by cases args; simp_all
  obtain ⟨rfl, rfl⟩ := trodVars_none hV
  have hlt := hW'.lt
  have hsz2 : (DataW.weightsEach Try.prog [46, 46, 23] [d0, d1, d2]).all (· ≤ reachBytes) = true := hsz
  clear hA0 hval0 hsz0
  refine (Rf.law_calls (enc := enc) (W := W) Rf.envOk Rf.ext_ok theFn_is shapes shapesOut (args := #[v0, v1, v2]) hA (fun j t v h1 h2 => hval j t v (by simpa using h1) (by simpa using h2)) hsz2 Rf.order_pure).mono fun e W' ⟨he, bel⟩ => ?_
  subst he
  exact ⟨_, rfl, _, _, _, [], _, [], hW', trodAll_mk1 (shut_bool Try.underlying4 _), Rf.trodAll_below (E := Rf.En) laidOut bel (by kernel_rfl) hA (fun x hx => hlt x (by simpa using hx)), rfl, bel.frame _, fun h => by cases h⟩
theorem over : Rows.bookOrderRow.holds Try.pinned (OpenSpec.ofChange Rows.bookOrderSpec) :=
  OpenClaim.holds_of_wide 7 Try.f7 rfl rfl rfl rfl rfl rfl rfl ⟨rfl, rfl, rfl, rfl, rfl⟩ rfl rfl rfl rfl rfl (by kernel_rfl) Try.func7 (by kernel_rfl)
    (of_decide_eq_true (by kernel_rfl)) (by unfold Func.isWrapper; first | (rw [if_pos (by decide +kernel)]; kernel_rfl) | (rw [if_neg (by decide +kernel)]; exact ⟨rfl, rfl⟩))
    (fun os started H enc _ => lifted os started H enc)
end Go.Proofs.Ytlenaaghkiedbaa.bookOrder
namespace Go.Proofs.Ytlenaaghkiedbaa
theorem bookOrder_holds : Rows.BookOrderSaid := bookOrder.over
#print axioms bookOrder_holds
end Go.Proofs.Ytlenaaghkiedbaa
