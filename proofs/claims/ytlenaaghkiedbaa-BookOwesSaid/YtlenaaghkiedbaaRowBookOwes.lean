/- BookOwes: called with whatever reads as its arguments, it returns true and leaves them as they were. No condition. -/
import Derived.Test.YtlenaaghkiedbaaRows
import Derived.Test.YtlenaaghkiedbaaRfEnvOk
import Derived.Test.YtlenaaghkiedbaaRf28
import Derived.Test.YtlenaaghkiedbaaOwes
import Derived.Test.YtlenaaghkiedbaaExtOk3
import Derived.WalkKit
import Derived.ProofKit
import Derived.OpenShut
import Derived.ShutString
import Derived.ChangeOld
import Derived.Below
import Derived.SizedLaws
import Derived.KernelRfl
set_option linter.unusedVariables false
namespace Go.Proofs.Ytlenaaghkiedbaa.bookOwes
open Go.ChangeShapes Go.WideShapes Go.ChangeAt Go.RowKit
theorem own : ownKnob Try.prog.godebug = none := by kernel_rfl
theorem laidOut : laidOutB Try.prog = true := by kernel_rfl
def theFn : Rf.FnI := (Rf.fnT 8).getD ⟨[], [], []⟩
theorem theFn_is : Rf.En.fn 8 = some theFn := by kernel_rfl
theorem shapes : Rf.shpsOf Rf.En.ty 12 [46] = some ([.lst true 192 Rf.stpShp], theFn.tin) := by kernel_rfl
theorem shapesOut : theFn.tout = List.replicate 1 .skip ++ [.bool] := by kernel_rfl
set_option maxRecDepth 100000 in
theorem lifted (os : Os) (started : os.Started) (H : Type) (enc : TypeId × Value → H) :
    ReturnsInHanded {} Try.checked os 8 .any (Rows.bookOwesSpec.pre6 enc Try.prog Try.f8 Rows.bookOwesRow.domain false) (Rows.bookOwesSpec.post enc Try.prog Try.f8 false true false false) := by
  refine returnsInHanded_of_change_sized (C := Try.checked) own started (by kernel_rfl) Try.func8
    (ChangeSpec.witness6 (enc := enc) (C := Try.checked) false ⟨#[], #[.slice none 0 0], []⟩ 8 (by kernel_rfl) (by kernel_rfl) (by kernel_rfl) (by kernel_rfl)) ?_
  intro W base args ds gs before hval0 hW hcnd hsz0 _
  have hsz : (DataW.weightsEach Try.prog (Try.f8.params.toList ++ Rows.bookOwesSpec.plain.varTypes Try.prog) (ds ++ gs)).all (· ≤ reachBytes) = true := hsz0
  have hval : ∀ (j : Nat) t v, Try.f8.params[j]? = some t → args[j]? = some v → Value.okWide Try.prog W .any base t v := hval0
  have hW' := hW
  obtain ⟨p, q, hA0, hV, rfl, hfz, hnd⟩ := hW
  have hA : DataW.TrodAll enc Try.prog W 0 (fun _ => true) true Try.f8.params.toList args.toList ds p := hA0
  rw [Try.params8] at hA hval hsz
  have hB := hA
  obtain ⟨v0, vs0, d0, ds0, p0, q0, hargs, rfl, rfl, h0, r0⟩ := trodAll_cons hB
  obtain ⟨rfl, rfl, rfl⟩ := trodAll_nil r0
  obtain rfl : args = #[v0] := by cases args; simp_all
  obtain ⟨rfl, rfl⟩ := trodVars_none hV
  have hlt := hW'.lt
  have hsz2 : (DataW.weightsEach Try.prog [46] [d0]).all (· ≤ reachBytes) = true := hsz
  clear hA0 hval0 hsz0
  refine (Rf.law_calls (enc := enc) (W := W) Rf.envOk Rf.ext_ok theFn_is shapes shapesOut (args := #[v0]) hA (fun j t v h1 h2 => hval j t v (by simpa using h1) (by simpa using h2)) hsz2 Rf.owes_pure).mono fun e W' ⟨he, bel⟩ => ?_
  subst he
  exact ⟨_, rfl, _, _, _, [], _, [], hW', trodAll_mk1 (shut_bool Try.underlying4 _), Rf.trodAll_below (E := Rf.En) laidOut bel (by kernel_rfl) hA (fun x hx => hlt x (by simpa using hx)), rfl, bel.frame _, fun h => by cases h⟩
theorem over : Rows.bookOwesRow.holds Try.pinned (OpenSpec.ofChange Rows.bookOwesSpec) :=
  OpenClaim.holds_of_wide 8 Try.f8 rfl rfl rfl rfl rfl rfl rfl ⟨rfl, rfl, rfl, rfl, rfl⟩ rfl rfl rfl rfl rfl (by kernel_rfl) Try.func8 (by kernel_rfl)
    (of_decide_eq_true (by kernel_rfl)) (by unfold Func.isWrapper; first | (rw [if_pos (by decide +kernel)]; kernel_rfl) | (rw [if_neg (by decide +kernel)]; exact ⟨rfl, rfl⟩))
    (fun os started H enc _ => lifted os started H enc)
end Go.Proofs.Ytlenaaghkiedbaa.bookOwes
namespace Go.Proofs.Ytlenaaghkiedbaa
theorem bookOwes_holds : Rows.BookOwesSaid := bookOwes.over
#print axioms bookOwes_holds
end Go.Proofs.Ytlenaaghkiedbaa
