/- SettleNone: the closed facts of its row and its card, one by one. -/
import Derived.Test.YtcpnpoagpnkblaaGreatDoorRows
import Derived.Test.YtcpnpoagpnkblaaGreatDoorCards
import Derived.Test.YtcpnpoagpnkblaaGreatDoorTie
import Derived.MakeChecks
import Derived.SevenTiedAt
import Derived.WalkKit
import Derived.ProofKit
import Derived.OpenShut
import Derived.ShutString
import Derived.ChangeOld
import Derived.Below
import Derived.SizedLaws
import Derived.KernelRfl
set_option maxRecDepth 100000
namespace Go.Proofs.YtcpnpoagpnkblaaGreatDoor.settleNone
open Go.ChangeShapes Go.WideShapes Go.ChangeAt Go.RowKit
theorem closed0 : (Rows.settleNoneRow.wf (OpenSpec.ofChange Rows.settleNoneSpec)) = true := by kernel_rfl
theorem closed1 : (laidOutB Tryz.pinned.checked.prog) = true := by kernel_rfl
theorem closed2 : (mapsRowed Tryz.pinned.checked.prog) = true := by kernel_rfl
theorem closed3 : (Tryz.f8.params.all (Tryz.pinned.checked.prog.readableRec ·)) = true := by kernel_rfl
theorem closed4 : (namedTie Tryz.pinned.checked.prog Rows.settleNoneRow.named Rows.settleNoneSpec.vars) = true := by kernel_rfl
theorem closed5 : ((Rows.settleNoneRow.stops == [])) = true := by kernel_rfl
theorem closed6 : ((Tryz.pinned.checked.prog.stops == [])) = true := by kernel_rfl
theorem closed7 : ((Rows.settleNoneRow.knobs == [])) = true := by kernel_rfl
theorem closed8 : ((Tryz.pinned.checked.prog.stopKnobs == [])) = true := by kernel_rfl
theorem closed9 : ((Rows.settleNoneRow.inPlace == Tryz.pinned.checked.prog.inPlace 8)) = true := by kernel_rfl
theorem closed10 : ((Rows.settleNoneRow.unfollowed == Tryz.pinned.checked.prog.unfollowed 8)) = true := by kernel_rfl
theorem closed11 : ((Rows.settleNoneRow.recurses == Tryz.pinned.checked.prog.recurses 8)) = true := by kernel_rfl
theorem closed12 : ((Rows.settleNoneRow.named == Tryz.pinned.checked.prog.varsNamed 8)) = true := by kernel_rfl
theorem closed13 : ((Rows.settleNoneRow.maps == (Tryz.f8.params.toList ++ Rows.settleNoneSpec.plain.varTypes Tryz.pinned.checked.prog).any (Tryz.pinned.checked.prog.mapsRec ·))) = true := by kernel_rfl
theorem closed14 : ((Rows.settleNoneRow.ifaces == (Tryz.f8.params.toList ++ Rows.settleNoneSpec.plain.varTypes Tryz.pinned.checked.prog).any (Tryz.pinned.checked.prog.ifacesRec ·))) = true := by kernel_rfl
theorem closed15 : ((Rows.settleNoneRow.mapsOut == Tryz.pinned.checked.prog.mapsAmong Tryz.f8.resultTypes.toList)) = true := by kernel_rfl
theorem closed16 : ((Rows.settleNoneRow.loops == (Tryz.f8.params.toList ++ Rows.settleNoneSpec.plain.varTypes Tryz.pinned.checked.prog).any (Tryz.pinned.checked.prog.loopsFrom ·))) = true := by kernel_rfl
theorem closed17 : ((Rows.settleNoneRow.wideKeys == (Tryz.f8.params.toList ++ Rows.settleNoneSpec.plain.varTypes Tryz.pinned.checked.prog ++ Tryz.f8.resultTypes.toList).any (Tryz.pinned.checked.prog.wideKeysFrom ·))) = true := by kernel_rfl
theorem closed18 : (Rows.settleNoneSpec.vars.all (Tryz.pinned.checked.prog.varReadable ·)) = true := by kernel_rfl
theorem closed19 : (Tryz.f8.resultTypes.all (fun t => Tryz.pinned.checked.prog.readableRec t && decide (t < Tryz.pinned.checked.prog.types.size))) = true := by kernel_rfl
theorem closed20 : ((Rows.settleNoneRow.ifacesOut == Tryz.f8.resultTypes.toList.any (Tryz.pinned.checked.prog.ifacesRec ·))) = true := by kernel_rfl
theorem closed21 : ((Rows.settleNoneRow.loopsOut == Tryz.f8.resultTypes.toList.any (Tryz.pinned.checked.prog.loopsFrom ·))) = true := by kernel_rfl
theorem closed22 : ((Rows.settleNoneRow.plainKeys == Tryz.pinned.checked.prog.plainKeys)) = true := by kernel_rfl
theorem closed23 : (Rows.settleNoneRow.shortTexts.isNone) = true := by kernel_rfl
theorem closed24 : (Tryz.pinned.checked.prog.stopsHeard) = true := by kernel_rfl
theorem closed25 : (Tryz.pinned.checked.prog.mayEnter) = true := by kernel_rfl
theorem closed26 : ((Rows.settleNoneRow.lifted == Tryz.pinned.checked.prog.liftsFinal)) = true := by kernel_rfl
theorem closed27 : ((Tryz.pinned.checked.prog.make == some Rows.settleNoneRow.make)) = true := by kernel_rfl
theorem closed28 : ((Rows.settleNoneRow.kinds == (if Rows.settleNoneRow.domain.isEmpty then [] else Tryz.f8.params.toList.map fun t => match Tryz.pinned.checked.prog.underlying t with | some (.int k) => some k | _ => none))) = true := by kernel_rfl
theorem closed29 : ((Rows.settleNoneRow.pinned == Rows.settleNoneRow.pinnedBy)) = true := by kernel_rfl
theorem closed30 : ((Rows.settleNoneRow.veiled == (Tryz.f8.params.toList ++ Rows.settleNoneSpec.plain.varTypes Tryz.pinned.checked.prog ++ Tryz.f8.resultTypes.toList).any (Tryz.pinned.checked.prog.veiledRec ·))) = true := by kernel_rfl
theorem closed31 : (Rows.settleNoneRow.veiledFits Tryz.pinned.checked.prog Tryz.f8.params.toList (Tryz.f8.params.toList ++ Rows.settleNoneSpec.plain.varTypes Tryz.pinned.checked.prog ++ Tryz.f8.resultTypes.toList)) = true := by kernel_rfl
theorem and_t {a b : Bool} (h : a = true) (g : b = true) : (a && b) = true := by rw [h, g]; rfl
theorem closed : joinedFacts Tryz.pinned.checked.prog 8 Tryz.f8 Rows.settleNoneSpec Rows.settleNoneRow = true := and_t (and_t (and_t (and_t (and_t (and_t (and_t (and_t (and_t (and_t (and_t (and_t (and_t (and_t (and_t (and_t (and_t (and_t (and_t (and_t (and_t (and_t (and_t (and_t (and_t (and_t (and_t (and_t (and_t (and_t (and_t (closed0) closed1) closed2) closed3) closed4) closed5) closed6) closed7) closed8) closed9) closed10) closed11) closed12) closed13) closed14) closed15) closed16) closed17) closed18) closed19) closed20) closed21) closed22) closed23) closed24) closed25) closed26) closed27) closed28) closed29) closed30) closed31
theorem fact1 : Rows.settleNoneRow.wfByText (OpenSpec.ofChange Rows.settleNoneSpec) = true := by kernel_rfl
theorem fact2 : true = Tryz.pinned.checked.prog.looks [] := by kernel_rfl
theorem fact3 : false = Rows.settleNoneRow.goesBy Tryz.pinned.checked.prog := by kernel_rfl
end Go.Proofs.YtcpnpoagpnkblaaGreatDoor.settleNone
