/- The card holds: with the listed variables as start-up lays them the law returns true and leaves its arguments. No further condition. -/
import Derived.Test.YtcpnpoagpnkblaaGreatDoorRowSettleNoneF
import Derived.Test.YtcpnpoagpnkblaaGreatDoorNMG
import Derived.Test.YtcpnpoagpnkblaaGreatDoorNMC
import Derived.Test.YtcpnpoagpnkblaaGreatDoorNNK
import Derived.Test.YtcpnpoagpnkblaaGreatDoorNNC
import Derived.Test.YtcpnpoagpnkblaaGreatDoorNNI
import Derived.Lib.LaidTab
import Derived.Lay
import Derived.LaidSub
import Derived.LaidOnce
namespace Go.Proofs.YtcpnpoagpnkblaaGreatDoor.settleNone
open Go.ChangeShapes Go.WideShapes Go.ChangeAt Go.RowKit
theorem own : ownKnob Tryz.prog.godebug = none := by kernel_rfl
theorem laidOut : laidOutB Tryz.prog = true := by kernel_rfl
def laid : List (String × DataW Unit) := [("math/bits.deBruijn32tab", Rows.laid_math_bits_deBruijn32tab), ("math/bits.deBruijn64tab", Rows.laid_math_bits_deBruijn64tab), ("internal/strconv.uint64pow10", Rows.laid_internal_strconv_uint64pow10), ("unicode/utf8.acceptRanges", Rows.laid_unicode_utf8_acceptRanges), ("strconv.ErrRange", Rows.laid_strconv_ErrRange), ("strconv.ErrSyntax", Rows.laid_strconv_ErrSyntax), ("unicode/utf8.first", Rows.laid_unicode_utf8_first)]
def theFn : Rf.FnI := (Rf.fnT 8).getD ⟨[], [], []⟩
theorem theFn_is : Rf.EnD.fn 8 = some theFn := by kernel_rfl
theorem shapes : Rf.shpsOf Rf.EnD.ty 12 [25, 28, 29] = some ([.int .i64, .int .i64, .lst true 24 [.int .i64, .int .i64, .int .i64], .int .i64, .int .i64, .lst true 64 [.str, .int .i64, .int .i64, .int .i64, .bool, .int .i64, .int .i64], .lst false 8 [.int .i64]], theFn.tin) := by kernel_rfl
theorem shapesOut : theFn.tout = List.replicate 3 .skip ++ [.bool] := by kernel_rfl
theorem tab {W : World} (h : laidMetH Tryz.prog laid W) : Rf.Tabs W (Rf.Old W) := by
 have h1 := laidMetH.filter (fun x => x.1 == "internal/strconv.uint64pow10") h
 rw [show (laid.filter fun x => x.1 == "internal/strconv.uint64pow10") = [("internal/strconv.uint64pow10", Lib.tabData .u64 Lib.pow10Tab)] by kernel_rfl, MakeChecks.laidMetH_plain _ _ _ (by kernel_rfl)] at h1
 have g : Tryz.prog.globalNamed "internal/strconv.uint64pow10" = some Rf.tabG := by kernel_rfl
 exact Rf.qsi (Lib.tabIs_of_head g (t := Rf.tabT) (e := Rf.tabE) (n := 20) (by kernel_rfl) (by kernel_rfl) (by kernel_rfl) (by kernel_rfl) (by kernel_rfl) h1)
set_option maxRecDepth 100000 in
theorem lifted (os : Os) (started : os.Started) (H : Type) (enc : TypeId × Value → H) :
  ReturnsInHanded {} Tryz.checked os 8 .any (fun w args => (Rows.settleNoneSpec.pre enc Tryz.prog Tryz.f8 [] false w args ∧ laidMetH Tryz.prog laid w) ∧ sizedMet enc Tryz.prog Tryz.f8 (OpenSpec.ofChange Rows.settleNoneSpec) false w args)
   (Rows.settleNoneSpec.post enc Tryz.prog Tryz.f8 false true false false) := by
 refine returnsInHanded_of_change_and (C := Tryz.checked) (X := fun w _ => laidMetH Tryz.prog laid w) (fun _ _ _ hh h => h.of_heap hh) own started (by kernel_rfl) Tryz.func8
  (ChangeSpec.witness_shaped (enc := enc) (C := Tryz.checked) (os := os) (X := fun w _ => laidMetH Tryz.prog laid w) false (World.laidAll Tryz.prog os laid) #[.agg #[.int .i64 0, .int .i64 0, .slice none 0 0, .int .i64 0, .int .i64 0], .slice none 0 0, .slice none 0 0] 8 (World.laidAll_os _ _ _)
   (World.shaped_of_ZipB (by kernel_rfl) (by kernel_rfl)) (by kernel_rfl) (by kernel_rfl) (by kernel_rfl)
   (by rw [MakeChecks.laidMetH_plain _ _ _ (by kernel_rfl)]; exact laidMet_laidAll _ (by kernel_rfl) (by kernel_rfl))) ?_
 intro W base args ds gs before hval0 hW _ hsz0 hL _
 have hsz : (DataW.weightsEach Tryz.prog (Tryz.f8.params.toList ++ Rows.settleNoneSpec.plain.varTypes Tryz.prog) (ds ++ gs)).all (· ≤ reachBytes) = true := hsz0
 have hval : ∀ (j : Nat) t v, Tryz.f8.params[j]? = some t → args[j]? = some v → Value.okWide Tryz.prog W .any base t v := hval0
 have hW' := hW
 obtain ⟨p, q, hA0, hV, rfl, hfz, hnd⟩ := hW
 have hA : DataW.TrodAll enc Tryz.prog W 0 (fun _ => true) true Tryz.f8.params.toList args.toList ds p := hA0
 rw [Tryz.params8] at hA hval hsz
 have hB := hA
 obtain ⟨v0, vs0, d0, ds0, p0, q0, hargs, rfl, rfl, h0, r0⟩ := trodAll_cons hB
 obtain ⟨v1, vs1, d1, ds1, p1, q1, rfl, rfl, rfl, h1, r1⟩ := trodAll_cons r0
 obtain ⟨v2, vs2, d2, ds2, p2, q2, rfl, rfl, rfl, h2, r2⟩ := trodAll_cons r1
 obtain ⟨rfl, rfl, rfl⟩ := trodAll_nil r2
 obtain rfl : args = #[v0, v1, v2] := by cases args; simp_all
 obtain ⟨rfl, rfl⟩ := trodVars_none hV
 have hlt := hW'.lt
 have hsz2 : (DataW.weightsEach Tryz.prog [25, 28, 29] [d0, d1, d2]).all (· ≤ reachBytes) = true := hsz
 clear hA0 hval0 hsz0
 refine (Rf.law_calls (enc := enc) (W := W) Rf.envOkD (Rf.extD_ok Rf.ext_ok) theFn_is rfl shapes shapesOut (args := #[v0, v1, v2]) hA (fun j t v h1 h2 => hval j t v (by simpa using h1) (by simpa using h2)) hsz2 (tab hL) Rf.snone_pure).mono fun e W' ⟨he, bel⟩ => ?_
 subst he
 exact ⟨_, rfl, _, _, _, [], _, [], hW', trodAll_mk1 (shut_bool Tryz.underlying4 _), Rf.qkp (E := Rf.EnD) laidOut bel (by kernel_rfl) hA (fun x hx => hlt x (by simpa using hx)), rfl, bel.frame _, fun h => by cases h⟩
theorem over : Rows.settleNoneRow.holds Tryz.pinned (OpenSpec.ofChange Rows.settleNoneSpec) :=
 OpenClaim.holds_of_wide 8 Tryz.f8 rfl rfl rfl rfl rfl rfl rfl ⟨rfl, rfl, rfl, rfl, rfl⟩ rfl rfl rfl rfl rfl (by kernel_rfl) Tryz.func8 closed
  (of_decide_eq_true (by kernel_rfl)) (by unfold Func.isWrapper; first | (rw [if_pos (by decide +kernel)]; kernel_rfl) | (rw [if_neg (by decide +kernel)]; exact ⟨rfl, rfl⟩))
  (fun os started H enc _ => lifted os started H enc)
theorem cardHolds : Rows.SettleNoneCardSaid :=
 Claim7.holds_tied_plain_at .later [] [.data, .data, .data, .data, .sentinel, .sentinel, .pinned] true (true, "f290c670dffc4d9d2f0552831134c40d09e3cda70df39463b33bd75ce59ffc4c") true over (fun _ h => by cases h) fact1 (fun _ h => by cases h) settleNone_row_tie rfl ⟨rfl, rfl⟩ (by kernel_rfl) rfl
  (fun f fn hf hfn => by
   obtain rfl : f = 8 := Option.some.inj ((show Tryz.prog.funcNamed "noonbell/noonbelllaw20.SettleNone" = some 8 by kernel_rfl).symm.trans hf) |>.symm
   obtain rfl : fn = Tryz.f8 := (Option.some.inj (Tryz.func8.symm.trans hfn)).symm
   exact ⟨fact2, fun j t ht => by
    rw [Tryz.params8] at ht
    have hm : t ∈ [25, 28, 29] := by simpa using Array.mem_of_getElem? ht
    have hall : ([25, 28, 29].all fun u => !Tryz.prog.wantsStandIn u) = true := by kernel_rfl
    exact (show Tryz.prog.wantsStandIn t = false by simpa using List.all_eq_true.1 hall t hm)⟩)
  fact3
end Go.Proofs.YtcpnpoagpnkblaaGreatDoor.settleNone
namespace Go.Proofs.YtcpnpoagpnkblaaGreatDoor
theorem settleNoneCard_holds : Rows.SettleNoneCardSaid := settleNone.cardHolds
#print axioms settleNoneCard_holds
end Go.Proofs.YtcpnpoagpnkblaaGreatDoor
