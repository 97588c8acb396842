/- What is left of a function's body, from a point on: what is computed of leaves is what it answers. -/
import Derived.Test.YtlenaaghkiedbaaRf25
namespace Rf
open Go

section
variable {E : Env} {call : FuncId → List FV → Res}

theorem tail_ok (hE : EnvOk E) (hC : CallOk E call) {C : Cx} {i : FnI} {fn : Func} {n : Nat} {c : Code} {ps : List SV} {ts nm : List Nat} {T : List Tok} {V V0 : List Value} {L L' : List FV} {G : GA} {us : List (Key × Ent)} {svs : List SV} {a : Act} {w : World} {S : Nat → Prop}
    (hck : codeOk fn.ntmps (pinsOf 0 ps) c = true) (hsize : fn.ntmps ≤ C.nt) (hnt : a.tmps.size = C.nt) (hdf : a.defers = [])
    (hpd : ∀ d, d ∉ pinsOf 0 ps → C.pin d = none) (hpv : ∀ t v, C.pin t = some v → a.tmps.getD t undef = v) (hpins : ∀ t v, t ∈ pinsOf 0 ps → V0[t]? = some v → C.pin t = some v) (hl : ps.length = V0.length)
    (hk : Keep C w S) (hT : TRep w S T V L [] G) (hfl : flatOk 0 T = true) (hb : bld nm 0 T L = some (us, svs, [])) (hn : NInj nm) (hg : GOk C w S G) (hs : All2 (fun t v => a.tmps.getD t undef = v) ts V)
    (hev : evC E call i.ann n c (kRet E fn i ps) (putSlots ts svs ++ us) = some L') :
    c.wp E.P (bodyPost E.P fn fun e w' => ∃ S' fin' Rv, e = .returned (resV Rv) ∧ TRep w' S' i.tout (V0 ++ Rv) L' [] fin' ∧ Keep ⟨C.w0, C.S0, C.W0, 0, fun _ => none⟩ w' S' ∧ GOk ⟨C.w0, C.S0, C.W0, 0, fun _ => none⟩ w' S' fin') a w := by
  obtain ⟨_, hR, _⟩ := rel_fresh (X := C) hk hnt hdf hpv hT hfl hb hn hg hs
  refine evC_ok hE hC (nt := fn.ntmps) (pins := pinsOf 0 ps) hsize hpd n c hck hR hev ?_
  intro x M a w' γ S' h hk
  have fin : (rdPins 0 ps fun qs => resOf E fn.results.toList fun rs => ext i.tout (qs ++ rs) [] [] fun L _ _ => tell L).told M some = some L' →
      a.defers = [] ∧ ∃ v, (results fn a.tmps).run E.P w' = .ok v w' ∧ ∃ S'' fin' Rv, Ending.returned v = .returned (resV Rv) ∧ TRep w' S'' i.tout (V0 ++ Rv) L' [] fin' ∧ Keep ⟨C.w0, C.S0, C.W0, 0, fun _ => none⟩ w' S'' ∧ GOk ⟨C.w0, C.S0, C.W0, 0, fun _ => none⟩ w' S'' fin' := by
    intro hk
    obtain ⟨k, L1, hg, hL⟩ := told_some hk
    cases hL
    obtain ⟨qs, hq, hg1⟩ := gets_rdPins h (Vs := V0) hl (fun k s v h1 h2 h3 => by
      have hm := pinsOf_mem (j := 0) h1 h2
      rw [h.pin (0 + k) v (hpins _ _ hm (by rw [Nat.zero_add]; exact h3))]) hg
    obtain ⟨ss, Rv, hs, hres, hg2⟩ := gets_resOf hE h hg1
    obtain ⟨L1, ids, fz, G', hG, hfz, _, hap, hids, _, hg3, hTr⟩ := gets_ext h (hq.app hs) (acc := []) (accG := []) ⟨fun j id h => by simp at h, fun i j id h => by simp at h⟩ .nil (FzList.nil M) hg2
    have := gets_ret hg3
    simp only [List.cons.injEq, Prod.mk.injEq, Ent.sv.injEq, SV.fv.injEq, FV.agg.injEq, and_true] at this
    obtain ⟨_, rfl⟩ := this
    obtain ⟨S1, s1, _, hR1⟩ := h.freezes hfz
    have hT1 := hTr S1 s1 hR1
    refine ⟨h.nodef, _, results_run hres, S1, G', Rv, rfl, hT1, keep_cx (X := C) (Y := ⟨C.w0, C.S0, C.W0, 0, fun _ => none⟩) rfl rfl rfl hR1.keep, gok_cx (X := C) (Y := ⟨C.w0, C.S0, C.W0, 0, fun _ => none⟩) rfl rfl (.of hR1 hG hids hap)⟩
  cases x with
  | normal => exact fin hk
  | ret => exact fin hk
  | exit id => simp [kRet] at hk

end
end Rf
