/- Functions: what is computed of leaves is what a call answers. -/
import Derived.Test.YtebaohjeodeaoaaGreatDoorRf24
namespace Rf
open Go

def SV.isDead : SV → Bool
  | .dead => true
  | _ => false

theorem pinsOf_mem : ∀ {ps : List SV} {j k : Nat} {s : SV}, ps[k]? = some s → s.isDead = false → j + k ∈ pinsOf j ps
  | [], j, k, s, h, _ => by simp at h
  | p :: ps, j, k, s, h, hd => by
    cases k with
    | zero => simp at h; subst h; cases p <;> first | (simp [SV.isDead] at hd; done) | simp [pinsOf]
    | succ k =>
      have := pinsOf_mem (j := j + 1) (by simpa using h) hd
      rw [show j + 1 + k = j + (k + 1) by omega] at this
      cases p <;> simp only [pinsOf] <;> first | exact this | exact List.mem_cons_of_mem _ this

/-- what a result reads as -/
def ResRd (P : Program) (w : World) (tmps : Array Value) (r : ResultVar) (v : Value) : Prop :=
  (match r with
      | .tmp t => pure (tmps.getD t undef)
      | .cell a t => do loadVar t (← asAddr (tmps.getD a undef)) : Sem Value).run P w = .ok v w

theorem seqA_mapM {P : Program} {w : World} (tmps : Array Value) : ∀ (l : List ResultVar) (Vs : List Value), All2 (ResRd P w tmps) l Vs →
    (l.mapM (fun (r : ResultVar) => (match r with
      | .tmp t => pure (tmps.getD t undef)
      | .cell a t => do loadVar t (← asAddr (tmps.getD a undef)) : Sem Value))).run P w = .ok Vs w
  | _, _, .nil => by simp
  | _, _, .cons (xs := l) (ys := Vs) h t => by
    have ih := seqA_mapM (P := P) (w := w) tmps l Vs t
    unfold ResRd at h
    rw [List.mapM_cons]
    simp only [Sem.run_bind, Sem.run_pure, Result.andThen_ok, ih, h]

section
variable {E : Env} {call : FuncId → List FV → Res} {C : Cx} {M : Mem} {a : Act} {w : World} {γ : Nat → Gh} {S : Nat → Prop} {us : List (Key × Ent)} {R : List FV} {an : Ann}

theorem gets_rdPins (h : Rel C M a w γ S) : ∀ {ps : List SV} {Vs : List Value} {j : Nat} {f : List SV → RT}, ps.length = Vs.length → (∀ (k : Nat) (s : SV) (v : Value), ps[k]? = some s → s.isDead = false → Vs[k]? = some v → a.tmps.getD (j + k) undef = v) → Gets (rdPins j ps f) M us →
    ∃ qs, All2 (SRep w S γ (hdOf M)) qs Vs ∧ Gets (f qs) M us
  | [], [], j, f, _, _, hg => ⟨[], .nil, hg⟩
  | [], _ :: _, _, _, hl, _, _ => by simp at hl
  | _ :: _, [], _, _, hl, _, _ => by simp at hl
  | p :: ps, v :: Vs, j, f, hl, hp, hg => by
    have rest : ∀ {f : List SV → RT}, Gets (rdPins (j + 1) ps f) M us → ∃ qs, All2 (SRep w S γ (hdOf M)) qs Vs ∧ Gets (f qs) M us := fun hg =>
      gets_rdPins h (by simpa using hl) (fun k s v h1 h2 h3 => by
        rw [show j + 1 + k = j + (k + 1) by omega]
        exact hp (k + 1) s v (by simpa using h1) h2 (by simpa using h3)) hg
    unfold rdPins at hg
    split at hg
    · obtain ⟨qs, h1, h2⟩ := rest hg
      exact ⟨.dead :: qs, .cons .dead h1, h2⟩
    · rename_i hnd
      obtain ⟨e, he, hg⟩ := gets_rd hg
      split at hg
      · rename_i s
        obtain ⟨qs, h1, h2⟩ := rest hg
        have hd : p.isDead = false := by cases p <;> first | rfl | exact absurd rfl (hnd)
        have := hp 0 p v rfl hd rfl
        rw [Nat.add_zero] at this
        exact ⟨s :: qs, .cons (by rw [← this]; exact h.slot j s he) h1, h2⟩
      · exact (gets_fail hg).elim

theorem gets_resOf (hE : EnvOk E) (h : Rel C M a w γ S) : ∀ {l : List ResultVar} {f : List SV → RT}, Gets (resOf E l f) M us →
    ∃ ss Vs, All2 (SRep w S γ (hdOf M)) ss Vs ∧ All2 (ResRd E.P w a.tmps) l Vs ∧ Gets (f ss) M us
  | [], f, hg => ⟨[], [], .nil, .nil, hg⟩
  | .tmp t :: l, f, hg => by
    unfold resOf at hg
    obtain ⟨e, he, hg⟩ := gets_rd hg
    split at hg
    · rename_i s
      obtain ⟨ss, Vs, h1, h2, h3⟩ := gets_resOf hE h hg
      exact ⟨s :: ss, a.tmps.getD t undef :: Vs, .cons (h.slot t s he) h1, .cons (by simp [ResRd]) h2, h3⟩
    · exact (gets_fail hg).elim
  | .cell c t :: l, f, hg => by
    unfold resOf at hg
    obtain ⟨e, he, hg⟩ := gets_rd hg
    split at hg
    · rename_i s
      obtain ⟨ti, inf, d, z, hT, hg1⟩ := gets_ty hE hg
      obtain ⟨b, p, s', v, e1, e2, e3, hg2⟩ := gets_load hT h (h.slot c s he) hg1
      obtain ⟨ss, Vs, h1, h2, h3⟩ := gets_resOf hE h hg2
      refine ⟨s' :: ss, v :: Vs, .cons e3 h1, .cons ?_ h2, h3⟩
      simp [ResRd, e1, asAddr, e2]
    · exact (gets_fail hg).elim

theorem results_run {P : Program} {w : World} {fn : Func} {tmps : Array Value} {Vs : List Value} (h : All2 (ResRd P w tmps) fn.results.toList Vs) : (results fn tmps).run P w = .ok (resV Vs) w := by
  have := seqA_mapM (P := P) (w := w) tmps _ _ h
  unfold results
  rw [Array.mapM_eq_mapM_toList]
  simp only [Sem.run_bind, Sem.run_map, Sem.run_pure]
  refine (congrArg (fun (r : Result (List Value)) => (r.andThen fun a w' => Result.ok a.toArray w').andThen fun a w' => Result.ok (if h : a.size = 1 then a[0] else Value.tuple a) w') this).trans ?_
  unfold resV
  match Vs with
  | [] => rfl
  | [v] => rfl
  | v :: u :: r => rfl

theorem keep_cx {X Y : Cx} (h0 : X.w0 = Y.w0) (h1 : X.S0 = Y.S0) (h2 : X.W0 = Y.W0) (h : Keep X w S) : Keep Y w S := by
  obtain ⟨a, b, c, d, e, f, g, i, t1, t2⟩ := h
  rw [h0] at a b c d e i t1
  rw [h1] at g i t1 t2
  rw [h2] at b i t2
  exact ⟨a, b, c, d, e, f, g, i, t1, t2⟩

theorem gok_cx {X Y : Cx} (h0 : X.w0 = Y.w0) (h2 : X.W0 = Y.W0) {G : GA} (h : GOk X w S G) : GOk Y w S G := by
  obtain ⟨a, b⟩ := h
  rw [h0, h2] at a
  exact ⟨a, b⟩

theorem bld_len {nm : List Nat} {T : List Tok} {V : List Value} {L : List FV} {G : GA} {svs : List SV} {r : List FV} (hT : TRep w S T V L [] G) (hfl : flatOk 0 T = true) (hb : bld nm 0 T L = some (us, svs, r)) (hn : NInj nm) : svs.length = V.length := by
  obtain ⟨b1, b2⟩ := bld_keys hn hb
  obtain ⟨_, k2, _⟩ := bld_ok (M' := us) (γ' := ghAt nm G) hT hb b2 (ghAt_get hn) (fun i g q k h => by simp at h) hfl
  exact k2.len

theorem evFb_ok (hE : EnvOk E) (hC : CallOk E call) {n : Nat} {f : FuncId} {i : FnI} {L L' : List FV} (hi : E.fn f = some i) (hev : evFb E call n f L = some L') : Enters E.P f ∧ CSpec E.P f i L L' := by
  unfold evFb at hev
  rw [hi] at hev
  split at hev
  · rename_i i' fn hi' hfc
    cases hi'
    obtain ⟨hf, hname⟩ := hE.fc f fn hfc
    split at hev
    · rename_i c us svs hbody hbld
      cases hck : (flatOk 0 i.tin && codeOk fn.ntmps (pinsOf 0 (svs.map kept)) c) with
      | false => rw [hck] at hev; simp at hev
      | true =>
        rw [hck, cond_true] at hev
        simp only [Bool.and_eq_true] at hck
        refine ⟨⟨fn, hf, by rw [hbody]; rfl, hname⟩, fun w S V G hS htab hT hgo => ?_⟩
        have hnm := namesFrom_inj 1000 (owns i.tin)
        have hlen : svs.length = V.length := bld_len hT hck.1 hbld hnm
        refine calls_of_wp hf hbody ?_
        generalize ha : ({ tmps := V.toArray ++ Array.replicate (fn.ntmps - V.toArray.size) undef, defers := [] } : Act) = a0
        have hsize : fn.ntmps ≤ a0.tmps.size := by subst ha; simp; omega
        have hget : ∀ (t : Nat) (v : Value), V[t]? = some v → a0.tmps.getD t undef = v := fun t v hv => by
          subst ha
          have hlt := (List.getElem?_eq_some_iff.1 hv).1
          rw [Array.getD_eq_getD_getElem?, Array.getElem?_append_left (by simpa using hlt), List.getElem?_toArray, hv]
          rfl
        let pin : Nat → Option Value := fun t => if t ∈ pinsOf 0 (svs.map kept) then some (a0.tmps.getD t undef) else none
        let C : Cx := ⟨w, S, Given G, a0.tmps.size, pin⟩
        have hkeep : Keep C w S := ⟨Nat.le_refl _, fun _ _ _ => rfl, rfl, rfl, rfl, hS, fun _ h => h, fun _ h => .inl h, htab, fun b ⟨i, g, sh, q1, q2, q3⟩ => by subst q3; exact (hgo.own i g sh q1 q2).2.1⟩
        have hpinv : ∀ t v, C.pin t = some v → a0.tmps.getD t undef = v := fun t v h => by
          simp only [C, pin] at h
          split at h
          · cases h; rfl
          · cases h
        have hsl : All2 (fun t v => a0.tmps.getD t undef = v) (namesFrom 0 svs.length) V := .of (by
            have : ∀ (n b : Nat), (namesFrom b n).length = n := fun n => by
              induction n with
              | zero => intro b; rfl
              | succ n ih => intro b; simp [namesFrom, ih]
            rw [this, hlen]) fun j t v h1 h2 => by
          have := namesFrom_get h1
          rw [Nat.zero_add] at this
          subst this
          exact hget t v h2
        obtain ⟨_, hR, _⟩ := rel_fresh (X := C) hkeep rfl (by subst ha; rfl) hpinv hT hck.1 hbld hnm (gok_cx (X := ⟨w, S, Given G, 0, fun _ => none⟩) (Y := C) rfl rfl hgo) hsl
        refine evC_ok hE hC (nt := fn.ntmps) (pins := pinsOf 0 (svs.map kept)) hsize (fun d hd => by simp only [C, pin]; rw [if_neg hd]) n c hck.2 hR hev ?_
        -- the end
        intro x M a w' γ S' h hk
        have fin : (rdPins 0 (svs.map kept) fun qs => resOf E fn.results.toList fun rs => ext i.tout (qs ++ rs) [] [] fun L _ _ => tell L).told M some = some L' →
            a.defers = [] ∧ ∃ v, (results fn a.tmps).run E.P w' = .ok v w' ∧ ∃ S'' fin' Rv, Ending.returned v = .returned (resV Rv) ∧ TRep w' S'' i.tout (V ++ Rv) L' [] fin' ∧ Keep ⟨w, S, Given G, 0, fun _ => none⟩ w' S'' ∧ GOk ⟨w, S, Given G, 0, fun _ => none⟩ w' S'' fin' := by
          intro hk
          obtain ⟨k, L1, hg, hL⟩ := told_some hk
          cases hL
          obtain ⟨qs, hq, hg1⟩ := gets_rdPins h (Vs := V) (by simpa using hlen) (fun k s v h1 h2 h3 => by
            have hm := pinsOf_mem (j := 0) h1 h2
            rw [h.pin (0 + k) (a0.tmps.getD (0 + k) undef) (by simp only [C, pin]; rw [if_pos hm]), Nat.zero_add]
            exact hget k v h3) hg
          obtain ⟨ss, Rv, hs, hres, hg2⟩ := gets_resOf hE h hg1
          obtain ⟨L1, ids, fz, G', hG, hfz, _, hap, hids, _, hg3, hTr⟩ := gets_ext h (hq.app hs) (acc := []) (accG := []) ⟨fun j id h => by simp at h, fun i j id h => by simp at h⟩ .nil (FzList.nil M) hg2
          have := gets_ret hg3
          simp only [List.cons.injEq, Prod.mk.injEq, Ent.sv.injEq, SV.fv.injEq, FV.agg.injEq, and_true] at this
          obtain ⟨_, rfl⟩ := this
          obtain ⟨S1, s1, _, hR1⟩ := h.freezes hfz
          have hT1 := hTr S1 s1 hR1
          refine ⟨h.nodef, _, results_run hres, S1, G', Rv, rfl, hT1, keep_cx (X := C) (Y := ⟨w, S, Given G, 0, fun _ => none⟩) rfl rfl rfl hR1.keep, gok_cx (X := C) (Y := ⟨w, S, Given G, 0, fun _ => none⟩) rfl rfl (.of hR1 hG hids hap)⟩
        cases x with
        | normal => exact fin hk
        | ret => exact fin hk
        | exit id => simp [kRet] at hk
    · simp at hev
  · simp at hev

/-- contracts of what is not computed here -/
def ExtOk (E : Env) : Prop := ∀ f g i L L', E.ext f = some g → E.fn f = some i → g L = some L' → Enters E.P f ∧ CSpec E.P f i L L'

/-- WHAT IS COMPUTED OF LEAVES IS WHAT A CALL ANSWERS. -/
theorem evF_ok (hE : EnvOk E) (hX : ExtOk E) : ∀ n, CallOk E (evF E n)
  | 0 => fun f i L L' _ h => by simp [evF] at h
  | n + 1 => fun f i L L' hi h => by
    simp only [evF] at h
    split at h
    · rename_i g hg
      exact hX f g i L L' hg hi h
    · exact evFb_ok hE (evF_ok hE hX n) hi h

end
end Rf
