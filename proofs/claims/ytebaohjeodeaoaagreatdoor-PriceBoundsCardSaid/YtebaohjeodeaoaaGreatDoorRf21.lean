/- An operation that calls a function. -/
import Derived.Test.YtebaohjeodeaoaaGreatDoorRf20
import Derived.Laws.Externs
namespace Rf
open Go

def Enters (P : Program) (f : FuncId) : Prop := ∃ fn, P.funcs[f]? = some fn ∧ fn.body.isSome = true ∧ (fn.name == "runtime.NumGoroutine") = false

def resV (R : List Value) : Value := match R with | [r] => r | R => .tuple R.toArray

/-- what a call of a function does, by its leaves -/
def CSpec (P : Program) (f : FuncId) (i : FnI) (L L' : List FV) : Prop :=
  ∀ (w : World) (S : Nat → Prop) (V : List Value) (G : GA), (∀ b, S b → b < w.heap.size) → Tabs w S → TRep w S i.tin V L [] G → GOk ⟨w, S, Given G, 0, fun _ => none⟩ w S G →
    Calls P f V.toArray w fun e w' => ∃ S' fin' R, e = .returned (resV R) ∧ TRep w' S' i.tout (V ++ R) L' [] fin' ∧ Keep ⟨w, S, Given G, 0, fun _ => none⟩ w' S' ∧ GOk ⟨w, S, Given G, 0, fun _ => none⟩ w' S' fin'

def CallOk (E : Env) (call : FuncId → List FV → Res) : Prop := ∀ f i L L', E.fn f = some i → call f L = some L' → Enters E.P f ∧ CSpec E.P f i L L'

section
variable {E : Env} {call : FuncId → List FV → Res} {X : Cx} {M : Mem} {a : Act} {w : World} {γ : Nat → Gh} {S : Nat → Prop} {us : List (Key × Ent)} {o : Oper}

theorem gets_freshAll {t : RT} : ∀ {ids : List Nat}, Gets (freshAll ids t) M us → (∀ id, id ∈ ids → hdOf M id = none) ∧ Gets t M us
  | [], h => ⟨fun id h => by simp at h, h⟩
  | id :: ids, h => by
    unfold freshAll at h
    obtain ⟨h1, h2⟩ := gets_fresh h
    obtain ⟨h3, h4⟩ := gets_freshAll h2
    exact ⟨fun i hi => (List.mem_cons.1 hi).elim (fun q => by rw [q]; exact h1) (h3 i), h4⟩

theorem asInt_some {k : IntKind} {x : Option FV} {n : Int} (h : asInt k x = some n) : x = some (.int k n) := by
  unfold asInt at h
  split at h
  · split at h
    · rename_i q; subst q; cases h; rfl
    · simp at h
  · simp at h

theorem asBool_some {x : Option FV} {n : Bool} (h : asBool x = some n) : x = some (.bool n) := by
  unfold asBool at h
  split at h
  · cases h; rfl
  · simp at h

theorem asStr_some {x : Option FV} {n : ByteArray} (h : asStr x = some n) : x = some (.str n) := by
  unfold asStr at h
  split at h
  · cases h; rfl
  · simp at h

theorem asLst_some {sz : Nat} {xs ys : List FV} {x : Option FV} (h : asLst sz x = some ys) (hx : x = some (.list sz xs)) : ys = xs := by
  subst hx
  simp [asLst] at h
  exact h.symm

/-- leaves, decoded: the same -/
theorem gets_dec {L : List FV} : ∀ {T : List Tok} {j : Nat} {f : List FV → RT}, Gets (dec L j T f) M us →
    ∃ L2, Gets (f L2) M us ∧ ∀ (w : World) (S : Nat → Prop) (V : List Value) (acc fin : GA), TRep w S T V (L.drop j) acc fin → L2 = L.drop j
  | [], j, f, h => ⟨[], h, fun w S V acc fin hT => hT.2.1.symm⟩
  | t :: T, j, f, h => by
    have leaf : ∀ {x : FV}, (∀ (w : World) (S : Nat → Prop) (V : List Value) (acc fin : GA), TRep w S (t :: T) V (L.drop j) acc fin → ∃ V' acc', L[j]? = some x ∧ TRep w S T V' (L.drop (j + 1)) acc' fin) →
        Gets (dec L (j + 1) T fun r => f (x :: r)) M us → ∃ L2, Gets (f L2) M us ∧ ∀ (w : World) (S : Nat → Prop) (V : List Value) (acc fin : GA), TRep w S (t :: T) V (L.drop j) acc fin → L2 = L.drop j := by
      intro x hx hg
      obtain ⟨L2, h1, h2⟩ := gets_dec hg
      refine ⟨x :: L2, h1, fun w S V acc fin hT => ?_⟩
      obtain ⟨V', acc', q1, q2⟩ := hx w S V acc fin hT
      obtain ⟨hlt, hxx⟩ := List.getElem?_eq_some_iff.1 q1
      rw [h2 w S V' acc' fin q2, ← hxx, List.drop_eq_getElem_cons hlt]
    have hd : ∀ {y : FV} {L' : List FV}, L.drop j = y :: L' → L[j]? = some y ∧ L' = L.drop (j + 1) := fun {y L'} h => by
      have hlt : j < L.length := by
        apply Classical.byContradiction
        intro hn
        rw [List.drop_eq_nil_of_le (by omega)] at h; cases h
      rw [List.drop_eq_getElem_cons hlt] at h
      cases h
      exact ⟨List.getElem?_eq_getElem hlt, rfl⟩
    unfold dec at h
    cases t with
    | int k =>
      obtain ⟨n, h1, h2⟩ := gets_int h
      refine leaf (fun w S V acc fin hT => ?_) h2
      obtain ⟨v, V', x, L', _, q, _, _, hT⟩ := hT
      obtain ⟨_, rfl⟩ := hd q
      exact ⟨V', acc, asInt_some h1, hT⟩
    | bool =>
      obtain ⟨n, h1, h2⟩ := gets_boo h
      refine leaf (fun w S V acc fin hT => ?_) h2
      obtain ⟨v, V', x, L', _, q, _, _, hT⟩ := hT
      obtain ⟨_, rfl⟩ := hd q
      exact ⟨V', acc, asBool_some h1, hT⟩
    | str =>
      obtain ⟨n, h1, h2⟩ := gets_str h
      refine leaf (fun w S V acc fin hT => ?_) h2
      obtain ⟨v, V', x, L', _, q, _, _, hT⟩ := hT
      obtain ⟨_, rfl⟩ := hd q
      exact ⟨V', acc, asStr_some h1, hT⟩
    | lst sz =>
      obtain ⟨n, h1, h2⟩ := gets_lst h
      refine leaf (fun w S V acc fin hT => ?_) h2
      obtain ⟨v, V', x, L', _, q, hl, _, hT⟩ := hT
      obtain ⟨q1, rfl⟩ := hd q
      cases x <;> simp only [leafT] at hl
      subst hl
      have := asLst_some h1 q1
      subst this
      exact ⟨V', acc, q1, hT⟩
    | own sz =>
      obtain ⟨n, h1, h2⟩ := gets_lst h
      refine leaf (fun w S V acc fin hT => ?_) h2
      obtain ⟨g, xs, V', L', _, q, _, hT⟩ := hT
      obtain ⟨q1, rfl⟩ := hd q
      have := asLst_some h1 q1
      subst this
      exact ⟨V', _, q1, hT⟩
    | fn => exact (gets_fail h).elim
    | raw u =>
      refine leaf (fun w S V acc fin hT => ?_) h
      obtain ⟨v, V', x, L', _, q, hl, _, hT⟩ := hT
      obtain ⟨q1, rfl⟩ := hd q
      cases x <;> simp only [leafT] at hl
      obtain ⟨rfl, _⟩ := hl
      exact ⟨V', acc, q1, hT⟩
    | skip =>
      obtain ⟨L2, h1, h2⟩ := gets_dec h
      refine ⟨L2, h1, fun w S V acc fin hT => ?_⟩
      obtain ⟨v, V', _, hT⟩ := hT
      exact h2 _ _ _ _ _ hT
    | obj k =>
      obtain ⟨L2, h1, h2⟩ := gets_dec h
      refine ⟨L2, h1, fun w S V acc fin hT => ?_⟩
      obtain ⟨g, vals, e, V', _, _, _, _, hT⟩ := hT
      exact h2 _ _ _ _ _ hT
    | ref i =>
      obtain ⟨L2, h1, h2⟩ := gets_dec h
      refine ⟨L2, h1, fun w S V acc fin hT => ?_⟩
      obtain ⟨g, r, k, V', _, _, _, hT⟩ := hT
      exact h2 _ _ _ _ _ hT
    | agg k =>
      obtain ⟨L2, h1, h2⟩ := gets_dec h
      refine ⟨L2, h1, fun w S V acc fin hT => ?_⟩
      obtain ⟨cs, V', _, _, hT⟩ := hT
      exact h2 _ _ _ _ _ hT
    | clo fn k =>
      obtain ⟨L2, h1, h2⟩ := gets_dec h
      refine ⟨L2, h1, fun w S V acc fin hT => ?_⟩
      obtain ⟨cs, V', _, _, hT⟩ := hT
      exact h2 _ _ _ _ _ hT
    | mapt kag ks z =>
      obtain ⟨es, h1, h2⟩ := gets_lst h
      obtain ⟨clk, h3, h4⟩ := gets_int h2
      obtain ⟨L2, q1, q2⟩ := gets_dec h4
      refine ⟨_, q1, fun w S V acc fin hT => ?_⟩
      obtain ⟨g, es', clk', V', L', _, q, _, _, hT⟩ := hT
      obtain ⟨p1, p2⟩ := hd q
      have hlt : j + 1 < L.length := by
        apply Classical.byContradiction
        intro hn
        rw [List.drop_eq_nil_of_le (by omega)] at p2; cases p2
      rw [List.drop_eq_getElem_cons hlt] at p2
      simp only [List.cons.injEq] at p2
      obtain ⟨p3, rfl⟩ := p2
      have e1 := asLst_some h1 p1
      subst e1
      have e2 := asInt_some h3
      rw [List.getElem?_eq_getElem hlt, ← p3] at e2
      simp only [Option.some.injEq, FV.int.injEq, true_and] at e2
      rw [q2 w S V' _ fin hT, q, e2]

theorem run_enter {P : Program} {f : FuncId} {args : Array Value} (h : Enters P f) : (callFunc f args).run P w = .ok (.enter f args) w := by
  obtain ⟨fn, h1, h2, h3⟩ := h
  have h4 : fn.name ≠ "runtime.NumGoroutine" := by simpa using h3
  have h5 : fn.body ≠ none := by intro q; rw [q] at h2; cases h2
  simp [callFunc, h1, h4, h5, program, Sem.run]

theorem gok_self {S : Nat → Prop} {G : GA} (h : GOk X w S G) : GOk ⟨w, S, Given G, 0, fun _ => none⟩ w S G :=
  ⟨fun i g sh q1 q2 => let q := h.own i g sh q1 q2; ⟨q.1, q.2.1, .inl ⟨i, g, sh, q1, q2, rfl⟩⟩, h.inj⟩

/-- the heart of a call -/
theorem callOp_ok (hC : CallOk E call) (h : Rel X M a w γ S) {d : Nat} (hd : X.Dst d) {f : FuncId} {svs : List SV} {V : List Value} (hs : All2 (SRep w S γ (hdOf M)) svs V) (hg : Gets (callOp E call (some d) f svs) M us) :
    Enters E.P f ∧ Calls E.P f V.toArray w fun e w' => ∃ v γ' S', e = .returned v ∧ Rel X (us ++ M) (a.put (some d) v) w' γ' S' := by
  unfold callOp at hg
  split at hg
  · rename_i i d' hi hd'
    cases hd'
    obtain ⟨hb, hg⟩ := gets_bif hg
    simp only [Bool.and_eq_true] at hb
    obtain ⟨hio, hfi, hfo⟩ := hb
    obtain ⟨L, ids, fz, G, hG, hfz, _, hap, hids, _, hg1, hT⟩ := gets_ext h hs (acc := []) (accG := []) ⟨fun j id h => by simp at h, fun i j id h => by simp at h⟩ .nil (FzList.nil M) hg
    obtain ⟨L', hcall, hg2⟩ := gets_lst hg1
    obtain ⟨L2, hg3, hdec⟩ := gets_dec hg2
    split at hg3
    · rename_i ws rs hbld
      obtain ⟨hfr, hg4⟩ := gets_freshAll hg3
      have hus := gets_ret hg4
      obtain ⟨hent, hspec⟩ := hC f i L L' hi hcall
      refine ⟨hent, ?_⟩
      obtain ⟨S1, s1, _, hR1⟩ := h.freezes hfz
      have hT1 := hT S1 s1 hR1
      have gok1 : GOk X w S1 G := .of hR1 hG hids hap
      refine (hspec w S1 V G hR1.keep.bound hR1.keep.tabs hT1 (gok_self gok1)).mono ?_
      rintro e w' ⟨S', fin', R, rfl, hU, hk, hgo⟩
      have hL2 : L2 = L' := by simpa using hdec w' S' (V ++ R) [] fin' (by simpa using hU)
      subst hL2
      have fin : ∃ us0 S'', us = (.slot d, .sv (match rs.drop svs.length with | [r] => r | rs => .tup rs)) :: (ws ++ (tombsOf (tops 0 i.tin) ids ++ us0)) ∧
          ∃ γ', Rel X (ws ++ (tombsOf (tops 0 i.tin) ids ++ us0) ++ M) a w' γ' S'' ∧ All2 (SRep w' S'' γ' (hdOf (ws ++ (tombsOf (tops 0 i.tin) ids ++ us0) ++ M))) rs (V ++ R) ∧
            ∀ t, Mem.get (.slot t) (ws ++ (tombsOf (tops 0 i.tin) ids ++ us0) ++ M) = Mem.get (.slot t) M := by
        cases hsc : scalarOut i.tout with
        | true =>
          rw [hsc] at hus
          refine ⟨[], S, hus, ?_⟩
          exact rel_called hR1 (us0 := []) (S2 := S) h (FzList.nil M) hG hids hap (by
            clear hfr hus hG hap hids hT hT1 gok1 hg1
            induction ids with
            | nil => rfl
            | cons _ _ _ => rfl) hT1 (hU.scalar hsc) hk hgo hio hfo hbld hfr s1 (fun b h => h) (fun b h => hk.smon b (s1 b h)) (fun b h => .inl h)
        | false =>
          rw [hsc] at hus
          refine ⟨fz, S', hus, ?_⟩
          exact rel_called hR1 hR1 hfz hG hids hap hap hT1 hU hk hgo hio hfo hbld hfr (fun b h => h) hk.smon (fun b h => h) hk.sfrom
      obtain ⟨us0, S'', hus2, γ', hR, hall, _⟩ := fin
      have hres := hall.drop svs.length
      rw [hs.len, List.drop_left' rfl] at hres
      refine ⟨resV R, γ', S'', rfl, ?_⟩
      rw [hus2]
      refine hR.put hd ?_
      rw [hs.len]
      generalize rs.drop V.length = qs at hres
      cases hres with
      | nil => exact .tup rfl (fun j s hj => by simp at hj)
      | cons hx hr =>
        cases hr with
        | nil => exact hx
        | cons hy hr =>
          obtain ⟨q1, q2⟩ := (All2.cons hx (.cons hy hr)).toArr (vs := List.toArray _)
          exact .tup q1 q2
    · exact (gets_fail hg3).elim
  · exact (gets_fail hg).elim

theorem sim_call {fx : Operand} {args : Array Operand} {ats : Array TypeId} (hC : CallOk E call) (h : Rel X M a w γ S) (hd : ∀ d, o.dst = some d → X.Dst d) (hop : o.op = .call { callee := .value fx, args := args, argTypes := ats })
    (hg0 : Gets (rtOp E call o) M us) : Goal E.P X M o a w us := by
  simp only [rtOp, hop] at hg0
  obtain ⟨s, hs, hg1⟩ := gets_opd h hg0
  obtain ⟨ss, hl, hss, hg2⟩ := gets_opds h hg1
  clear hg0 hg1
  have hargs : All2 (SRep w S γ (hdOf M)) ss (args.map a.eval).toList := .of (by simp [hl]) fun j x y h1 h2 => by
    have hj : j < args.toList.length := by rw [← hl]; exact (List.getElem?_eq_some_iff.1 h1).1
    obtain ⟨s', q1, q2⟩ := hss j args.toList[j] (List.getElem?_eq_getElem hj)
    rw [h1] at q1; cases q1
    rw [Array.toList_map, List.getElem?_map, List.getElem?_eq_getElem hj] at h2
    simp only [Option.map_some, Option.some.injEq] at h2
    rw [← h2]; exact q2
  have fin : ∀ (g : FuncId) (cs : List SV) (c : Array Value), a.eval fx = .func (.func g) #[] c → All2 (SRep w S γ (hdOf M)) cs c.toList → Gets (callOp E call o.dst g (ss ++ cs)) M us → Goal E.P X M o a w us := by
    intro g cs c hv hcs hg
    cases hdst : o.dst with
    | none => rw [hdst] at hg; unfold callOp at hg; split at hg
              · rename_i h; cases h
              · exact (gets_fail hg).elim
    | some d =>
      rw [hdst] at hg
      obtain ⟨hent, hcalls⟩ := callOp_ok hC h (hd d hdst) (hargs.app hcs) hg
      have harr : ((args.map a.eval).toList ++ c.toList).toArray = args.map a.eval ++ c := by simp
      rw [harr] at hcalls
      have hrun : (execOp a.eval o).run E.P w = .ok (.enter g (args.map a.eval ++ c)) w := by
        simp [execOp, hop, resolve, hv, Deferred.ofValue, invoke, run_enter hent]
      intro next Q hn
      unfold Oper.wp
      rw [hrun, Oper.upon_enter]
      refine hcalls.mono ?_
      rintro e w' ⟨v, γ', S', rfl, hR⟩
      rw [← hdst] at hR
      exact hn v w' γ' S' hR
  unfold callee at hg2
  split at hg2
  · rename_i g
    have := hs.raw_inv
    refine fin g [] #[] this .nil ?_
    exact hg2
  · rename_i g cs
    obtain ⟨f, c, hv, hf, hc, _, hr⟩ := hs.clo_inv
    have : f = #[] := by apply Array.ext'; simpa using hf
    subst this
    exact fin g cs c hv (.ofArr hc hr) hg2
  · exact (gets_fail hg2).elim

end
end Rf
