/- Loads, stores, new variables. -/
import Derived.Test.YtebaohjeodeaoaaGreatDoorRf7
namespace Rf
open Go

section
variable {P : Program} {t : TypeId} {i : TyI} {inf : TypeInfo} {d : TypeDesc} {z : Value}

theorem run_loadVar_agg (hT : TyOk P t i inf d z) (ha : i.agg = true) {w : World} {b p : Nat} (cs : List Value) (hl : cs.length = i.size) (h : ∀ (j : Nat) (v : Value), cs[j]? = some v → cellAt w b (p + j) = some v) :
    (loadVar t ⟨b, p, none⟩).run P w = .ok (.agg cs.toArray) w := by
  have := run_loadCells_list (P := P) w ⟨b, p, none⟩ cs (fun j v hv => by rw [addr_add]; exact h j v hv)
  simp [loadVar, hT.runA, ha, hT.runS, ← hl, this]

theorem run_loadVar_one (hT : TyOk P t i inf d z) (ha : i.agg = false) {w : World} {b p : Nat} {v : Value} (h : cellAt w b p = some v) : (loadVar t ⟨b, p, none⟩).run P w = .ok v w := by
  have h' : w.cell? ⟨b, p, none⟩ = some v := h
  simp [loadVar, hT.runA, ha, h']

theorem TyOk.one (h : TyOk P t i inf d z) (ha : i.agg = false) : ∃ k, i.ck = [k] ∧ i.size = 1 := by
  have hc := h.scalar ha
  have hl := h.len
  unfold ck1 at hc
  split at hc <;> first | (simp at hc; done) | (rename_i hk; rw [hk] at hl; exact ⟨_, hk, by simpa using hl.symm⟩)

theorem run_storeVar (hT : TyOk P t i inf d z) {w : World} {b p : Nat} {v : Value} {cur : Array Value} {e : TypeId} (hs : v.cells.size = i.size) (hg : w.heap[b]? = some (.cells cur e (0, 0))) (hl : p + i.size ≤ cur.size)
    (h1 : ∀ u ∈ v.cells.toList, u.oneCell' = true) :
    (storeVar t ⟨b, p, none⟩ v).run P w = .ok () (w.setRow b (cur.toList.take p ++ v.cells.toList ++ cur.toList.drop (p + i.size)).toArray) := by
  have := run_storeCells_at P b p e v.cells.toList 0 cur w hg (by simp [hs]; omega) h1
  simp only [Nat.add_zero, Array.length_toList, hs] at this
  simp only [storeVar, Sem.run_bind, hT.runS, Result.andThen_ok, hs, ne_eq, not_true_eq_false, if_false]
  exact this
end

theorem But.setRow (w : World) (b : Nat) (cs : Array Value) : But b w (w.setRow b cs) :=
  ⟨by simp [World.setRow], fun k hk _ => setRow_other w b k cs hk, rfl, rfl, rfl⟩

section
variable {E : Env} {call : FuncId → List FV → Res} {X : Cx} {M : Mem} {a : Act} {w : World} {γ : Nat → Gh} {S : Nat → Prop} {us : List (Key × Ent)} {o : Oper}

theorem gets_rdCells {id : Nat} : ∀ {n off : Nat} {f : List SV → RT}, Gets (rdCells id off n f) M us →
    ∃ vs, vs.length = n ∧ (∀ (j : Nat) (s : SV), vs[j]? = some s → Mem.get (.cell id (off + j)) M = some (.sv s)) ∧ Gets (f vs) M us
  | 0, off, f, h => ⟨[], rfl, fun j s hj => by simp at hj, h⟩
  | n + 1, off, f, h => by
    unfold rdCells at h
    obtain ⟨e, he, h⟩ := gets_rd h
    split at h
    · rename_i v
      obtain ⟨vs, h1, h2, h3⟩ := gets_rdCells h
      refine ⟨v :: vs, by simp [h1], fun j s hj => ?_, h3⟩
      cases j with
      | zero => simp at hj; subst hj; exact he
      | succ j => have := h2 j s (by simpa using hj); rwa [Nat.add_assoc, Nat.add_comm 1 j] at this
    · exact (gets_fail h).elim

theorem gets_rdFV {x : Option FV} {k : CK} {f : SV → RT} (h : Gets (rdFV x k f) M us) :
    ∃ e s, x = some e ∧ s.flat = true ∧ (∀ (w : World) (S : Nat → Prop) (γ : Nat → Gh) (hd : Nat → Option Ent) (v : Value), FRep w S e v → SRep w S γ hd s v) ∧ Gets (f s) M us := by
  unfold rdFV at h
  split at h
  · obtain ⟨n, hn, h'⟩ := gets_int h
    clear h
    unfold asInt at hn
    split at hn
    · rename_i k0 k' m
      split at hn
      · rename_i hk; subst hk; cases hn
        exact ⟨_, _, rfl, rfl, fun w S γ hd v hv => .fv hv, h'⟩
      · simp at hn
    · simp at hn
  · obtain ⟨n, hn, h⟩ := gets_boo h
    unfold asBool at hn
    split at hn
    · cases hn; exact ⟨_, _, rfl, rfl, fun w S γ hd v hv => .fv hv, h⟩
    · simp at hn
  · obtain ⟨n, hn, h⟩ := gets_str h
    unfold asStr at hn
    split at hn
    · cases hn; exact ⟨_, _, rfl, rfl, fun w S γ hd v hv => .fv hv, h⟩
    · simp at hn
  · rename_i sz
    obtain ⟨n, hn, h'⟩ := gets_lst h
    clear h
    unfold asLst at hn
    split at hn
    · rename_i s xs
      split at hn
      · rename_i hk; subst hk; cases hn
        exact ⟨_, _, rfl, rfl, fun w S γ hd v hv => .fv hv, h'⟩
      · split at hn
        · cases hn
          refine ⟨_, _, rfl, rfl, fun w S γ hd v hv => .fv ?_, h'⟩
          obtain ⟨aa, cap, b, o, rfl, h1, h2, h3⟩ := FRep.list_iff.1 hv
          exact FRep.list_iff.2 ⟨aa, cap, b, o, rfl, h1, h2, fun x hx => by simp at hx, fun i j x c hx => by simp at hx⟩
        · simp at hn
    · simp at hn
  · exact (gets_fail h).elim

theorem gets_rdFVs {xs : List FV} {i : Nat} : ∀ {ks : List CK} {c : Nat} {f : List SV → RT}, Gets (rdFVs xs i c ks f) M us →
    ∃ ss, ss.length = ks.length ∧ (∀ (j : Nat) (s : SV), ss[j]? = some s → s.flat = true ∧ ∃ e, at' xs i (c + j) = some e ∧ ∀ (w : World) (S : Nat → Prop) (γ : Nat → Gh) (hd : Nat → Option Ent) (v : Value), FRep w S e v → SRep w S γ hd s v) ∧ Gets (f ss) M us
  | [], c, f, h => ⟨[], rfl, fun j s hj => by simp at hj, h⟩
  | k :: ks, c, f, h => by
    unfold rdFVs at h
    obtain ⟨e, s, h1, h2, h3, h⟩ := gets_rdFV h
    obtain ⟨ss, h4, h5, h⟩ := gets_rdFVs h
    refine ⟨s :: ss, by simp [h4], fun j s' hj => ?_, h⟩
    cases j with
    | zero => simp at hj; subst hj; exact ⟨h2, e, h1, h3⟩
    | succ j => have := h5 j s' (by simpa using hj); rwa [Nat.add_assoc, Nat.add_comm 1 j] at this

theorem at'_row {b p sz i c : Nat} {xs : List FV} {e : FV} (hr : Row w S b p sz xs) (h : at' xs i c = some e) : ∃ v, cellAt w b (p + (i * sz + c)) = some v ∧ FRep w S e v := by
  unfold at' at h
  obtain ⟨x, h1, h2⟩ := Option.bind_eq_some_iff.1 h
  exact hr.2 i c x e h1 h2

/-- a load out of a row -/
theorem load_row {t : TypeId} {ti : TyI} {inf : TypeInfo} {d : TypeDesc} {z : Value} (hT : TyOk E.P t ti inf d z) {b p sz i c : Nat} {xs : List FV} (hr : Row w S b p sz xs) {f : SV → RT} (hg : Gets (rdElem ti xs i c f) M us) :
    ∃ s v, (loadVar t ⟨b, p + (i * sz + c), none⟩).run E.P w = .ok v w ∧ SRep w S γ (hdOf M) s v ∧ Gets (f s) M us := by
  unfold rdElem at hg
  cases ha : ti.agg with
  | true =>
    rw [ha] at hg
    obtain ⟨ss, h1, h2, hg⟩ := gets_rdFVs hg
    have hv : ∀ j, j < ss.length → ∃ v, cellAt w b (p + (i * sz + (c + j))) = some v ∧ SRep w S γ (hdOf M) (ss.getD j .dead) v := fun j hj => by
      obtain ⟨_, e, h3, h4⟩ := h2 j ss[j] (List.getElem?_eq_getElem hj)
      obtain ⟨v, h5, h6⟩ := at'_row hr h3
      exact ⟨v, h5, by simp only [List.getD_eq_getElem?_getD, List.getElem?_eq_getElem hj, Option.getD_some]; exact h4 _ _ _ _ _ h6⟩
    refine ⟨.agg ss, .agg ((List.range ss.length).map fun j => (cellAt w b (p + (i * sz + (c + j)))).getD undef).toArray, ?_, .agg (by simp) (fun j s hj => ?_), hg⟩
    · refine run_loadVar_agg hT ha _ (by simp [h1, hT.len]) fun j v hj => ?_
      simp only [List.getElem?_map, Option.map_eq_some_iff] at hj
      obtain ⟨k, hk, rfl⟩ := hj
      obtain ⟨hk1, rfl⟩ : j < ss.length ∧ k = j := by
        have := List.getElem?_eq_some_iff.1 hk; obtain ⟨q, r⟩ := this; simp at q r; exact ⟨q, r.symm⟩
      obtain ⟨v, h5, _⟩ := hv k hk1
      rw [show p + (i * sz + c) + k = p + (i * sz + (c + k)) by omega, h5]; rfl
    · have hj' := (List.getElem?_eq_some_iff.1 hj).1
      obtain ⟨v, h5, h6⟩ := hv j hj'
      simp only [List.getD_eq_getElem?_getD, hj, Option.getD_some] at h6
      simpa [Array.getD_eq_getD_getElem?, hj', h5] using h6
  | false =>
    rw [ha] at hg
    obtain ⟨k, hk, hs⟩ := hT.one ha
    simp only [cond_false, hk] at hg
    obtain ⟨e, s, h1, h2, h3, hg⟩ := gets_rdFV hg
    obtain ⟨v, h5, h6⟩ := at'_row hr h1
    exact ⟨s, v, run_loadVar_one hT ha h5, h3 _ _ _ _ _ h6, hg⟩

theorem obj_rep {id n : Nat} (h : Rel X M a w γ S) (he : hdOf M id = some (.obj n)) : ∃ vals e, w.heap[(γ id).blk]? = some (.cells vals e (0, 0)) ∧ vals.size = n ∧
      ∀ j, j < n → ∃ s, Mem.get (.cell id j) M = some (.sv s) ∧ s.flat = true ∧ SRep w S γ (hdOf M) s (vals.getD j undef) := (h.head id _ he).2

theorem gets_load {t : TypeId} {ti : TyI} {inf : TypeInfo} {d : TypeDesc} {z : Value} (hT : TyOk E.P t ti inf d z) (h : Rel X M a w γ S) {s : SV} {pv : Value} (hs : SRep w S γ (hdOf M) s pv) {f : SV → RT} (hg : Gets (load ti s f) M us) :
    ∃ b p s v, pv = .pointer (some ⟨b, p, none⟩) ∧ (loadVar t ⟨b, p, none⟩).run E.P w = .ok v w ∧ SRep w S γ (hdOf M) s v ∧ Gets (f s) M us := by
  have fin : ∀ b p s v, pv = .pointer (some ⟨b, p, none⟩) → (loadVar t ⟨b, p, none⟩).run E.P w = .ok v w → SRep w S γ (hdOf M) s v → Gets (f s) M us →
      ∃ b p s v, pv = .pointer (some ⟨b, p, none⟩) ∧ (loadVar t ⟨b, p, none⟩).run E.P w = .ok v w ∧ SRep w S γ (hdOf M) s v ∧ Gets (f s) M us := fun b p s v h1 h2 h3 h4 => ⟨b, p, s, v, h1, h2, h3, h4⟩
  unfold load at hg
  split at hg
  · rename_i id off
    obtain ⟨e, he, hg⟩ := gets_rdHead hg
    split at hg
    · rename_i n
      obtain ⟨hle, hg⟩ := gets_bif hg
      have hle' := Nat.le_of_ble_eq_true hle
      have hv := hs.ptr_inv he
      obtain ⟨vals, te, hb, hsz, hc⟩ := obj_rep h he
      cases ha : ti.agg with
      | true =>
        rw [ha] at hg
        obtain ⟨ss, h1, h2, hg⟩ := gets_rdCells hg
        refine fin _ _ (.agg ss) (.agg ((vals.toList.drop off).take ti.size).toArray) hv ?_ (.agg (by simp; omega) fun j s hj => ?_) hg
        · refine run_loadVar_agg hT ha _ (by simp; omega) fun j v hj => ?_
          rw [cellAt_eq hb]
          rw [List.getElem?_take] at hj
          split at hj
          · rw [List.getElem?_drop] at hj; simpa using hj
          · simp at hj
        · have hj' := (List.getElem?_eq_some_iff.1 hj).1
          obtain ⟨s', q1, q2, q3⟩ := hc (off + j) (by omega)
          rw [h2 j s hj] at q1
          cases q1
          have : ((vals.toList.drop off).take ti.size).toArray.getD j undef = vals.getD (off + j) undef := by
            have : j < ti.size := by omega
            simp [Array.getD_eq_getD_getElem?, this]
          rw [this]; exact q3
      | false =>
        rw [ha] at hg
        simp only [cond_false] at hg
        obtain ⟨e', he', hg⟩ := gets_rd hg
        obtain ⟨k, hk, h1⟩ := hT.one ha
        split at hg
        · rename_i v
          obtain ⟨s', q1, q2, q3⟩ := hc off (by omega)
          rw [he'] at q1
          cases q1
          refine fin _ _ v (vals.getD off undef) hv (run_loadVar_one hT ha ?_) q3 hg
          rw [cellAt_eq hb, Array.getD_eq_getD_getElem?, Array.getElem?_eq_getElem (by omega), Option.getD_some]
        · exact (gets_fail hg).elim
    · exact (gets_fail hg).elim
  · rename_i sz xs i c
    obtain ⟨_, hg⟩ := gets_bif hg
    obtain ⟨b, p, hv, h1, h2, h3⟩ := hs.fp_inv
    obtain ⟨s', v, h4, h5, h6⟩ := load_row (γ := γ) hT h2 hg
    exact fin _ _ s' v hv h4 h5 h6
  · rename_i id sz i c
    obtain ⟨e, he, hg⟩ := gets_rdHead hg
    have go : ∀ s' xs, e.row = some (s', xs.length) → (e = .vec s' xs ∨ e = .frz s' xs) → Gets (bif Nat.beq s' sz && Nat.ble (c + ti.size) sz then rdElem ti xs i c f else .fail) M us →
        ∃ b p s v, pv = .pointer (some ⟨b, p, none⟩) ∧ (loadVar t ⟨b, p, none⟩).run E.P w = .ok v w ∧ SRep w S γ (hdOf M) s v ∧ Gets (f s) M us := by
      clear hg
      intro s' xs hrow hcase hg0
      obtain ⟨hb, hg⟩ := gets_bif hg0
      clear hg0
      obtain ⟨hv, rfl, hi, hn⟩ := hs.ept_inv he hrow
      have hrowR : Row w S (γ id).blk (γ id).off sz xs := by
        have ho := h.head id e he
        rcases hcase with rfl | rfl
        · have := ho.2; rw [if_neg (by simp [hn])] at this; obtain ⟨_, _, _, _, q⟩ := this; exact q
        · have := ho.2; rw [if_neg (by simp [hn])] at this; exact this.2
      obtain ⟨s', v, h4, h5, h6⟩ := load_row (γ := γ) hT hrowR hg
      exact fin _ _ s' v hv h4 h5 h6
    split at hg
    · exact go _ _ rfl (.inl rfl) hg
    · exact go _ _ rfl (.inr rfl) hg
    · exact (gets_fail hg).elim
  · exact (gets_fail hg).elim


theorem sim_load {t : TypeId} {x : Operand} (hE : EnvOk E) (h : Rel X M a w γ S) (hd : ∀ d, o.dst = some d → X.Dst d) (hop : o.op = .load t x) (hg0 : Gets (rtOp E call o) M us) : Goal E.P X M o a w us := by
  simp only [rtOp, hop] at hg0
  obtain ⟨ti, inf, d, z, hT, hg1⟩ := gets_ty hE hg0
  obtain ⟨s, hs, hg⟩ := gets_opd h hg1
  obtain ⟨b, p, s', v, h1, h2, h3, h4⟩ := gets_load hT h hs hg
  refine .value0 (v := v) ?_ (put_end h hd h3 h4)
  simp [execOp, hop, Instr.loadAt, h1, Instr.sureAddr, h2]

end
end Rf
