/- A struct that is built of its parts. -/
import Derived.Test.YtebaohjeodeaoaaGreatDoorRf15
import Derived.Laws.Tables
namespace Rf
open Go

section
variable {E : Env} {call : FuncId → List FV → Res} {X : Cx} {M : Mem} {a : Act} {w : World} {γ : Nat → Gh} {S : Nat → Prop} {us : List (Key × Ent)} {o : Oper}

theorem desc_struct {d : TypeDesc} {i : TyI} (h : descOk d i = true) (hf : i.flds.isEmpty = false) : ∃ fs, d = .struct fs ∧ i.agg = true ∧ (fs.toList.map fun f => (f.offset, f.type)) = i.flds := by
  cases d with
  | struct fs =>
    simp only [descOk, Bool.and_eq_true, beq_iff_eq] at h
    exact ⟨fs, rfl, h.1, h.2⟩
  | _ => simp [descOk, hf] at h

theorem places_ok {P : Program} : ∀ (fs : List Field), (∀ f, f ∈ fs → ∃ inf, P.info? f.type = some inf) →
    ∃ places, fs.mapM (fun f => (P.info? f.type).map fun i => (f.offset, i.size)) = some places ∧ ∀ (k : Nat) (f : Field), fs[k]? = some f → ∃ inf, P.info? f.type = some inf ∧ places[k]? = some (f.offset, inf.size)
  | [], _ => ⟨[], rfl, fun k f h => by simp at h⟩
  | f :: fs, h => by
    obtain ⟨inf, hi⟩ := h f List.mem_cons_self
    obtain ⟨pl, h1, h2⟩ := places_ok fs (fun g hg => h g (List.mem_cons_of_mem _ hg))
    refine ⟨(f.offset, inf.size) :: pl, by simp [List.mapM_cons, hi, h1], fun k g hg => ?_⟩
    cases k with
    | zero => simp at hg; subst hg; exact ⟨inf, hi, rfl⟩
    | succ k => simpa using h2 k g (by simpa using hg)

theorem drop_app {α : Type} (l1 l2 l3 : List α) (k : Nat) : (l1 ++ (l2 ++ l3))[k]? = if k < l1.length then l1[k]? else if k < l1.length + l2.length then l2[k - l1.length]? else l3[k - l1.length - l2.length]? := by
  rw [List.getElem?_append]
  split
  · rfl
  · rw [List.getElem?_append]
    by_cases h : k - l1.length < l2.length
    · rw [if_pos h, if_pos (by omega)]
    · rw [if_neg h, if_neg (by omega)]

theorem gets_fillR (hE : EnvOk E) {flds : List (Nat × Nat)} {place : Nat → Option (Nat × Nat)} (hpl : ∀ (k off ft : Nat) (inf : TypeInfo), flds[k]? = some (off, ft) → E.P.info? ft = some inf → place k = some (off, inf.size)) :
    ∀ {ss : List (Nat × SV)} {ps : List (Nat × Value)} {cs : List SV} {cur : Array Value} {f : List SV → RT},
    ss.length = ps.length → (∀ (k : Nat) (p : Nat × Value), ps[k]? = some p → ∃ s, ss[k]? = some (p.1, s) ∧ SRep w S γ (hdOf M) s p.2) →
    cur.size = cs.length → (∀ (j : Nat) (c : SV), cs[j]? = some c → SRep w S γ (hdOf M) c (cur.getD j undef)) → Gets (fillR E flds cs ss f) M us →
    ∃ cs' cur', Instr.fill place cur ps = some cur' ∧ cur'.size = cs'.length ∧ (∀ (j : Nat) (c : SV), cs'[j]? = some c → SRep w S γ (hdOf M) c (cur'.getD j undef)) ∧ Gets (f cs') M us
  | [], [], cs, cur, f, _, _, h3, h4, hg => ⟨cs, cur, rfl, h3, h4, hg⟩
  | [], _ :: _, _, _, _, h1, _, _, _, _ => by simp at h1
  | _ :: _, [], _, _, _, h1, _, _, _, _ => by simp at h1
  | (i, s) :: ss, (i', v) :: ps, cs, cur, f, h1, h2, h3, h4, hg => by
    obtain ⟨s', q1, hs⟩ := h2 0 _ rfl
    simp only [List.getElem?_cons_zero, Option.some.injEq, Prod.mk.injEq] at q1
    obtain ⟨rfl, rfl⟩ := q1
    unfold fillR at hg
    split at hg
    · rename_i off ft hfl
      obtain ⟨fi, inf, dd, z, hT, hg⟩ := gets_ty hE hg
      obtain ⟨hb, hg⟩ := gets_bif hg
      simp only [Bool.and_eq_true] at hb
      obtain ⟨hlv, hg⟩ := gets_lives hg
      have e1 := Nat.eq_of_beq_eq_true hb.1.1
      have e2 := Nat.le_of_ble_eq_true hb.1.2
      obtain ⟨c1, c2, c3⟩ := cells_rep hs hb.2 hlv
      have hstep := fill_cons place cur i v ps (hpl i off ft inf hfl hT.info) (by rw [c1, e1, hT.size]) (by rw [hT.size, h3]; exact e2)
      rw [hstep]
      have hlen : (cs.take off ++ (s.cells ++ cs.drop (off + s.cells.length))).length = cs.length := by simp; omega
      refine gets_fillR hE hpl (by simpa using h1) (fun k p hk => by simpa using h2 (k + 1) p (by simpa using hk)) (by rw [foldSet_size, hlen, h3]) (fun j c hj => ?_) hg
      rw [drop_app] at hj
      have ht : (cs.take off).length = off := by simp; omega
      rw [ht] at hj
      have c1' : v.cells.size = s.cells.length := c1
      have hget := foldSet off j v.cells.toList 0 cur (by rw [Array.length_toList, c1', e1, h3]; omega)
      rw [Array.getD_eq_getD_getElem?, hget]
      simp only [Nat.add_zero, Array.length_toList, c1']
      split at hj
      · rename_i hlt
        rw [if_neg (by omega), ← Array.getD_eq_getD_getElem?]
        exact h4 j c (by rwa [List.getElem?_take_of_lt hlt] at hj)
      · rename_i hlt
        split at hj
        · rename_i hlt2
          rw [if_pos (by omega)]
          have := (c2 (j - off) c hj).2
          rwa [Array.getD_eq_getD_getElem?, ← Array.getElem?_toList] at this
        · rename_i hlt2
          rw [if_neg (by omega), ← Array.getD_eq_getD_getElem?]
          rw [List.getElem?_drop] at hj
          exact h4 j c (by rwa [show off + s.cells.length + (j - off - s.cells.length) = j by omega] at hj)
    · exact (gets_fail hg).elim

theorem sim_build {t : TypeId} {parts : Array (Nat × Operand)} (hE : EnvOk E) (h : Rel X M a w γ S) (hd : ∀ d, o.dst = some d → X.Dst d) (hop : o.op = .build t parts) (hg0 : Gets (rtOp E call o) M us) : Goal E.P X M o a w us := by
  simp only [rtOp, hop] at hg0
  obtain ⟨ti, inf, dd, z, hT, hg1⟩ := gets_ty hE hg0
  obtain ⟨ss, l1, hss, hg2⟩ := gets_opdP h hg1
  obtain ⟨hb, hg3⟩ := gets_bif hg2
  clear hg0 hg1 hg2
  simp only [Bool.and_eq_true, List.all_eq_true, Bool.not_eq_true'] at hb
  obtain ⟨fs, rfl, hagg, hfl⟩ := desc_struct hT.desc hb.2
  obtain ⟨pl, p1, p2⟩ := places_ok (P := E.P) fs.toList (fun f hf => by
    have : (f.offset, f.type) ∈ ti.flds := by rw [← hfl]; exact List.mem_map_of_mem hf
    have hs := hb.1 _ this
    obtain ⟨i, hi⟩ := Option.isSome_iff_exists.1 hs
    obtain ⟨inf', _, _, hT'⟩ := chkTy_ok (hE.ty _ i hi)
    exact ⟨inf', hT'.info⟩)
  obtain ⟨z1, z2⟩ := zerosS_rep (w := w) (S := S) (γ := γ) hT (hdOf M)
  obtain ⟨cs, cur, c1, c2, c3, hg⟩ := gets_fillR hE (place := fun k => pl.toArray[k]?) (w := w) (S := S) (γ := γ) (M := M) (flds := ti.flds) (fun k off ft inf' hk hi => by
      rw [← hfl, List.getElem?_map, Option.map_eq_some_iff] at hk
      obtain ⟨f, hf, hk⟩ := hk
      cases hk
      obtain ⟨inf2, q1, q2⟩ := p2 k f hf
      rw [hi] at q1; cases q1
      simpa using q2)
    (ss := ss) (ps := (parts.map fun p => (p.1, a.eval p.2)).toList) (cs := ti.zerosS) (cur := z.cells) (by simp [l1]) (fun k p hk => by
      simp only [Array.toList_map, List.getElem?_map, Option.map_eq_some_iff] at hk
      obtain ⟨q, hq, rfl⟩ := hk
      exact hss k q hq) z1 (fun j c hj => (z2 j c hj).2) hg3
  have hbuilt : E.P.built t (parts.map fun p => (p.1, a.eval p.2)).toList = some cur := by
    simp only [Program.built, hT.info, hT.und, hT.zero, p1]
    exact c1
  have hrun := run_build (P := E.P) w t (parts.map fun p => (p.1, a.eval p.2)) cur hbuilt
  refine .value0 (v := .agg cur) (by simp [execOp, hop, hrun]) (put_end h hd (.agg c2 c3) hg)

end
end Rf
