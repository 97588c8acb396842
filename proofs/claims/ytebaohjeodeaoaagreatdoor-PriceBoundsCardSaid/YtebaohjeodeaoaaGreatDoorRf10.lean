/- Stores and new variables. -/
import Derived.Test.YtebaohjeodeaoaaGreatDoorRf9
namespace Rf
open Go

theorem get_wrCells (id : Nat) (k : Key) : ∀ (off : Nat) (vs : List SV), Mem.get k (wrCells id off vs) = match k with
    | .cell i j => if i = id ∧ off ≤ j ∧ j < off + vs.length then (vs[j - off]?).map Ent.sv else none
    | _ => none
  | off, [] => by cases k <;> simp [wrCells, Mem.get]
  | off, v :: vs => by
    rw [wrCells, Mem.get_cons, get_wrCells id k (off + 1) vs]
    cases k with
    | slot t => simp
    | head i => simp
    | cell i j =>
      simp only [Key.cell.injEq, List.length_cons]
      by_cases hi : i = id
      · subst hi
        by_cases hj : j = off
        · subst hj; simp
        · simp only [true_and, hj, if_false]
          by_cases h1 : off + 1 ≤ j ∧ j < off + 1 + vs.length
          · rw [if_pos h1, if_pos (by omega)]
            obtain ⟨q, rfl⟩ : ∃ q, j = off + 1 + q := ⟨j - (off + 1), by omega⟩
            rw [show off + 1 + q - (off + 1) = q by omega, show off + 1 + q - off = q + 1 by omega, List.getElem?_cons_succ]
          · rw [if_neg h1, if_neg (by omega)]
      · simp [hi]

theorem get_wrC (id i j off : Nat) (vs : List SV) : Mem.get (.cell i j) (wrCells id off vs) = if i = id ∧ off ≤ j ∧ j < off + vs.length then (vs[j - off]?).map Ent.sv else none := get_wrCells id (.cell i j) off vs
theorem get_wrH (id i off : Nat) (vs : List SV) : Mem.get (.head i) (wrCells id off vs) = none := get_wrCells id (.head i) off vs
theorem get_wrS (id t off : Nat) (vs : List SV) : Mem.get (.slot t) (wrCells id off vs) = none := get_wrCells id (.slot t) off vs

/-- a stretch of a list put anew -/
theorem splice_get (cur : List Value) (p : Nat) (news : List Value) (h : p + news.length ≤ cur.length) (k : Nat) :
    (cur.take p ++ news ++ cur.drop (p + news.length))[k]? = if p ≤ k ∧ k < p + news.length then news[k - p]? else cur[k]? := by
  by_cases h1 : k < p
  · rw [if_neg (by omega), List.append_assoc, List.getElem?_append_left (by simp; omega), List.getElem?_take_of_lt h1]
  · by_cases h2 : k < p + news.length
    · rw [if_pos ⟨by omega, h2⟩, List.append_assoc, List.getElem?_append_right (by simp; omega), List.getElem?_append_left (by simp; omega)]
      congr 1; simp; omega
    · rw [if_neg (by omega), List.getElem?_append_right (by simp; omega), List.getElem?_drop]
      congr 1; simp; omega

section
variable {E : Env} {call : FuncId → List FV → Res} {X : Cx} {M : Mem} {a : Act} {w : World} {γ : Nat → Gh} {S : Nat → Prop} {us : List (Key × Ent)} {o : Oper}

theorem gets_lives : ∀ {vs : List SV} {t : RT}, Gets (lives vs t) M us → (∀ s, s ∈ vs → ∀ id, s.refId = some id → ∃ e, hdOf M id = some e ∧ e ≠ .tomb) ∧ Gets t M us
  | [], t, h => ⟨fun s hs => by simp at hs, h⟩
  | v :: vs, t, h => by
    have key : ∀ id, v.refId = some id → Gets (rdHead id fun e => match e with | .tomb => .fail | _ => lives vs t) M us → (∃ e, hdOf M id = some e ∧ e ≠ .tomb) ∧ Gets (lives vs t) M us := by
      intro id _ hg
      obtain ⟨e, he, hg⟩ := gets_rdHead hg
      cases e with
      | tomb => exact (gets_fail hg).elim
      | _ => exact ⟨⟨_, he, by simp⟩, hg⟩
    have fin : (∀ id, v.refId = some id → ∃ e, hdOf M id = some e ∧ e ≠ .tomb) → Gets (lives vs t) M us → (∀ s, s ∈ v :: vs → ∀ id, s.refId = some id → ∃ e, hdOf M id = some e ∧ e ≠ .tomb) ∧ Gets t M us := by
      intro h1 h2
      obtain ⟨h3, h4⟩ := gets_lives h2
      refine ⟨fun s hs id hid => ?_, h4⟩
      rcases List.mem_cons.1 hs with rfl | hs
      · exact h1 id hid
      · exact h3 s hs id hid
    unfold lives at h
    cases v with
    | ptr id _ => obtain ⟨h1, h2⟩ := key id rfl h; exact fin (fun i hi => by simp [SV.refId] at hi; subst hi; exact h1) h2
    | ept id _ _ _ => obtain ⟨h1, h2⟩ := key id rfl h; exact fin (fun i hi => by simp [SV.refId] at hi; subst hi; exact h1) h2
    | sl id _ => obtain ⟨h1, h2⟩ := key id rfl h; exact fin (fun i hi => by simp [SV.refId] at hi; subst hi; exact h1) h2
    | mp id => obtain ⟨h1, h2⟩ := key id rfl h; exact fin (fun i hi => by simp [SV.refId] at hi; subst hi; exact h1) h2
    | _ => exact fin (fun i hi => by simp [SV.refId] at hi) h

theorem srep_one {hd : Nat → Option Ent} {s : SV} {v : Value} (h : SRep w S γ hd s v) (hf : s.flat = true) (hl : ∀ id, s.refId = some id → ∃ e, hd id = some e ∧ e ≠ .tomb) : v.oneCell' = true := by
  cases h with
  | fv hr => cases hr <;> first | rfl | exact hf | (simp [SV.flat, FV.flat] at hf)
  | tomb h1 h2 => obtain ⟨e, h3, h4⟩ := hl _ h1; rw [h2] at h3; cases h3; exact absurd rfl h4
  | agg _ _ => simp [SV.flat] at hf
  | tup _ _ => simp [SV.flat] at hf
  | dead => simp [SV.flat] at hf
  | gone => simp [SV.flat] at hf
  | _ => rfl

/-- the cells of a value -/
theorem cells_rep {hd : Nat → Option Ent} {s : SV} {v : Value} (h : SRep w S γ hd s v) (hf : s.cells.all SV.flat = true) (hl : ∀ c, c ∈ s.cells → ∀ id, c.refId = some id → ∃ e, hd id = some e ∧ e ≠ .tomb) :
    v.cells.size = s.cells.length ∧ (∀ (j : Nat) (c : SV), s.cells[j]? = some c → c.flat = true ∧ SRep w S γ hd c (v.cells.getD j undef)) ∧ ∀ u ∈ v.cells.toList, u.oneCell' = true := by
  have hall := List.all_eq_true.1 hf
  by_cases hs : ∃ cs, s = .agg cs
  · obtain ⟨cs, rfl⟩ := hs
    obtain ⟨vs, rfl, h1, h2⟩ := h.agg_inv
    refine ⟨h1, fun j c hj => ⟨hall c (List.mem_of_getElem? hj), h2 j c hj⟩, fun u hu => ?_⟩
    have hu' : u ∈ vs.toList := hu
    obtain ⟨j, hju⟩ := List.mem_iff_getElem?.1 hu'
    have hj := (List.getElem?_eq_some_iff.1 hju).1
    simp only [Array.length_toList] at hj
    have hjc : j < cs.length := by rw [← h1]; exact hj
    have hc : (SV.agg cs).cells[j]? = some cs[j] := List.getElem?_eq_getElem hjc
    have := h2 j cs[j] hc
    rw [Array.getD_eq_getD_getElem?, ← Array.getElem?_toList, hju, Option.getD_some] at this
    exact srep_one this (hall _ (List.mem_of_getElem? hc)) (hl _ (List.mem_of_getElem? hc))
  · have hsc : s.cells = [s] := by cases s <;> first | rfl | exact absurd ⟨_, rfl⟩ hs
    rw [hsc] at hf hl ⊢
    have hone := srep_one h (by simpa using hf) (hl s (by simp))
    have hvc : v.cells = #[v] := by cases v <;> first | rfl | simp [Value.oneCell'] at hone
    rw [hvc]
    refine ⟨rfl, fun j c hj => ?_, fun u hu => by simp at hu; subst hu; exact hone⟩
    cases j with
    | zero => simp at hj; subst hj; exact ⟨by simpa using hf, h⟩
    | succ j => simp at hj

theorem sim_store {t : TypeId} {x y : Operand} (hE : EnvOk E) (h : Rel X M a w γ S) (hop : o.op = .store t x y) (hdst : o.dst = none) (hg0 : Gets (rtOp E call o) M us) : Goal E.P X M o a w us := by
  simp only [rtOp, hop] at hg0
  obtain ⟨ti, inf, d, z, hT, hg1⟩ := gets_ty hE hg0
  obtain ⟨s, hs, hg2⟩ := gets_opd h hg1
  obtain ⟨r, hr, hg⟩ := gets_opd h hg2
  clear hg0 hg1 hg2
  have run : ∀ b p w', a.eval x = .pointer (some ⟨b, p, none⟩) → (storeVar t ⟨b, p, none⟩ (a.eval y)).run E.P w = .ok () w' → (execOp a.eval o).run E.P w = .ok .skip w' := fun b p w' h1 h2 => by
    simp [execOp, hop, Instr.storeAt, h1, Instr.sureAddr, h2]
  unfold store at hg
  split at hg
  · rename_i id off
    obtain ⟨e, he, hg⟩ := gets_rdHead hg
    split at hg
    · rename_i n
      obtain ⟨hb, hg⟩ := gets_bif hg
      simp only [Bool.and_eq_true] at hb
      obtain ⟨⟨hle, hlen⟩, hflat⟩ := hb
      have hle' := Nat.le_of_ble_eq_true hle
      have hlen' := Nat.eq_of_beq_eq_true hlen
      obtain ⟨hlv, hg⟩ := gets_lives hg
      obtain rfl := gets_ret hg
      have hv := hs.ptr_inv he
      obtain ⟨hnil, vals, te, hb, hsz, hc⟩ := h.head id _ he
      obtain ⟨c1, c2, c3⟩ := cells_rep hr hflat hlv
      have hrun := run_storeVar hT (w := w) (b := (γ id).blk) (p := off) (v := a.eval y) (cur := vals) (by rw [c1, hlen']) hb (by omega) c3
      refine .skip (γ' := γ) (S' := S) (run _ _ _ hv hrun) ?_
      rw [hdst]
      have hM : SameBut id M (wrCells id off r.cells ++ M) := by
        refine ⟨fun i hi => by simp [hdOf, Mem.get_append, get_wrCells], fun i j hi => ?_, fun t => by simp [Mem.get_append, get_wrCells]⟩
        rw [Mem.get_append, get_wrC, if_neg (fun h => hi h.1)]; rfl
      have hhd : hdOf (wrCells id off r.cells ++ M) = hdOf M := funext fun i => by simp [hdOf, Mem.get_append, get_wrCells]
      refine h.change hM he trivial (by rw [hhd]; exact he) ⟨rfl, rfl, by simp⟩ (But.setRow _ _ _) (fun hh => ⟨hnil, _, te, setRow_heap w _ vals _ te _ hb, ?_, fun j hj => ?_⟩) trivial
      · simp; omega
      · have own := h.own id _ he trivial
        have hw := h.toHRel.sblock (But.setRow w (γ id).blk (vals.toList.take off ++ (a.eval y).cells.toList ++ vals.toList.drop (off + ti.size)).toArray) own.2.1
        have hget : (vals.toList.take off ++ (a.eval y).cells.toList ++ vals.toList.drop (off + ti.size)).toArray.getD j undef = if off ≤ j ∧ j < off + ti.size then (a.eval y).cells.getD (j - off) undef else vals.getD j undef := by
          have := splice_get vals.toList off (a.eval y).cells.toList (by simp [c1]; omega) j
          simp only [Array.length_toList, c1, hlen'] at this
          rw [Array.getD_eq_getD_getElem?, List.getElem?_toArray, this]
          split <;> simp [Array.getD_eq_getD_getElem?]
        rw [hget]
        by_cases hin : off ≤ j ∧ j < off + ti.size
        · rw [if_pos hin]
          have hjc : j - off < r.cells.length := by omega
          obtain ⟨q1, q2⟩ := c2 (j - off) r.cells[j - off] (List.getElem?_eq_getElem hjc)
          refine ⟨r.cells[j - off], ?_, q1, q2.mono hw (fun _ h => h) hh⟩
          rw [Mem.get_append, get_wrC, if_pos ⟨rfl, hin.1, by omega⟩, List.getElem?_eq_getElem hjc]; rfl
        · rw [if_neg hin]
          obtain ⟨s', q1, q2, q3⟩ := hc j hj
          refine ⟨s', ?_, q2, q3.mono hw (fun _ h => h) hh⟩
          rw [Mem.get_append, get_wrC, if_neg (by omega), q1]; rfl
    · exact (gets_fail hg).elim
  · rename_i id sz i c
    obtain ⟨e, he, hg⟩ := gets_rdHead hg
    split at hg
    · rename_i s' xs
      obtain ⟨hb, hg⟩ := gets_bif hg
      simp only [Bool.and_eq_true] at hb
      obtain ⟨hsz0, hlen⟩ := hb
      have hlen' := Nat.eq_of_beq_eq_true hlen
      obtain ⟨hv, rfl, hi, hn⟩ := hs.ept_inv he rfl
      have hvec := h.head id _ he
      exact storeElem hT h he hn hi hlen' hr hdst (fun w' hw' => run _ _ w' hv hw') hg
    · exact (gets_fail hg).elim
  · exact (gets_fail hg).elim
where
  storeElem {t : TypeId} {ti : TyI} {inf : TypeInfo} {d : TypeDesc} {z : Value} (hT : TyOk E.P t ti inf d z) (h : Rel X M a w γ S) {id sz i c : Nat} {xs : List FV} (he : hdOf M id = some (.vec sz xs)) (hn : (γ id).nil = false) (hi : i < xs.length)
      {r : SV} {y : Operand} (hlen : r.cells.length = ti.size) (hr : SRep w S γ (hdOf M) r (a.eval y)) (hdst : o.dst = none)
      (run : ∀ w', (storeVar t ⟨(γ id).blk, (γ id).off + (i * sz + c), none⟩ (a.eval y)).run E.P w = .ok () w' → (execOp a.eval o).run E.P w = .ok .skip w')
      (hg : Gets (bif Nat.beq c 0 && Nat.beq ti.size sz then frz r fun y us => bif apart1 id us then .ret ((.head id, .vec sz (xs.set i y)) :: us) else .fail
         else bif Nat.beq ti.size 1 && Nat.ble (c + 1) sz && !ti.agg then frz1 r fun y us => bif apart1 id us then .ret ((.head id, .vec sz (setC xs i c y)) :: us) else .fail else .fail) M us) : Goal E.P X M o a w us := by
    -- what both ways have in common
    have both : ∀ (fz : List (Key × Ent)) (x' : FV), FzList M fz → apart1 id fz = true → us = (.head id, .vec sz (xs.set i x')) :: fz → El sz x' →
        (∀ S', (∀ b, S b → S' b) → Rel X (fz ++ M) a w γ S' → (a.eval y).cells.size = ti.size ∧ (∀ u ∈ (a.eval y).cells.toList, u.oneCell' = true) ∧ c + ti.size ≤ sz ∧
          ∀ (j : Nat) (e : FV), x'.cells[j]? = some e → if c ≤ j ∧ j < c + ti.size then ∃ u, (a.eval y).cells[j - c]? = some u ∧ FRep w S' e u else ∃ x0, xs[i]? = some x0 ∧ x0.cells[j]? = some e) → Goal E.P X M o a w us := by
      intro fz x' hfz hap hus hx' hall
      subst hus
      obtain ⟨S', k1, k2, hR⟩ := h.freezes hfz
      obtain ⟨a1, a2, a3, a4⟩ := hall S' k1 hR
      have hap' : hdOf (fz ++ M) id = some (.vec sz xs) := by
        rcases hfz.get (.head id) with ⟨q, _⟩ | ⟨id', s0, xs0, q1, q2, q3⟩
        · rw [hdOf, q]; exact he
        · cases q1
          exfalso
          have : ∀ (l : List (Key × Ent)), apart1 id l = true → FzList M l → Mem.get (.head id) (l ++ M) = some (.vec sz xs) := by
            intro l
            induction l with
            | nil => intro _ _; exact he
            | cons p l ih =>
              intro h1 h2
              obtain ⟨i', s1, x1, rfl, _⟩ := h2 _ List.mem_cons_self
              simp only [apart1, Bool.and_eq_true, Bool.not_eq_true'] at h1
              rw [List.cons_append, Mem.get_cons, if_neg]
              · exact ih h1.2 h2.tail
              · intro hk; cases hk; have := h1.1; simp at this
          rw [this fz hap hfz] at q2; cases q2
      have own := hR.own id _ hap' hn
      have ho := hR.head id _ hap'
      obtain ⟨hcap, ho⟩ := ho
      rw [if_neg (by simp [hn])] at ho
      obtain ⟨vals, te, hb, hsize, hrow⟩ := ho
      have hin : (i + 1) * sz ≤ (γ id).cap * sz := Nat.mul_le_mul_right _ (by omega)
      have hin' : i * sz + sz ≤ (γ id).cap * sz := by rwa [Nat.add_mul, Nat.one_mul] at hin
      have hrun := run_storeVar hT (w := w) (b := (γ id).blk) (p := (γ id).off + (i * sz + c)) (v := a.eval y) (cur := vals) a1 hb (by omega) a2
      refine .skip (γ' := γ) (S' := S') (run _ hrun) ?_
      rw [hdst]
      have hM : SameBut id (fz ++ M) ((.head id, .vec sz (xs.set i x')) :: (fz ++ M)) :=
        ⟨fun i' hi' => by rw [hdOf, hdOf, Mem.get_cons, if_neg (by simpa using hi')], fun i' j hi' => by rw [Mem.get_cons, if_neg (by simp)], fun t => by rw [Mem.get_cons, if_neg (by simp)]⟩
      have hw := hR.toHRel.sblock (But.setRow w (γ id).blk (vals.toList.take ((γ id).off + (i * sz + c)) ++ (a.eval y).cells.toList ++ vals.toList.drop ((γ id).off + (i * sz + c) + ti.size)).toArray) own.2.1
      refine hR.change (M' := (.head id, .vec sz (xs.set i x')) :: (fz ++ M)) (e' := .vec sz (xs.set i x')) hM hap' hn (by rw [hdOf, Mem.get_cons, if_pos rfl]) ⟨by simp [Ent.row], rfl, by simp⟩ (But.setRow _ _ _) (fun hh => ⟨by simpa using hcap, ?_⟩) hn
      rw [if_neg (by simp [hn])]
      refine ⟨_, te, setRow_heap w _ vals _ te _ hb, by simp; omega, fun x hx => ?_, fun i' j x e h1 h2 => ?_⟩
      · rcases List.mem_or_eq_of_mem_set hx with hx | rfl
        · exact hrow.1 x hx
        · exact hx'
      · rw [cellAt_eq (setRow_heap w _ vals _ te _ hb), List.getElem?_toArray]
        have hsp := splice_get vals.toList ((γ id).off + (i * sz + c)) (a.eval y).cells.toList (by simp [a1]; omega) ((γ id).off + (i' * sz + j))
        simp only [Array.length_toList, a1] at hsp
        rw [hsp]
        have old : ∀ x0, xs[i']? = some x0 → x0.cells[j]? = some e → ¬ ((γ id).off + (i * sz + c) ≤ (γ id).off + (i' * sz + j) ∧ (γ id).off + (i' * sz + j) < (γ id).off + (i * sz + c) + ti.size) →
            ∃ v, (if (γ id).off + (i * sz + c) ≤ (γ id).off + (i' * sz + j) ∧ (γ id).off + (i' * sz + j) < (γ id).off + (i * sz + c) + ti.size then (a.eval y).cells.toList[(γ id).off + (i' * sz + j) - ((γ id).off + (i * sz + c))]? else vals.toList[(γ id).off + (i' * sz + j)]?) = some v ∧ FRep (w.setRow (γ id).blk (vals.toList.take ((γ id).off + (i * sz + c)) ++ (a.eval y).cells.toList ++ vals.toList.drop ((γ id).off + (i * sz + c) + ti.size)).toArray) S' e v := by
          intro x0 q1 q2 q3
          rw [if_neg q3]
          obtain ⟨v, q4, q5⟩ := hrow.2 i' j x0 e q1 q2
          rw [cellAt_eq hb] at q4
          exact ⟨v, by simpa using q4, q5.mono hw (fun _ h => h)⟩
        have hj : j < sz := by
          have hx0 : x.cells.length = sz := by
            rcases List.mem_or_eq_of_mem_set (List.mem_of_getElem? h1) with hx | rfl
            · exact (hrow.1 x hx).1
            · exact hx'.1
          have := (List.getElem?_eq_some_iff.1 h2).1; omega
        by_cases hii : i' = i
        · subst hii
          rw [List.getElem?_set_self hi] at h1
          cases h1
          have := a4 j e h2
          by_cases hin2 : c ≤ j ∧ j < c + ti.size
          · rw [if_pos hin2] at this
            obtain ⟨u, q1, q2⟩ := this
            rw [if_pos (by omega)]
            exact ⟨u, by rw [show (γ id).off + (i' * sz + j) - ((γ id).off + (i' * sz + c)) = j - c by omega]; simpa using q1, q2.mono hw (fun _ h => h)⟩
          · rw [if_neg hin2] at this
            obtain ⟨x0, q1, q2⟩ := this
            exact old x0 q1 q2 (by omega)
        · rw [List.getElem?_set_ne (Ne.symm hii)] at h1
          refine old x h1 h2 ?_
          rcases Nat.lt_or_gt_of_ne hii with hlt | hgt
          · have := Nat.mul_le_mul_right sz (show i' + 1 ≤ i by omega)
            rw [Nat.add_mul, Nat.one_mul] at this
            omega
          · have := Nat.mul_le_mul_right sz (show i + 1 ≤ i' by omega)
            rw [Nat.add_mul, Nat.one_mul] at this
            omega
    cases hc1 : (Nat.beq c 0 && Nat.beq ti.size sz) with
    | true =>
      rw [hc1] at hg
      simp only [cond_true] at hg
      simp only [Bool.and_eq_true] at hc1
      have hc0 := Nat.eq_of_beq_eq_true hc1.1
      have hts := Nat.eq_of_beq_eq_true hc1.2
      obtain ⟨x', fz, hfz, hg, hl, hrep⟩ := gets_frz (X := X) (a := a) (w := w) (γ := γ) hg
      obtain ⟨hap, hg⟩ := gets_bif hg
      refine both fz x' hfz hap (gets_ret hg) ⟨by rw [hl.1, hlen, hts], hl.2⟩ fun S' hS hR => ?_
      obtain ⟨q1, q2⟩ := hrep S' _ hR (hr.mono (fun _ _ => rfl) hS hfz.hdLe)
      have hxl : x'.cells.length = sz := by rw [hl.1, hlen, hts]
      refine ⟨by rw [q1, hlen], fun u hu => ?_, by omega, fun j e hj => ?_⟩
      · obtain ⟨j, hj⟩ := List.mem_iff_getElem?.1 hu
        have hjl := (List.getElem?_eq_some_iff.1 hj).1
        simp only [Array.length_toList] at hjl
        obtain ⟨u', r1, r2, r3⟩ := q2 j x'.cells[j] (List.getElem?_eq_getElem (by omega))
        rw [Array.getElem?_toList, r1] at hj
        cases hj; exact r3
      · have hjl := (List.getElem?_eq_some_iff.1 hj).1
        rw [if_pos ⟨by omega, by omega⟩]
        obtain ⟨u', r1, r2, r3⟩ := q2 j e hj
        exact ⟨u', by rw [hc0]; exact r1, r2⟩
    | false =>
      rw [hc1] at hg
      simp only [cond_false] at hg
      obtain ⟨hb2, hg⟩ := gets_bif hg
      simp only [Bool.and_eq_true, Bool.not_eq_true'] at hb2
      obtain ⟨⟨hts, hcs⟩, hagg⟩ := hb2
      have hts' := Nat.eq_of_beq_eq_true hts
      have hcs' := Nat.le_of_ble_eq_true hcs
      obtain ⟨x0, fz, hfz, hok, hg⟩ := gets_frz1 hg
      obtain ⟨hap, hg⟩ := gets_bif hg
      obtain ⟨xi, hxi⟩ : ∃ xi, xs[i]? = some xi := ⟨_, List.getElem?_eq_getElem hi⟩
      have hvec := (h.head id _ he).2
      rw [if_neg (by simp [hn])] at hvec
      obtain ⟨_, _, _, _, hrow⟩ := hvec
      have hxiE := hrow.1 xi (List.mem_of_getElem? hxi)
      have hxil := hxiE.1
      obtain ⟨cs, rfl⟩ : ∃ cs, xi = .agg cs := by
        cases xi with
        | agg cs => exact ⟨cs, rfl⟩
        | _ =>
          simp only [FV.cells, List.length_cons, List.length_nil] at hxil
          have : c = 0 := by omega
          subst this
          rw [hts', ← hxil] at hc1
          simp at hc1
      have hset : setC xs i c x0 = xs.set i (.agg (cs.set c x0)) := by simp [setC, hxi]
      rw [hset] at hg
      have hcl : cs.length = sz := hxil
      refine both fz (.agg (cs.set c x0)) hfz hap (gets_ret hg) ⟨by simpa [FV.cells] using hcl, fun e he => by
          rcases List.mem_or_eq_of_mem_set he with he | rfl
          · exact hxiE.2 e he
          · exact hok.flat⟩ fun S' hS hR => ?_
      obtain ⟨q1, q2, q3⟩ := hok.rep hfz hR (hr.mono (fun _ _ => rfl) hS hfz.hdLe)
      have hvc : (a.eval y).cells = #[a.eval y] := by
        generalize a.eval y = v at q3
        cases v <;> first | rfl | simp [Value.oneCell'] at q3
      rw [hvc, hts']
      refine ⟨rfl, fun u hu => by simp at hu; subst hu; exact q3, hcs', fun j e hj => ?_⟩
      simp only [FV.cells] at hj
      by_cases hjc : j = c
      · subst hjc
        rw [if_pos ⟨by omega, by omega⟩]
        rw [List.getElem?_set_self (by omega)] at hj
        cases hj
        exact ⟨_, by simp, q1⟩
      · rw [if_neg (by omega)]
        rw [List.getElem?_set_ne (Ne.symm hjc)] at hj
        exact ⟨_, hxi, hj⟩

end
end Rf
