/- Slices that are made; structs that are built. -/
import Derived.Test.YtebaohjeodeaoaaGreatDoorRf11
namespace Rf
open Go

/-- an array that reads as a row of elements -/
def RowA (w : World) (S : Nat → Prop) (cur : Array Value) (sz : Nat) (xs : List FV) : Prop :=
  (∀ x, x ∈ xs → El sz x) ∧ ∀ (i j : Nat) (x c : FV), xs[i]? = some x → x.cells[j]? = some c → ∃ v, cur[i * sz + j]? = some v ∧ FRep w S c v

theorem foldSet (off k : Nat) : ∀ (l : List Value) (n : Nat) (cur : Array Value), off + n + l.length ≤ cur.size →
    ((l.zipIdx n).foldl (fun cs p => cs.setIfInBounds (off + p.2) p.1) cur)[k]? = if off + n ≤ k ∧ k < off + n + l.length then l[k - (off + n)]? else cur[k]?
  | [], n, cur, h => by simp; omega
  | v :: l, n, cur, h => by
    rw [List.zipIdx_cons, List.foldl_cons, foldSet off k l (n + 1) _ (by simp at h ⊢; omega)]
    simp only [List.length_cons] at h ⊢
    by_cases h1 : k = off + n
    · subst h1
      rw [if_neg (by omega), if_pos (by omega), Array.getElem?_setIfInBounds_self_of_lt (by omega)]
      simp
    · rw [Array.getElem?_setIfInBounds_ne (Ne.symm h1)]
      by_cases h2 : off + (n + 1) ≤ k ∧ k < off + (n + 1) + l.length
      · rw [if_pos h2, if_pos (by omega)]
        obtain ⟨q, rfl⟩ : ∃ q, k = off + (n + 1) + q := ⟨k - (off + (n + 1)), by omega⟩
        rw [show off + (n + 1) + q - (off + (n + 1)) = q by omega, show off + (n + 1) + q - (off + n) = q + 1 by omega, List.getElem?_cons_succ]
      · rw [if_neg h2, if_neg (by omega)]

theorem foldSet_size (off : Nat) : ∀ (l : List Value) (n : Nat) (cur : Array Value), ((l.zipIdx n).foldl (fun cs p => cs.setIfInBounds (off + p.2) p.1) cur).size = cur.size
  | [], n, cur => rfl
  | v :: l, n, cur => by rw [List.zipIdx_cons, List.foldl_cons, foldSet_size off l (n + 1)]; simp

/-- one step of a fill -/
theorem fill_cons (place : Nat → Option (Nat × Nat)) (cur : Array Value) (i : Nat) (v : Value) (rest : List (Nat × Value)) {off size : Nat} (hp : place i = some (off, size)) (h1 : v.cells.size = size) (h2 : off + size ≤ cur.size) :
    Instr.fill place cur ((i, v) :: rest) = Instr.fill place ((v.cells.toList.zipIdx 0).foldl (fun cs p => cs.setIfInBounds (off + p.2) p.1) cur) rest := by
  have h3 : ¬ (v.cells.size ≠ size || off + v.cells.size > cur.size) = true := by simp [h1]; omega
  simp only [Instr.fill, hp]
  rw [if_neg h3]
  congr 1
  rw [← Array.foldl_toList, Array.toList_zipIdx]

theorem RowA.fill {w : World} {S : Nat → Prop} {sz : Nat} : ∀ {ps : List (Nat × Value)} {fs : List (Nat × FV)} {cur : Array Value} {xs : List FV}, RowA w S cur sz xs → xs.length * sz ≤ cur.size → fs.length = ps.length →
    (∀ (k : Nat) (p : Nat × Value), ps[k]? = some p → ∃ x, fs[k]? = some (p.1, x) ∧ p.1 < xs.length ∧ El sz x ∧ p.2.cells.size = sz ∧ ∀ (j : Nat) (c : FV), x.cells[j]? = some c → ∃ u, p.2.cells[j]? = some u ∧ FRep w S c u) →
    ∃ cur', Instr.fill (fun i => some (i * sz, sz)) cur ps = some cur' ∧ cur'.size = cur.size ∧ RowA w S cur' sz (fs.foldl (fun l p => l.set p.1 p.2) xs)
  | [], [], cur, xs, h, hl, hlen, hp => ⟨cur, rfl, rfl, h⟩
  | [], _ :: _, cur, xs, h, hl, hlen, hp => by simp at hlen
  | p :: ps, [], cur, xs, h, hl, hlen, hp => by simp at hlen
  | p :: ps, f :: fs, cur, xs, h, hl, hlen, hp => by
    obtain ⟨x, h1, h2, h3, h4, h5⟩ := hp 0 p rfl
    simp only [List.getElem?_cons_zero, Option.some.injEq] at h1
    subst h1
    have hin := Nat.mul_le_mul_right sz (show p.1 + 1 ≤ xs.length by omega)
    rw [Nat.add_mul, Nat.one_mul] at hin
    have hstep := fill_cons (fun i => some (i * sz, sz)) cur p.1 p.2 ps rfl h4 (by omega)
    have hR : RowA w S ((p.2.cells.toList.zipIdx 0).foldl (fun cs q => cs.setIfInBounds (p.1 * sz + q.2) q.1) cur) sz (xs.set p.1 x) := by
      refine ⟨fun y hy => ?_, fun i j y c hi hj => ?_⟩
      · rcases List.mem_or_eq_of_mem_set hy with hy | rfl
        · exact h.1 y hy
        · exact h3
      · rw [foldSet (p.1 * sz) (i * sz + j) p.2.cells.toList 0 cur (by simp [h4]; omega)]
        simp only [Nat.add_zero, Array.length_toList, h4]
        have hjl : j < sz := by
          have : y.cells.length = sz := by
            rcases List.mem_or_eq_of_mem_set (List.mem_of_getElem? hi) with hy | rfl
            · exact (h.1 y hy).1
            · exact h3.1
          have := (List.getElem?_eq_some_iff.1 hj).1; omega
        by_cases hip : i = p.1
        · subst hip
          rw [List.getElem?_set_self h2] at hi
          cases hi
          rw [if_pos (by omega)]
          obtain ⟨u, q1, q2⟩ := h5 j c hj
          exact ⟨u, by rw [show p.1 * sz + j - p.1 * sz = j by omega]; simpa using q1, q2⟩
        · rw [List.getElem?_set_ne (Ne.symm hip)] at hi
          rw [if_neg]
          · exact h.2 i j y c hi hj
          · rcases Nat.lt_or_gt_of_ne hip with hlt | hgt
            · have := Nat.mul_le_mul_right sz (show i + 1 ≤ p.1 by omega)
              rw [Nat.add_mul, Nat.one_mul] at this
              omega
            · have := Nat.mul_le_mul_right sz (show p.1 + 1 ≤ i by omega)
              rw [Nat.add_mul, Nat.one_mul] at this
              omega
    obtain ⟨cur', q1, q2, q3⟩ := RowA.fill (ps := ps) (fs := fs) hR (by rw [foldSet_size]; simpa using hl) (by simpa using hlen) (fun k q hq => by
      obtain ⟨y, r1, r2, r3, r4, r5⟩ := hp (k + 1) q (by simpa using hq)
      exact ⟨y, by simpa using r1, by simpa using r2, r3, r4, r5⟩)
    exact ⟨cur', by rw [hstep]; exact q1, by rw [q2, foldSet_size], q3⟩

section
variable {E : Env} {call : FuncId → List FV → Res} {X : Cx} {M : Mem} {a : Act} {w : World} {γ : Nat → Gh} {S : Nat → Prop} {us : List (Key × Ent)} {o : Oper}

theorem TyOk.zeroCells {P : Program} {t : TypeId} {i : TyI} {inf : TypeInfo} {d : TypeDesc} {z : Value} (hT : TyOk P t i inf d z) : i.zeroF.cells = i.zeros := by
  unfold TyI.zeroF
  cases ha : i.agg with
  | true => rfl
  | false =>
    obtain ⟨k, hk, _⟩ := hT.one ha
    simp only [TyI.zeros, hk, List.map_cons, List.map_nil, cond_false, List.headD_cons]
    cases k <;> rfl

/-- zeros, as many as asked for -/
theorem RowA.zeros {t : TypeId} {i : TyI} {inf : TypeInfo} {d : TypeDesc} {z : Value} (hT : TyOk E.P t i inf d z) (n m : Nat) (h : n * i.size ≤ m) :
    RowA w S (madeCells z.cells m) i.size (List.replicate n i.zeroF) := by
  have hz : z.cells.size = i.size := by have := zeros_len hT.zeros; simpa [hT.len] using this
  refine ⟨fun x hx => ?_, fun q j x c hq hj => ?_⟩
  · rw [(List.mem_replicate.1 hx).2]
    refine ⟨by rw [hT.zeroCells, TyI.zeros, List.length_map, hT.len], fun c hc => ?_⟩
    rw [hT.zeroCells] at hc
    obtain ⟨j, hj⟩ := List.mem_iff_getElem?.1 hc
    simp only [TyI.zeros, List.getElem?_map, Option.map_eq_some_iff] at hj
    obtain ⟨k, hk, rfl⟩ := hj
    obtain ⟨v, r1, r2, r3, r4⟩ := zeros_rep (w := w) (S := S) hT.zeros j k hk
    cases k with
    | raw u => simp only [CK.zero] at r2; cases r2; exact r4
    | _ => rfl
  · have hqn : q < n := by have := (List.getElem?_eq_some_iff.1 hq).1; simpa using this
    have hx : x = i.zeroF := (List.mem_replicate.1 (List.mem_of_getElem? hq)).2
    subst hx
    rw [hT.zeroCells] at hj
    simp only [TyI.zeros, List.getElem?_map, Option.map_eq_some_iff] at hj
    obtain ⟨k, hk, rfl⟩ := hj
    obtain ⟨v, r1, r2, r3, r4⟩ := zeros_rep (w := w) (S := S) hT.zeros j k hk
    have hjl : j < i.size := by have := (List.getElem?_eq_some_iff.1 hk).1; rw [hT.len] at this; exact this
    have hin := Nat.mul_le_mul_right i.size (show q + 1 ≤ n by omega)
    rw [Nat.add_mul, Nat.one_mul] at hin
    refine ⟨v, ?_, r2⟩
    have hlt : q * i.size + j < m := by omega
    have hmod : (q * i.size + j) % z.cells.size = j := by rw [hz, Nat.mul_comm, Nat.mul_add_mod]; exact Nat.mod_eq_of_lt hjl
    have hv : z.cells[j]? = some v := by rw [← Array.getElem?_toList]; exact r1
    have hr : (Array.range m)[q * i.size + j]? = some (q * i.size + j) := by simp [hlt]
    simp only [madeCells, Array.getElem?_map, hr, Option.map_some, hmod, getElem!_def, hv]

theorem gets_opdP (h : Rel X M a w γ S) : ∀ {ps : List (Nat × Operand)} {f : List (Nat × SV) → RT}, Gets (opdP ps f) M us →
    ∃ ss, ss.length = ps.length ∧ (∀ (k : Nat) (p : Nat × Operand), ps[k]? = some p → ∃ s, ss[k]? = some (p.1, s) ∧ SRep w S γ (hdOf M) s (a.eval p.2)) ∧ Gets (f ss) M us
  | [], f, hg => ⟨[], rfl, fun k p hk => by simp at hk, hg⟩
  | (i, x) :: ps, f, hg => by
    unfold opdP at hg
    obtain ⟨s, hs, hg⟩ := gets_opd h hg
    obtain ⟨ss, h1, h2, hg⟩ := gets_opdP h hg
    refine ⟨(i, s) :: ss, by simp [h1], fun k p hk => ?_, hg⟩
    cases k with
    | zero => simp at hk; subst hk; exact ⟨s, rfl, hs⟩
    | succ k => simpa using h2 k p (by simpa using hk)

theorem FzList.head_none {fz : List (Key × Ent)} (h : FzList M fz) {d : Nat} (hd : hdOf M d = none) : hdOf (fz ++ M) d = none := by
  rcases h.get (.head d) with ⟨q, _⟩ | ⟨id, s, xs, q1, q2, q3⟩
  · rw [hdOf, q]; exact hd
  · cases q1
    rcases q3 with q3 | q3 <;> rw [hd] at q3 <;> cases q3

/-- how a value of several cells is frozen -/
def FzOk2 (M : Mem) (us : List (Key × Ent)) (s : SV) (x : FV) : Prop :=
  (∃ cs xs, s = .agg cs ∧ x = .agg xs ∧ xs.length = cs.length ∧ ∀ (j : Nat) (c : SV), cs[j]? = some c → ∃ y, xs[j]? = some y ∧ FzOk M us c y) ∨ (s.cells = [s] ∧ FzOk M us s x)

theorem FzOk2.mono {us vs : List (Key × Ent)} (hs : ∀ p, p ∈ us → p ∈ vs) {s : SV} {x : FV} (h : FzOk2 M us s x) : FzOk2 M vs s x := by
  rcases h with ⟨cs, xs, h1, h2, h3, h4⟩ | ⟨h1, h2⟩
  · exact .inl ⟨cs, xs, h1, h2, h3, fun j c hj => let ⟨y, q1, q2⟩ := h4 j c hj; ⟨y, q1, q2.mono hs⟩⟩
  · exact .inr ⟨h1, h2.mono hs⟩

theorem FzOk2.len {us : List (Key × Ent)} {s : SV} {x : FV} (h : FzOk2 M us s x) : x.cells.length = s.cells.length := by
  rcases h with ⟨cs, xs, rfl, rfl, h3, h4⟩ | ⟨h1, h2⟩
  · exact h3
  · rw [h1]
    cases h2 with
    | fv h => cases x <;> first | rfl | simp [FV.flat] at h
    | _ => rfl

theorem FzOk2.flat {us : List (Key × Ent)} {s : SV} {x : FV} (h : FzOk2 M us s x) : ∀ c, c ∈ x.cells → c.flat = true := by
  rcases h with ⟨cs, xs, rfl, rfl, h3, h4⟩ | ⟨h1, h2⟩
  · intro c hc
    obtain ⟨j, hj⟩ := List.mem_iff_getElem?.1 hc
    simp only [FV.cells] at hj
    have hj' := (List.getElem?_eq_some_iff.1 hj).1
    obtain ⟨x', q1, q2⟩ := h4 j cs[j] (List.getElem?_eq_getElem (by omega))
    rw [hj] at q1; cases q1
    exact q2.flat
  · have hxc : x.cells = [x] := by cases h2 with
      | fv h => cases x <;> first | rfl | simp [FV.flat] at h
      | _ => rfl
    intro c hc
    rw [hxc] at hc; simp at hc; subst hc; exact h2.flat

theorem FzOk2.rep {us : List (Key × Ent)} {s : SV} {x : FV} (hz : FzOk2 M us s x) (hf : FzList M us) (h : Rel X (us ++ M) a w γ S) {v : Value} (hv : SRep w S γ (hdOf (us ++ M)) s v) :
    v.cells.size = s.cells.length ∧ ∀ (j : Nat) (c : FV), x.cells[j]? = some c → ∃ u, v.cells[j]? = some u ∧ FRep w S c u ∧ u.oneCell' = true := by
  rcases hz with ⟨cs, xs, rfl, rfl, h3, h4⟩ | ⟨h1, h2⟩
  · obtain ⟨vs, rfl, hl, hr⟩ := hv.agg_inv
    refine ⟨hl, fun j c hj => ?_⟩
    simp only [FV.cells] at hj
    have hj' := (List.getElem?_eq_some_iff.1 hj).1
    have hjs : j < cs.length := by omega
    obtain ⟨x', q1, q2⟩ := h4 j cs[j] (List.getElem?_eq_getElem hjs)
    rw [hj] at q1; cases q1
    have := q2.rep hf h (hr j cs[j] (List.getElem?_eq_getElem hjs))
    have hv' : vs[j]? = some (vs.getD j undef) := by
      rw [Array.getD_eq_getD_getElem?, Array.getElem?_eq_getElem (by omega), Option.getD_some]
    exact ⟨_, hv', this.1, this.2.2⟩
  · have hxc : x.cells = [x] := by cases h2 with
      | fv h => cases x <;> first | rfl | simp [FV.flat] at h
      | _ => rfl
    obtain ⟨q1, q2, q3⟩ := h2.rep hf h hv
    have hvc : v.cells = #[v] := by cases v <;> first | rfl | simp [Value.oneCell'] at q3
    rw [hvc, h1, hxc]
    refine ⟨rfl, fun j c hj => ?_⟩
    cases j with
    | zero => simp at hj; subst hj; exact ⟨v, rfl, q1, q3⟩
    | succ j => simp at hj

theorem gets_frz2 {s : SV} {f : FV → List (Key × Ent) → RT} (hg : Gets (frz s f) M us) : ∃ x fz, FzList M fz ∧ FzOk2 M fz s x ∧ Gets (f x fz) M us := by
  unfold frz at hg
  split at hg
  · obtain ⟨xs, fz, h1, h2, h3, hg⟩ := gets_frzs hg
    exact ⟨_, fz, h1, .inl ⟨_, xs, rfl, rfl, h2, h3⟩, hg⟩
  · rename_i hs
    obtain ⟨x, fz, h1, h2, hg⟩ := gets_frz1 hg
    exact ⟨x, fz, h1, .inr ⟨by cases s <;> first | rfl | exact absurd rfl (hs _), h2⟩, hg⟩

/-- the parts of a literal, frozen -/
theorem gets_frzParts {n sz : Nat} : ∀ {ps : List (Nat × SV)} {f : List (Nat × FV) → List (Key × Ent) → RT}, Gets (frzParts n sz ps f) M us →
    ∃ xs fz, FzList M fz ∧ xs.length = ps.length ∧ Gets (f xs fz) M us ∧ ∀ (k : Nat) (i : Nat) (s : SV), ps[k]? = some (i, s) → ∃ x, xs[k]? = some (i, x) ∧ i < n ∧ s.cells.length = sz ∧ FzOk2 M fz s x
  | [], f, hg => ⟨[], [], FzList.nil M, rfl, hg, fun k i s h => by simp at h⟩
  | (i, s) :: ps, f, hg => by
    unfold frzParts at hg
    obtain ⟨x, fz, hfz, hok, hg⟩ := gets_frz2 hg
    obtain ⟨hb, hg⟩ := gets_bif hg
    simp only [Bool.and_eq_true] at hb
    have hsz := Nat.eq_of_beq_eq_true hb.1
    have hin := Nat.le_of_ble_eq_true hb.2
    obtain ⟨xs, fz', h1, h2, hg, h4⟩ := gets_frzParts hg
    refine ⟨(i, x) :: xs, fz ++ fz', hfz.app h1, by simp [h2], hg, fun k i' s' hk => ?_⟩
    cases k with
    | zero =>
      simp only [List.getElem?_cons_zero, Option.some.injEq, Prod.mk.injEq] at hk
      obtain ⟨rfl, rfl⟩ := hk
      exact ⟨x, rfl, hin, hsz, hok.mono fun p hp => List.mem_append_left _ hp⟩
    | succ k =>
      obtain ⟨x', r1, r2, r3, r4⟩ := h4 k i' s' (by simpa using hk)
      exact ⟨x', by simpa using r1, r2, r3, r4.mono fun p hp => List.mem_append_right _ hp⟩

theorem sim_buildSlice {t : TypeId} {n : Nat} {parts : Array (Nat × Operand)} (hE : EnvOk E) (h : Rel X M a w γ S) (hd : ∀ d, o.dst = some d → X.Dst d) (hop : o.op = .buildSlice t n parts) (hg0 : Gets (rtOp E call o) M us) : Goal E.P X M o a w us := by
  simp only [rtOp, hop] at hg0
  obtain ⟨el, te, inf, dd, z, hu, hT, hg1⟩ := gets_sliceTy hE hg0
  obtain ⟨ss, l1, hss, hg2⟩ := gets_opdP h hg1
  obtain ⟨xs, fz, hfz, l2, hg, hxs⟩ := gets_frzParts hg2
  clear hg0 hg1 hg2
  split at hg
  · rename_i d hdst
    obtain ⟨hb, hg⟩ := gets_bif hg
    simp only [Bool.and_eq_true] at hb
    have hsmall := Nat.le_of_ble_eq_true hb.1
    have hone := Nat.le_of_ble_eq_true hb.2
    obtain ⟨hf, hg⟩ := gets_fresh hg
    obtain rfl := gets_ret hg
    obtain ⟨S', k1, k2, hR⟩ := h.freezes hfz
    have hz : z.cells.size = te.size := by have := zeros_len hT.zeros; simpa [hT.len] using this
    have hbase : RowA w S' (madeCells z.cells (n * te.size)) te.size (List.replicate n te.zeroF) := RowA.zeros (E := E) hT n _ (Nat.le_refl _)
    have hvals : ∀ (k : Nat) (p : Nat × Value), (parts.map fun p => (p.1, a.eval p.2)).toList[k]? = some p → ∃ x, xs[k]? = some (p.1, x) ∧ p.1 < (List.replicate n te.zeroF).length ∧ El te.size x ∧ p.2.cells.size = te.size ∧
        ∀ (j : Nat) (c : FV), x.cells[j]? = some c → ∃ u, p.2.cells[j]? = some u ∧ FRep w S' c u := by
      intro k p hk
      simp only [Array.toList_map, List.getElem?_map, Option.map_eq_some_iff] at hk
      obtain ⟨q, hq, rfl⟩ := hk
      obtain ⟨s, r1, r2⟩ := hss k q hq
      obtain ⟨x, r3, r4, r5, r6⟩ := hxs k q.1 s r1
      obtain ⟨r7, r8⟩ := r6.rep hfz hR (r2.mono (fun _ _ => rfl) k1 hfz.hdLe)
      exact ⟨x, r3, by simpa using r4, ⟨by rw [r6.len, r5], r6.flat⟩, by rw [r7, r5], fun j c hj => let ⟨u, q1, q2, _⟩ := r8 j c hj; ⟨u, q1, q2⟩⟩
    obtain ⟨cur, c1, c2, c3⟩ := RowA.fill hbase (by simp [size_madeCells]) (by simp [l1, l2]) hvals
    rw [size_madeCells] at c2
    have hlen : (elemsOf n te.zeroF xs).length = n := by
      unfold elemsOf
      have : ∀ (ps : List (Nat × FV)) (l : List FV), (ps.foldl (fun l p => l.set p.1 p.2) l).length = l.length := by
        intro ps
        induction ps with
        | nil => intro l; rfl
        | cons p ps ih => intro l; rw [List.foldl_cons, ih]; simp
      rw [this]; simp
    have hr : (execOp a.eval o).run E.P w = .ok (.value (.slice (some ⟨w.heap.size, 0, none⟩) n n)) (w.alloc (.cells cur el (0, 0))) := by
      have hrun : (Instr.buildSlice t n (parts.map fun p => (p.1, a.eval p.2))).run E.P w = .ok (.slice (some ⟨w.heap.size, 0, none⟩) n n) (w.alloc (.cells cur el (0, 0))) := by
        by_cases h0 : n * te.size = 0
        · have hn0 : n = 0 := by rcases Nat.mul_eq_zero.1 h0 with h0 | h0 <;> omega
          subst hn0
          have c1' : Instr.fill (fun i => some (i * te.size, te.size)) #[] (parts.map fun p => (p.1, a.eval p.2)).toList = some cur := by
            have e : madeCells z.cells (0 * te.size) = #[] := by simp [madeCells]
            rw [← e]; exact c1
          rw [Array.toList_map] at c1'
          simp [Instr.buildSlice, run_underlying hu, hT.runS, c1', newRow, Array.range_zero']
        · exact run_buildSlice w t el n _ cur inf z hu hT.info hT.zero (by rw [hT.size]; omega) (by rw [hT.size]; exact h0) (by rw [hT.size]; exact c1)
      simp [execOp, hop, hrun]
    have := hR.newVec (hd d hdst) (hfz.head_none hf) (sz := te.size) (cap := n) (xs := elemsOf n te.zeroF xs) (vals := cur) (t := el) (by omega) (by rw [c2]; exact Nat.le_refl _) c3.1 c3.2
    rw [hlen] at this
    exact .value hr (by rw [hdst]; exact this)
  · exact (gets_fail hg).elim

theorem mkLen_some {bytes : Nat} {c : Int} {n : Nat} (h : mkLen bytes c = some n) : 0 ≤ c ∧ bytes * c ≤ 140737488355328 ∧ c ≤ 140737488355328 ∧ n = c.toNat := by
  unfold mkLen at h
  split at h
  · rename_i q; cases h; exact ⟨q.1, q.2.1, q.2.2, rfl⟩
  · simp at h

theorem sim_makeSlice {t : TypeId} {x y : Operand} (hE : EnvOk E) (h : Rel X M a w γ S) (hd : ∀ d, o.dst = some d → X.Dst d) (hop : o.op = .makeSlice t x y) (hg0 : Gets (rtOp E call o) M us) : Goal E.P X M o a w us := by
  simp only [rtOp, hop] at hg0
  obtain ⟨el, te, inf, dd, z, hu, hT, hg1⟩ := gets_sliceTy hE hg0
  obtain ⟨s, hs, hg2⟩ := gets_opd h hg1
  obtain ⟨r, hr, hg⟩ := gets_opd h hg2
  clear hg0 hg1 hg2
  split at hg
  · rename_i k1 n k2 c d hdst
    have e1 := hs.int_inv
    have e2 := hr.int_inv
    obtain ⟨hb, hg⟩ := gets_bif hg
    have hone := Nat.le_of_ble_eq_true hb
    obtain ⟨c', hc, hg⟩ := gets_nat hg
    obtain ⟨n', hn, hg⟩ := gets_nat hg
    obtain ⟨q1, q2, q3, rfl⟩ := mkLen_some hc
    obtain ⟨p1, p2, rfl, p4⟩ := bd_some hn
    obtain ⟨hf, hg⟩ := gets_fresh hg
    obtain rfl := gets_ret hg
    have hrun := run_make (P := E.P) w t el inf z hu hT.info hT.zero k1 k2 n c p1 (by omega) (by rw [hT.bytes]; omega) (by omega)
    rw [hT.size] at hrun
    have hrow : RowA w S (madeCells z.cells (c.toNat * te.size)) te.size (List.replicate n.toNat te.zeroF) := RowA.zeros (E := E) hT n.toNat _ (Nat.mul_le_mul_right _ (by omega))
    have := h.newVec (hd d hdst) hf (sz := te.size) (cap := c.toNat) (xs := List.replicate n.toNat te.zeroF) (t := el) (by simp; omega) (by rw [size_madeCells]; exact Nat.le_refl _) hrow.1 hrow.2
    rw [List.length_replicate] at this
    refine .value (v := .slice (some ⟨w.heap.size, 0, none⟩) n.toNat c.toNat) ?_ (by rw [hdst]; exact this)
    simp [execOp, hop, e1, e2, hrun]
  · exact (gets_fail hg).elim

end
end Rf
