/- append. -/
import Derived.Test.YtlenaaghkiedbaaRf14O
namespace Rf
open Go

theorem append_zero {P : Program} (w : World) (t ty e : TypeId) (i : TypeInfo) (ht : P.underlying t = some (.slice e)) (hi : P.info? e = some i) (base aa : Option Addr) (n cap c : Nat) (hc : n ≤ cap) :
    (Builtin.append_ #[t, t] ty #[.slice base n cap, .slice aa 0 c]).run P w = .ok (.slice base n cap) w := by
  cases aa <;> cases base <;> simp [Builtin.append_, run_underlying ht, Go.sizeOf, typeInfo, hi, Builtin.lenOf, hc, Builtin.firstCells, loadCells, loadCellsFrom, storeCells]

section
variable {E : Env} {call : FuncId → List FV → Res} {X : Cx} {M : Mem} {a : Act} {w : World} {γ : Nat → Gh} {S : Nat → Prop} {us : List (Key × Ent)} {o : Oper}

/-- an owned slice that is nil -/
theorem Rel.gainNil (h : Rel X M a w γ S) {d sz : Nat} (hd : X.Dst d) (hf : hdOf M d = none) :
    Rel X ((.slot d, .sv (.sl d none)) :: (.head d, .vec sz []) :: M) (a.put (some d) (.slice none 0 0)) w (Gh.upd γ d ⟨0, 0, 0, true⟩) S := by
  have hne : ∀ i e, hdOf M i = some e → i ≠ d := fun i e h1 h2 => by rw [h2, hf] at h1; simp at h1
  have hM : ∀ i, i ≠ d → hdOf ((.head d, .vec sz []) :: M) i = hdOf M i := fun i hi => by rw [hdOf, hdOf, Mem.get_cons, if_neg (by simpa using hi)]
  have he : hdOf ((.head d, .vec sz []) :: M) d = some (.vec sz []) := by rw [hdOf, Mem.get_cons, if_pos rfl]
  have hh : HdLe (hdOf M) (hdOf ((.head d, .vec sz []) :: M)) γ (Gh.upd γ d ⟨0, 0, 0, true⟩) := fun i e h1 => ⟨e, by rw [hM i (hne i e h1)]; exact h1, .inr ⟨rfl, rfl, fun h => h, Gh.upd_ne γ _ (hne i e h1)⟩⟩
  have cases' : ∀ i e', hdOf ((.head d, .vec sz []) :: M) i = some e' → (i = d ∧ e' = .vec sz []) ∨ (i ≠ d ∧ hdOf M i = some e') := fun i e' h1 => by
    by_cases hi : i = d
    · subst hi; rw [he] at h1; exact .inl ⟨rfl, by simpa using h1.symm⟩
    · exact .inr ⟨hi, by rw [← hM i hi]; exact h1⟩
  have hR : Rel X ((.head d, .vec sz []) :: M) a w (Gh.upd γ d ⟨0, 0, 0, true⟩) S := by
    refine { keep := h.keep, head := fun i e' h1 => ?_, own := fun i e' h1 h2 => ?_, inj := fun i e1 j e2 h1 h2 o1 o2 hbk => ?_, nt := h.nt, nodef := h.nodef, pin := h.pin, slot := fun t s hs => ?_ }
    · rcases cases' i e' h1 with ⟨rfl, rfl⟩ | ⟨hi, h1⟩
      · refine ⟨Nat.zero_le _, ?_⟩
        rw [Gh.upd_same, if_pos rfl]; exact ⟨rfl, rfl⟩
      · exact (h.head i e' h1).go (fun _ _ => rfl) (fun _ h => h) hh (Gh.upd_ne γ _ hi) (fun j => by rw [Mem.get_cons, if_neg (by simp)]) fun _ => rfl
    · rcases cases' i e' h1 with ⟨rfl, rfl⟩ | ⟨hi, h1⟩
      · simp [Owned, Gh.upd_same] at h2
      · have h2 := Owned.congr (Gh.upd_ne γ _ hi) h2
        rw [Gh.upd_ne γ _ hi]
        exact h.own i e' h1 h2
    · rcases cases' i e1 h1 with ⟨rfl, rfl⟩ | ⟨hi, h1⟩
      · simp [Owned, Gh.upd_same] at o1
      rcases cases' j e2 h2 with ⟨rfl, rfl⟩ | ⟨hj, h2⟩
      · simp [Owned, Gh.upd_same] at o2
      · rw [Gh.upd_ne γ _ hi, Gh.upd_ne γ _ hj] at hbk
        exact h.inj i e1 j e2 h1 h2 (Owned.congr (Gh.upd_ne γ _ hi) o1) (Owned.congr (Gh.upd_ne γ _ hj) o2) hbk
    · rw [Mem.get_cons, if_neg (by simp)] at hs
      exact (h.slot t s hs).mono (fun _ _ => rfl) (fun _ h => h) hh
  exact hR.put hd (s := .sl d none) (by
    have := SRep.sl (w := w) (S := S) (γ := Gh.upd γ d ⟨0, 0, 0, true⟩) he (sz := sz) (len := 0) rfl
    rwa [Gh.upd_same] at this)

/-- an owned row under a new name, in a block that nobody owns -/
theorem Rel.gainVec (h : Rel X M a w γ S) {d : Nat} (hd : X.Dst d) (hf : hdOf M d = none) {sz : Nat} {xs : List FV} {w' : World} {g : Gh} {vals : Array Value} {t : TypeId} (hg : g.nil = false) (hb : But g.blk w w') (hS : ¬ S g.blk)
    (hn : ∀ i e, hdOf M i = some e → Owned γ i e → (γ i).blk ≠ g.blk) (hl : g.blk < w'.heap.size) (hx : X.W0 g.blk ∨ X.w0.heap.size ≤ g.blk) (hc : xs.length ≤ g.cap)
    (hv : w'.heap[g.blk]? = some (.cells vals t (0, 0))) (hs : g.off + g.cap * sz ≤ vals.size) (hrow : Row w' S g.blk g.off sz xs) :
    Rel X ((.slot d, .sv (.sl d none)) :: (.head d, .vec sz xs) :: M) (a.put (some d) (.slice (some ⟨g.blk, g.off, none⟩) xs.length g.cap)) w' (Gh.upd γ d g) S := by
  have hM : SameBut d M ((.head d, .vec sz xs) :: M) := by
    refine ⟨fun i hi => ?_, fun i j hi => ?_, fun t => ?_⟩
    · rw [hdOf, hdOf, Mem.get_cons, if_neg (by simpa using hi)]
    · rw [Mem.get_cons, if_neg (by simp)]
    · rw [Mem.get_cons, if_neg (by simp)]
  have he : hdOf ((.head d, .vec sz xs) :: M) d = some (.vec sz xs) := by rw [hdOf, Mem.get_cons, if_pos rfl]
  have hR := h.gain hf hM he hb hS hn hl hx (fun hh => by
    refine ⟨by rw [Gh.upd_same]; exact hc, ?_⟩
    rw [Gh.upd_same, if_neg (by simp [hg])]
    exact ⟨vals, t, hv, hs, hrow⟩)
  exact hR.put hd (s := .sl d none) (by
    have := SRep.sl (w := w') (S := S) (γ := Gh.upd γ d g) he (sz := sz) (len := xs.length) rfl
    rwa [Gh.upd_same, show g.base = some ⟨g.blk, g.off, none⟩ by simp [Gh.base, hg]] at this)

theorem idx {sz i j k : Nat} (hj : j < sz) (h : i < k) : i * sz + j < k * sz := by
  have := Nat.mul_le_mul_right sz (show i + 1 ≤ k by omega)
  rw [Nat.add_mul, Nat.one_mul] at this
  omega

/-- what the values of a row are -/
theorem rowVals_ok {b p sz : Nat} {ys : List FV} (hr : Row w S b p sz ys) (hsz : 1 ≤ sz) : (rowVals w b p sz ys.length).length = ys.length * sz ∧
    (∀ (j : Nat) (u : Value), (rowVals w b p sz ys.length)[j]? = some u → w.cell? ((⟨b, p, none⟩ : Addr).add j) = some u) ∧ (∀ u ∈ rowVals w b p sz ys.length, u.oneCell' = true) ∧
    ∀ (i j : Nat) (x c : FV), ys[i]? = some x → x.cells[j]? = some c → ∃ u, (rowVals w b p sz ys.length)[i * sz + j]? = some u ∧ FRep w S c u := by
  have key : ∀ k, k < ys.length * sz → ∃ v c, cellAt w b (p + k) = some v ∧ FRep w S c v ∧ c.flat = true := fun k hk => by
    have hi : k / sz < ys.length := Nat.div_lt_of_lt_mul (by rwa [Nat.mul_comm])
    have hj : k % sz < sz := Nat.mod_lt _ (by omega)
    have hx : ys[k / sz]? = some ys[k / sz] := List.getElem?_eq_getElem hi
    obtain ⟨e1, e2⟩ := hr.1 _ (List.mem_of_getElem? hx)
    have hc : ys[k / sz].cells[k % sz]? = some ys[k / sz].cells[k % sz] := List.getElem?_eq_getElem (by omega)
    obtain ⟨v, h1, h2⟩ := hr.2 _ _ _ _ hx hc
    have : k / sz * sz + k % sz = k := by rw [Nat.mul_comm]; exact Nat.div_add_mod k sz
    rw [this] at h1
    exact ⟨v, _, h1, h2, e2 _ (List.mem_of_getElem? hc)⟩
  refine ⟨by simp [rowVals], fun j u hj => ?_, fun u hu => ?_, fun i j x c hi hj => ?_⟩
  · have hlt := (List.getElem?_eq_some_iff.1 hj).1
    have hlt' : j < ys.length * sz := by simpa [rowVals] using hlt
    rw [rowVals_get hlt'] at hj
    cases hj
    obtain ⟨v, c, h1, _, _⟩ := key j hlt'
    rw [addr_add]
    show cellAt w b (p + j) = _
    rw [h1]; rfl
  · obtain ⟨j, hj⟩ := List.mem_iff_getElem?.1 hu
    have hlt := (List.getElem?_eq_some_iff.1 hj).1
    have hlt' : j < ys.length * sz := by simpa [rowVals] using hlt
    rw [rowVals_get hlt'] at hj
    cases hj
    obtain ⟨v, c, h1, h2, h3⟩ := key j hlt'
    rw [h1]; exact h2.one h3
  · have hil := (List.getElem?_eq_some_iff.1 hi).1
    have hjl : j < sz := by have := (List.getElem?_eq_some_iff.1 hj).1; rw [(hr.1 _ (List.mem_of_getElem? hi)).1] at this; exact this
    obtain ⟨v, h1, h2⟩ := hr.2 _ _ _ _ hi hj
    exact ⟨v, by rw [rowVals_get (idx hjl hil), h1]; rfl, h2⟩

/-- The heart of append: what was there is given up, and what comes of it has a new name. -/
theorem append_core {t el : TypeId} {te : TyI} {inf : TypeInfo} {dd : TypeDesc} {z : Value} (hu : E.P.underlying t = some (.slice el)) (hT : TyOk E.P el te inf dd z) (h : Rel X M a w γ S) {d : Nat} (hd : X.Dst d) (hf : hdOf M d = none)
    (hsz : 1 ≤ te.size) (hby : 1 ≤ te.bytes)
    -- what it is put onto: a block that nobody else owns, or nil
    {g : Gh} {olds : List FV} (hg : (g.nil = true ∧ olds = [] ∧ g.cap = 0) ∨ (g.nil = false ∧ (∃ vals e, w.heap[g.blk]? = some (.cells vals e (0, 0)) ∧ g.off + g.cap * te.size ≤ vals.size) ∧ Row w S g.blk g.off te.size olds ∧
      ¬ S g.blk ∧ (∀ i e, hdOf M i = some e → Owned γ i e → (γ i).blk ≠ g.blk) ∧ (X.W0 g.blk ∨ X.w0.heap.size ≤ g.blk))) (hcap : olds.length ≤ g.cap)
    {ys : List FV} {aa : Option Addr} {c b p : Nat} (ha : ys ≠ [] → aa = some ⟨b, p, none⟩) (hr : Row w S b p te.size ys) (hlim : (olds.length + ys.length) * te.bytes ≤ 140737488355328) (ty : TypeId) :
    ∃ v' w' γ', (Builtin.append_ #[t, t] ty #[.slice g.base olds.length g.cap, .slice aa ys.length c]).run E.P w = .ok v' w' ∧ Rel X ((.slot d, .sv (.sl d none)) :: (.head d, .vec te.size (olds ++ ys)) :: M) (a.put (some d) v') w' γ' S := by
  have hsize : inf.size = te.size := hT.size
  by_cases hy : ys = []
  · subst hy
    have hrun := append_zero (P := E.P) w t ty el inf hu hT.info g.base aa olds.length g.cap c hcap
    rw [List.append_nil]
    rcases hg with ⟨hn, rfl, hc0⟩ | ⟨hn, ⟨vals, e, hb, hsz'⟩, hrow, hS, hno, hW⟩
    · refine ⟨_, w, Gh.upd γ d ⟨0, 0, 0, true⟩, hrun, ?_⟩
      have := h.gainNil (sz := te.size) hd hf
      simpa [Gh.base, hn, hc0] using this
    · refine ⟨_, w, Gh.upd γ d g, hrun, ?_⟩
      have hl : g.blk < w.heap.size := (Array.getElem?_eq_some_iff.1 hb).1
      have := h.gainVec hd hf (xs := olds) hn (But.refl _ _) hS hno hl hW hcap hb hsz' hrow
      simpa [Gh.base, hn] using this
  · obtain rfl := ha hy
    obtain ⟨r1, r2, r3, r4⟩ := rowVals_ok hr hsz
    have hm : 0 < ys.length := List.length_pos_iff.2 hy
    have hneed : olds.length + ys.length ≤ 140737488355328 := Nat.le_trans (Nat.le_mul_of_pos_right _ (by omega)) hlim
    -- a new block
    have fresh : ∀ (old : Nat) (olds' : List Value), olds'.length = olds.length * te.size → (∀ (i j : Nat) (x c : FV), olds[i]? = some x → x.cells[j]? = some c → ∃ u, olds'[i * te.size + j]? = some u ∧ FRep w S c u) → (∀ x, x ∈ olds → El te.size x) →
        (Builtin.append_ #[t, t] ty #[.slice g.base olds.length g.cap, .slice (some ⟨b, p, none⟩) ys.length c]).run E.P w = .ok (.slice (some ⟨w.heap.size, 0, none⟩) (olds.length + ys.length) (grownCap w (olds.length + ys.length) old el))
          (w.drew.alloc (.cells (olds'.toArray ++ (rowVals w b p te.size ys.length).toArray ++ Builtin.zeroCells z.cells (grownCap w (olds.length + ys.length) old el - (olds.length + ys.length))) el)) →
        ∃ v' w' γ', (Builtin.append_ #[t, t] ty #[.slice g.base olds.length g.cap, .slice (some ⟨b, p, none⟩) ys.length c]).run E.P w = .ok v' w' ∧ Rel X ((.slot d, .sv (.sl d none)) :: (.head d, .vec te.size (olds ++ ys)) :: M) (a.put (some d) v') w' γ' S := by
      intro old olds' hl' hold hel hrun
      refine ⟨_, _, Gh.upd γ d ⟨w.heap.size, 0, grownCap w (olds.length + ys.length) old el, false⟩, hrun, ?_⟩
      have hz : z.cells.size = te.size := by have := zeros_len hT.zeros; simpa [hT.len] using this
      have hge := grownCap_ge w (olds.length + ys.length) old el
      have := (h.drew (w.drawn + 1)).newVec hd hf (sz := te.size) (cap := grownCap w (olds.length + ys.length) old el) (xs := olds ++ ys)
        (vals := olds'.toArray ++ (rowVals w b p te.size ys.length).toArray ++ Builtin.zeroCells z.cells (grownCap w (olds.length + ys.length) old el - (olds.length + ys.length))) (t := el)
        (by simpa using hge) (by
          simp only [Array.size_append, List.size_toArray, size_zeroCells, hz, hl', r1, ← Nat.add_mul]
          exact Nat.mul_le_mul_right _ (by omega)) (fun x hx => (List.mem_append.1 hx).elim (hel x) (hr.1 x)) (fun i j x c hi hj => by
          have hjl : j < te.size := by
            have := (List.getElem?_eq_some_iff.1 hj).1
            rwa [((List.mem_append.1 (List.mem_of_getElem? hi)).elim (hel x) (hr.1 x)).1] at this
          rw [List.getElem?_append] at hi
          split at hi
          · rename_i hlt
            obtain ⟨u, q1, q2⟩ := hold i j x c hi hj
            refine ⟨u, ?_, q2.drawn⟩
            rw [Array.append_assoc, Array.getElem?_append_left (by simp [hl']; exact idx hjl hlt)]
            simpa using q1
          · rename_i hlt
            obtain ⟨u, q1, q2⟩ := r4 _ j x c hi hj
            refine ⟨u, ?_, q2.drawn⟩
            have hil := (List.getElem?_eq_some_iff.1 hi).1
            have hin : (i - olds.length) * te.size + j < ys.length * te.size := idx hjl hil
            have hsub : i * te.size + j = olds.length * te.size + ((i - olds.length) * te.size + j) := by
              rw [← Nat.add_assoc, ← Nat.add_mul, show olds.length + (i - olds.length) = i by omega]
            rw [Array.append_assoc, Array.getElem?_append_right (by simp [hl']; rw [hsub]; omega), Array.getElem?_append_left (by simp [hl', r1]; rw [hsub]; omega)]
            rw [show i * te.size + j - olds'.toArray.size = (i - olds.length) * te.size + j by simp [hl']; omega]
            simpa using q1)
      simp only [List.length_append] at this
      exact this
    rcases hg with ⟨hn, rfl, hc0⟩ | ⟨hn, ⟨vals, e, hb, hsz'⟩, hrow, hS, hno, hW⟩
    · have hbase : g.base = none := by simp [Gh.base, hn]
      have hrun := run_append_nil (P := E.P) w t ty el inf z hu hT.info hT.zero ⟨b, p, none⟩ ys.length c _ (by rw [hsize]; exact r1) r2 hm (by omega) (by rw [hT.bytes]; have := hlim; simp only [List.length_nil, Nat.zero_add] at this; omega)
      refine fresh 0 [] (by simp) (fun i j x c hi => by simp at hi) (fun x hx => by simp at hx) ?_
      simp only [List.length_nil, Nat.zero_add, hbase, hc0]
      simpa using hrun
    · have hbase : g.base = some ⟨g.blk, g.off, none⟩ := by simp [Gh.base, hn]
      rw [hbase] at fresh ⊢
      by_cases hroom : olds.length + ys.length ≤ g.cap
      · have hmul : (olds.length + ys.length) * te.size ≤ g.cap * te.size := Nat.mul_le_mul_right _ hroom
        rw [Nat.add_mul] at hmul
        have r1' : (rowVals w b p te.size ys.length).length = ys.length * te.size := r1
        have hrun := append_room (P := E.P) w t ty el e inf hu hT.info g.blk g.off olds.length g.cap vals hb ⟨b, p, none⟩ ys.length c _ (by rw [hsize]; exact r1) r2 r3 hroom (by rw [hsize, r1']; omega)
        refine ⟨_, _, Gh.upd γ d g, hrun, ?_⟩
        have hheap := setRow_heap w g.blk vals (vals.toList.take (g.off + olds.length * inf.size) ++ rowVals w b p te.size ys.length ++ vals.toList.drop (g.off + olds.length * inf.size + (rowVals w b p te.size ys.length).length)).toArray e (0, 0) hb
        have hsp := splice_get vals.toList (g.off + olds.length * inf.size) (rowVals w b p te.size ys.length) (by simp [r1', hsize]; omega)
        have hw := h.toHRel.sblock (But.setRow w g.blk (vals.toList.take (g.off + olds.length * inf.size) ++ rowVals w b p te.size ys.length ++ vals.toList.drop (g.off + olds.length * inf.size + (rowVals w b p te.size ys.length).length)).toArray) hS
        have := h.gainVec hd hf (sz := te.size) (xs := olds ++ ys) hn (But.setRow w g.blk _) hS hno (by rw [show (w.setRow g.blk _).heap.size = w.heap.size by simp [World.setRow]]; exact (Array.getElem?_eq_some_iff.1 hb).1) hW (by simpa using hroom) hheap
          (by simp [r1', hsize]; omega) ⟨fun x hx => (List.mem_append.1 hx).elim (hrow.1 x) (hr.1 x), fun i j x c hi hj => by
            rw [cellAt_eq hheap, List.getElem?_toArray, hsp]
            have hjl : j < te.size := by
              have := (List.getElem?_eq_some_iff.1 hj).1
              rwa [((List.mem_append.1 (List.mem_of_getElem? hi)).elim (hrow.1 x) (hr.1 x)).1] at this
            rw [List.getElem?_append] at hi
            split at hi
            · rename_i hlt
              have hin := idx hjl hlt
              rw [if_neg (by rw [hsize]; omega)]
              obtain ⟨v, q1, q2⟩ := hrow.2 i j x c hi hj
              rw [cellAt_eq hb] at q1
              exact ⟨v, by simpa using q1, q2.mono hw (fun _ h => h)⟩
            · rename_i hlt
              obtain ⟨u, q1, q2⟩ := r4 _ j x c hi hj
              have hil := (List.getElem?_eq_some_iff.1 hi).1
              have hin : (i - olds.length) * te.size + j < ys.length * te.size := idx hjl hil
              have hsub : i * te.size + j = olds.length * te.size + ((i - olds.length) * te.size + j) := by
                rw [← Nat.add_assoc, ← Nat.add_mul, show olds.length + (i - olds.length) = i by omega]
              rw [if_pos (by rw [hsize, r1', hsub]; omega)]
              exact ⟨u, by rw [show g.off + (i * te.size + j) - (g.off + olds.length * inf.size) = (i - olds.length) * te.size + j by rw [hsize, hsub]; omega]; exact q1, q2.mono hw (fun _ h => h)⟩⟩
        rw [List.length_append] at this
        exact this
      · obtain ⟨o1, o2, o3, o4⟩ := rowVals_ok hrow hsz
        have hrun := run_append_grow (P := E.P) w t ty el inf z hu hT.info hT.zero ⟨g.blk, g.off, none⟩ olds.length g.cap (rowVals w g.blk g.off te.size olds.length) (by rw [o1, hsize]) o2 ⟨b, p, none⟩ ys.length c _ (by rw [hsize]; exact r1) r2 (by omega) (by omega)
          (growslice_fits (by omega) (by rw [hT.bytes]; exact hlim))
        exact fresh g.cap _ o1 o4 hrow.1 hrun

end
end Rf
