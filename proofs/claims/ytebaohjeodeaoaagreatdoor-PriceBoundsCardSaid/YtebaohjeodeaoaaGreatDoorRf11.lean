/- New variables, structs, slices. -/
import Derived.Test.YtebaohjeodeaoaaGreatDoorRf10
import Derived.Laws.MakeOwn
import Derived.Great.BuildSlice
namespace Rf
open Go

section
variable {E : Env} {call : FuncId → List FV → Res} {X : Cx} {M : Mem} {a : Act} {w : World} {γ : Nat → Gh} {S : Nat → Prop} {us : List (Key × Ent)} {o : Oper}

theorem But.alloc (w : World) (ob : Obj) : But w.heap.size w (w.alloc ob) := But.new w ob

theorem heap_new (w : World) (ob : Obj) : (w.alloc ob).heap[w.heap.size]? = some ob := heap_alloc_new w ob

/-- a new variable, in a block of its own -/
theorem Rel.newObj (h : Rel X M a w γ S) {d : Nat} (hd : X.Dst d) (hf : hdOf M d = none) {cs : List SV} {vals : Array Value} {t : TypeId} (hl : vals.size = cs.length)
    (hc : ∀ (j : Nat) (c : SV), cs[j]? = some c → c.flat = true ∧ SRep w S γ (hdOf M) c (vals.getD j undef)) :
    Rel X (((.slot d, .sv (.ptr d 0)) :: (.head d, .obj cs.length) :: wrCells d 0 cs) ++ M) (a.put (some d) (.pointer (some ⟨w.heap.size, 0, none⟩))) (w.alloc (.cells vals t (0, 0))) (Gh.upd γ d ⟨w.heap.size, 0, 0, false⟩) S := by
  have hM : SameBut d M (((.head d, .obj cs.length) :: wrCells d 0 cs) ++ M) := by
    refine ⟨fun i hi => ?_, fun i j hi => ?_, fun t => ?_⟩
    · rw [hdOf, hdOf, List.cons_append, Mem.get_cons, if_neg (by simpa using hi), Mem.get_append, get_wrH]; rfl
    · rw [List.cons_append, Mem.get_cons, if_neg (by simp), Mem.get_append, get_wrC, if_neg (fun q => hi q.1)]; rfl
    · rw [List.cons_append, Mem.get_cons, if_neg (by simp), Mem.get_append, get_wrS]; rfl
  have he : hdOf (((.head d, .obj cs.length) :: wrCells d 0 cs) ++ M) d = some (.obj cs.length) := by rw [hdOf, List.cons_append, Mem.get_cons, if_pos rfl]
  have hb : But w.heap.size w (w.alloc (.cells vals t (0, 0))) := But.alloc w _
  have hS : ¬ S w.heap.size := fun hq => Nat.lt_irrefl _ (h.keep.bound _ hq)
  have hR := h.gain (g := ⟨w.heap.size, 0, 0, false⟩) hf hM he hb hS (fun i e h1 h2 hq => by have := (h.own i e h1 h2).1; simp only at hq; omega) (by simp) (.inr h.keep.size) (fun hh => by
    have hw := h.toHRel.sblock hb hS
    refine ⟨by rw [Gh.upd_same], vals, t, by rw [Gh.upd_same]; exact heap_new w _, hl, fun j hj => ?_⟩
    obtain ⟨q1, q2⟩ := hc j cs[j] (List.getElem?_eq_getElem hj)
    exact ⟨cs[j], by rw [List.cons_append, Mem.get_cons, if_neg (by simp), Mem.get_append, get_wrC, if_pos ⟨rfl, Nat.zero_le _, by omega⟩, Nat.sub_zero, List.getElem?_eq_getElem hj]; rfl, q1, q2.mono hw (fun _ h => h) hh⟩)
  have := hR.put hd (s := .ptr d 0) (v := .pointer (some ⟨w.heap.size, 0, none⟩)) (by
    have := SRep.ptr (w := w.alloc (.cells vals t (0, 0))) (S := S) (γ := Gh.upd γ d ⟨w.heap.size, 0, 0, false⟩) (off := 0) he rfl
    rwa [Gh.upd_same] at this)
  exact this

/-- a new row, in a block of its own -/
theorem Rel.newVec (h : Rel X M a w γ S) {d : Nat} (hd : X.Dst d) (hf : hdOf M d = none) {sz cap : Nat} {xs : List FV} {vals : Array Value} {t : TypeId} (hc : xs.length ≤ cap) (hl : cap * sz ≤ vals.size)
    (hsz : ∀ x, x ∈ xs → El sz x) (hr : ∀ (i j : Nat) (x c : FV), xs[i]? = some x → x.cells[j]? = some c → ∃ v, vals[i * sz + j]? = some v ∧ FRep w S c v) :
    Rel X ((.slot d, .sv (.sl d none)) :: (.head d, .vec sz xs) :: M) (a.put (some d) (.slice (some ⟨w.heap.size, 0, none⟩) xs.length cap)) (w.alloc (.cells vals t (0, 0))) (Gh.upd γ d ⟨w.heap.size, 0, cap, false⟩) S := by
  have hM : SameBut d M ((.head d, .vec sz xs) :: M) := by
    refine ⟨fun i hi => ?_, fun i j hi => ?_, fun t => ?_⟩
    · rw [hdOf, hdOf, Mem.get_cons, if_neg (by simpa using hi)]
    · rw [Mem.get_cons, if_neg (by simp)]
    · rw [Mem.get_cons, if_neg (by simp)]
  have he : hdOf ((.head d, .vec sz xs) :: M) d = some (.vec sz xs) := by rw [hdOf, Mem.get_cons, if_pos rfl]
  have hb : But w.heap.size w (w.alloc (.cells vals t (0, 0))) := But.alloc w _
  have hS : ¬ S w.heap.size := fun hq => Nat.lt_irrefl _ (h.keep.bound _ hq)
  have hR := h.gain (g := ⟨w.heap.size, 0, cap, false⟩) hf hM he hb hS (fun i e h1 h2 hq => by have := (h.own i e h1 h2).1; simp only at hq; omega) (by simp) (.inr h.keep.size) (fun hh => by
    have hw := h.toHRel.sblock hb hS
    refine ⟨by rw [Gh.upd_same]; exact hc, ?_⟩
    rw [Gh.upd_same, if_neg (by simp)]
    refine ⟨vals, t, heap_new w _, by simpa using hl, hsz, fun i j x c h1 h2 => ?_⟩
    obtain ⟨v, h3, h4⟩ := hr i j x c h1 h2
    exact ⟨v, by rw [cellAt_eq (heap_new w _), Nat.zero_add]; exact h3, h4.mono hw (fun _ h => h)⟩)
  exact hR.put hd (s := .sl d none) (by
    have := SRep.sl (w := w.alloc (.cells vals t (0, 0))) (S := S) (γ := Gh.upd γ d ⟨w.heap.size, 0, cap, false⟩) he (sz := sz) (len := xs.length) rfl
    rwa [Gh.upd_same] at this)

theorem zerosS_rep {t : TypeId} {ti : TyI} {inf : TypeInfo} {d : TypeDesc} {z : Value} (hT : TyOk E.P t ti inf d z) (hd : Nat → Option Ent) :
    z.cells.size = ti.zerosS.length ∧ ∀ (j : Nat) (c : SV), ti.zerosS[j]? = some c → c.flat = true ∧ SRep w S γ hd c (z.cells.getD j undef) := by
  have hl := zeros_len hT.zeros
  refine ⟨by simp [TyI.zerosS]; simpa using hl, fun j c hj => ?_⟩
  simp only [TyI.zerosS, List.getElem?_map, Option.map_eq_some_iff] at hj
  obtain ⟨k, hk, rfl⟩ := hj
  obtain ⟨v, h1, h2, h3, h4⟩ := zeros_rep (w := w) (S := S) hT.zeros j k hk
  have hq : z.cells.getD j undef = v := by rw [Array.getD_eq_getD_getElem?, ← Array.getElem?_toList, h1, Option.getD_some]
  rw [hq]
  refine ⟨?_, h3 _ _⟩
  cases k with
  | raw u =>
    have h5 := h2
    simp only [CK.zero] at h5
    cases h5
    simpa [CK.zeroS, SV.flat, FV.flat, CK.zero] using h4
  | _ => rfl

theorem sim_alloc {t : TypeId} (hE : EnvOk E) (h : Rel X M a w γ S) (hd : ∀ d, o.dst = some d → X.Dst d) (hop : o.op = .alloc t) (hg0 : Gets (rtOp E call o) M us) : Goal E.P X M o a w us := by
  simp only [rtOp, hop] at hg0
  obtain ⟨ti, inf, dd, z, hT, hg⟩ := gets_ty hE hg0
  clear hg0
  split at hg
  · rename_i d hdst
    obtain ⟨hf, hg⟩ := gets_fresh hg
    obtain rfl := gets_ret hg
    obtain ⟨h1, h2⟩ := zerosS_rep (w := w) (S := S) (γ := γ) hT (hdOf M)
    have hlen : ti.zerosS.length = ti.size := by simp [TyI.zerosS, hT.len]
    have hr : (execOp a.eval o).run E.P w = .ok (.value (.pointer (some ⟨w.heap.size, 0, none⟩))) (w.alloc (.cells z.cells t (0, 0))) := by
      simp [execOp, hop, Instr.alloc, hT.runZ, newVar, newRow]
    have := h.newObj (hd d hdst) hf (t := t) h1 h2
    rw [hlen] at this
    exact .value hr (by rw [hdst]; exact this)
  · exact (gets_fail hg).elim

theorem sim_box {t : TypeId} {x : Operand} (hE : EnvOk E) (h : Rel X M a w γ S) (hd : ∀ d, o.dst = some d → X.Dst d) (hop : o.op = .box t x) (hg0 : Gets (rtOp E call o) M us) : Goal E.P X M o a w us := by
  simp only [rtOp, hop] at hg0
  obtain ⟨ti, inf, dd, z, hT, hg1⟩ := gets_ty hE hg0
  obtain ⟨s, hs, hg⟩ := gets_opd h hg1
  clear hg0 hg1
  split at hg
  · rename_i d hdst
    obtain ⟨hb, hg⟩ := gets_bif hg
    simp only [Bool.and_eq_true] at hb
    obtain ⟨hlv, hg⟩ := gets_lives hg
    obtain ⟨hf, hg⟩ := gets_fresh hg
    obtain rfl := gets_ret hg
    obtain ⟨c1, c2, c3⟩ := cells_rep hs hb.2 hlv
    have hlen := Nat.eq_of_beq_eq_true hb.1
    have hr : (execOp a.eval o).run E.P w = .ok (.value (.pointer (some ⟨w.heap.size, 0, none⟩))) (w.alloc (.cells (a.eval x).cells t (0, 0))) := by
      simp [execOp, hop, Instr.box, newVar, newRow]
    have := h.newObj (hd d hdst) hf (t := t) c1 c2
    rw [hlen] at this
    exact .value hr (by rw [hdst]; exact this)
  · exact (gets_fail hg).elim

end
end Rf
