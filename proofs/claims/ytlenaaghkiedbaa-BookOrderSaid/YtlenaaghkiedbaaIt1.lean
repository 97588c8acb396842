/- A range over a map, entry by entry as they lie: the operations inside a fence, and what has come. -/
import Derived.Sort.MapsRangeIn
import Derived.MapKept
namespace Rf
open Go
open Go.ChangeMaps (setBlock)

/-- A range over the map in block b, its iterator in block r, under way. -/
structure Rg (w : World) (b r : Nat) (es : Array MapEntry) (clock : Nat) (seen : Array Nat) : Prop where
  m : w.heap[b]? = some (.map es clock)
  i : w.heap[r]? = some (.mapIter (some b) clock seen clock)
  s : MapKept.Stamped es clock

theorem Rg.ne {w : World} {b r : Nat} {es : Array MapEntry} {clock : Nat} {seen : Array Nat} (h : Rg w b r es clock seen) : r ≠ b := by
  intro e
  have := h.i
  rw [e, h.m] at this
  cases this

/-- What has come, and what is to come. -/
def Got (es : Array MapEntry) (seen : Array Nat) (xs : List Value) : Prop := (xs ++ (leftOf es seen).toList.map (·.val)).Perm (es.toList.map (·.val))

theorem Got.start (es : Array MapEntry) : Got es #[] [] := by
  have : (leftOf es #[]).toList = es.toList := by
    unfold leftOf
    rw [Array.toList_filter]
    exact List.filter_eq_self.2 fun _ _ => by simp
  rw [Got, this]
  exact List.Perm.refl _

theorem Got.stop {es : Array MapEntry} {seen : Array Nat} {xs : List Value} (h : Got es seen xs) (h0 : (leftOf es seen).size = 0) : xs.Perm (es.toList.map (·.val)) := by
  have : leftOf es seen = #[] := Array.eq_empty_of_size_eq_zero h0
  unfold Got at h
  rw [this] at h
  simpa using h

theorem left_push {es : Array MapEntry} {seen : Array Nat} {e : MapEntry} (hn : (es.toList.map (·.born)).Nodup) (he : e ∈ (leftOf es seen).toList) : (leftOf es seen).toList.Perm (e :: (leftOf es (seen.push e.born)).toList) := by
  unfold leftOf at he ⊢
  rw [Array.toList_filter] at he ⊢
  rw [Array.toList_filter]
  generalize es.toList = l at hn he ⊢
  induction l with
  | nil => simp at he
  | cons x l ih =>
    rw [List.map_cons, List.nodup_cons] at hn
    obtain ⟨hx, hn⟩ := hn
    simp only [List.filter_cons] at he ⊢
    by_cases hxe : x = e
    · subst hxe
      have hnot : seen.contains x.born = false := by
        cases hc : seen.contains x.born with
        | false => rfl
        | true =>
          rw [hc] at he
          simp only [Bool.not_true, Bool.false_eq_true, if_false] at he
          exact absurd (List.mem_map.2 ⟨x, (List.mem_filter.1 he).1, rfl⟩) hx
      rw [hnot]
      have hp : (seen.push x.born).contains x.born = true := by simp
      rw [hp]
      simp only [Bool.not_false, if_true, Bool.not_true, Bool.false_eq_true, if_false]
      have : l.filter (fun e => !(seen.push x.born).contains e.born) = l.filter (fun e => !seen.contains e.born) := by
        refine List.filter_congr fun y hy => ?_
        have hne' : ¬ y.born = x.born := fun q => hx (by rw [← q]; exact List.mem_map.2 ⟨y, hy, rfl⟩)
        simp [hne']
      rw [this]
    · have hel : e ∈ l.filter (fun e => !seen.contains e.born) := by
        split at he
        · rcases List.mem_cons.1 he with h | h
          · exact absurd h.symm hxe
          · exact h
        · exact he
      have hne : ¬ x.born = e.born := fun q => hx (by rw [q]; exact List.mem_map.2 ⟨e, (List.mem_filter.1 hel).1, rfl⟩)
      have hc : (seen.push e.born).contains x.born = seen.contains x.born := by simp [hne]
      rw [hc]
      have := ih hn hel
      cases hs : seen.contains x.born with
      | true => simpa using this
      | false =>
        simp only [Bool.not_false, if_true]
        exact (this.cons x).trans (List.Perm.swap _ _ _)

theorem Got.step {es : Array MapEntry} {seen : Array Nat} {xs : List Value} {e : MapEntry} (h : Got es seen xs) (hn : (es.toList.map (·.born)).Nodup) (he : e ∈ (leftOf es seen).toList) : Got es (seen.push e.born) (xs ++ [e.val]) := by
  have := (left_push hn he).map (·.val)
  unfold Got at h ⊢
  refine List.Perm.trans ?_ h
  rw [List.append_assoc]
  exact (List.Perm.append_left xs (by simpa using this.symm))

theorem Got.more {es : Array MapEntry} {seen : Array Nat} {xs : List Value} {e : MapEntry} (h : Got es seen xs) (he : e ∈ (leftOf es seen).toList) : xs.length < es.size := by
  have h1 := h.length_eq
  have h2 := List.length_pos_of_mem he
  simp at h1 h2
  omega

section
variable {F : Fence} {n : Nat} {P : Program} (w : World) {ops : Array Oper} {rest : List Oper} {o : Oper} {a : Act} {Q : Exit → Act → World → Prop}

/-- 'range m'. -/
theorem wpListIn_range_rg (hg : o.guard = none) (m : Operand) (t : TypeId) (hop : o.op = Op.range t m) (k e : TypeId) (ht : P.underlying t = some (.map k e)) (b : Nat) (es : Array MapEntry) (clock : Nat)
    (hm : a.eval m = .map (some b)) (hb : w.heap[b]? = some (.map es clock)) (hs : MapKept.Stamped es clock)
    (hK : ∀ w', Rg w' b w.heap.size es clock #[] → w.grownBy w' none → w'.heap.size = w.heap.size + 1 → wpListIn F n P ops Q rest (a.put o.dst (.pointer (some ⟨w.heap.size, 0, none⟩))) w') :
    wpListIn F n P ops Q (o :: rest) a w := by
  refine wpListIn_plain hg fun K' hK' => ?_
  have hlt : b < w.heap.size := (Array.getElem?_eq_some_iff.1 hb).1
  have hrun := run_range_map (P := P) w t k e b es clock ht hb
  unfold Oper.wpIn
  refine ⟨?_, ?_⟩
  · simp [Oper.about, hop]
  · rw [Oper.semAt_plain F _ _ (by rw [hop]; intro c hc'; cases hc')]
    simp [execOp, hop, hm, hrun, Result.andThen]
    exact hK' _ _ (hK _ ⟨((MapKept.heap_alloc w _).2 b hlt).trans hb, (MapKept.heap_alloc w _).1, hs⟩ (World.grownBy_alloc w _ none) (by simp))

/-- The step. -/
theorem wpListIn_next_rg (hg : o.guard = none) (it : Operand) (hop : o.op = Op.next it false) (b r : Nat) (es : Array MapEntry) (clock : Nat) (seen : Array Nat)
    (hit : a.eval it = .pointer (some ⟨r, 0, none⟩)) (h : Rg w b r es clock seen)
    (hDone : (leftOf es seen).size = 0 → wpListIn F n P ops Q rest (a.put o.dst (.tuple #[.bool false])) w)
    (hMore : ∀ (key val : Value) (e : MapEntry) (w' : World), e ∈ (leftOf es seen).toList → e.key = key → e.val = val → Rg w' b r es clock (seen.push e.born) → w.grownBy w' (some r) → w'.heap.size = w.heap.size →
      (Instr.entry (.pointer (some ⟨r, 0, none⟩))).run P w' = .ok (.tuple #[key, val]) w' → wpListIn F n P ops Q rest (a.put o.dst (.tuple #[.bool true, key, val])) w') :
    wpListIn F n P ops Q (o :: rest) a w := by
  refine wpListIn_plain hg fun K' hK' => ?_
  unfold Oper.wpIn
  refine ⟨by simp [Oper.about, hop], ?_⟩
  rw [Oper.semAt_plain F _ _ (by rw [hop]; intro c hc'; cases hc')]
  have hst := (MapKept.stamped_iff es clock).1 h.s
  rcases run_next_at (P := P) w o.type r b clock clock seen es clock h.i h.m hst.1 (Nat.le_refl _) with ⟨h0, hrun⟩ | ⟨e, he, w1, hal, hrun⟩
  · simp [execOp, hop, hit, hrun, Result.andThen]
    exact hK' _ _ (hDone h0)
  · have hr1 : w1.heap[r]? = some (.mapIter (some b) clock seen clock) := by rcases hal with rfl | rfl <;> exact h.i
    have hb1 : w1.heap[b]? = some (.map es clock) := by rcases hal with rfl | rfl <;> exact h.m
    have hlt : r < w1.heap.size := (Array.getElem?_eq_some_iff.1 hr1).1
    have hs1 : (setBlock w1 r (.mapIter (some b) clock (seen.push e.born) clock)).heap[r]? = some (.mapIter (some b) clock (seen.push e.born) clock) := by simp [setBlock, hlt]
    have hs2 : ∀ k, k ≠ r → (setBlock w1 r (.mapIter (some b) clock (seen.push e.born) clock)).heap[k]? = w1.heap[k]? := fun k hk => by
      simp only [setBlock]
      rw [Array.getElem?_setIfInBounds_ne (Ne.symm hk)]
    have hb2 := (hs2 b (fun q => h.ne q.symm)).trans hb1
    simp [execOp, hop, hit, hrun, Result.andThen]
    refine hK' _ _ (hMore e.key e.val e _ he rfl rfl ⟨hb2, hs1, h.s⟩ ?_ ?_ (run_entry_at _ r b clock seen es clock e hs1 hb2 (mem_left he).1 hst.2.1))
    · rcases hal with rfl | rfl <;> exact ⟨rfl, rfl, rfl, by simp [setBlock], fun i _ hi => hs2 i (fun e1 => hi (by rw [e1]))⟩
    · rcases hal with rfl | rfl <;> simp [setBlock]

end

/-- how many are to come, read off the world -/
def rgLeft (w : World) (b r : Nat) : Nat :=
  match w.heap[b]?, w.heap[r]? with
  | some (.map es _), some (.mapIter _ _ seen _) => (leftOf es seen).size
  | _, _ => 0

theorem Rg.left {w : World} {b r : Nat} {es : Array MapEntry} {clock : Nat} {seen : Array Nat} (h : Rg w b r es clock seen) : rgLeft w b r = (leftOf es seen).size := by
  simp [rgLeft, h.m, h.i]

theorem Rg.walks {w w' : World} {b r : Nat} {es : Array MapEntry} {clock : Nat} {seen : Array Nat} (h : Rg w b r es clock seen) (hm : w'.heap[b]? = w.heap[b]?) (hi : w'.heap[r]? = w.heap[r]?) : Rg w' b r es clock seen :=
  ⟨hm.trans h.m, hi.trans h.i, h.s⟩

end Rf
