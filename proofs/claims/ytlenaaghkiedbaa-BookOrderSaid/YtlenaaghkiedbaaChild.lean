/- Book.child: a range over the blocks. -/
import Derived.RangeFuncNested
import Derived.Shelf.Abstract
import Derived.WalkKit
import Derived.OwnWalkIn
import Derived.TacticsInMore
import Derived.LoopNIn
import Derived.LoopIn
import Derived.Test.YtlenaaghkiedbaaIt1
import Derived.Test.YtlenaaghkiedbaaSortL
import Derived.Test.YtlenaaghkiedbaaProg
namespace Rf
open Go Go.RowKit Go.Shelf Go.Proofs
attribute [local go_sem] Oper.semAt_some

/-- a block, as it lies -/
structure BlV where
  w : ByteArray
  a : Int
  b : Int
  c : Bool
  d : Int
  q : Option Addr
  n : Nat
  k : Nat
  e : Int
  f : Int

abbrev BlV.l (x : BlV) : List Value := [.string x.w, .int .i64 x.a, .int .i64 x.b, .bool x.c, .int .i64 x.d, .slice x.q x.n x.k, .int .i64 x.e, .int .i64 x.f]
abbrev BlV.v (x : BlV) : Value := .agg #[.string x.w, .int .i64 x.a, .int .i64 x.b, .bool x.c, .int .i64 x.d, .slice x.q x.n x.k, .int .i64 x.e, .int .i64 x.f]

/-- is this entry a child of the order of this name? -/
def isChild (s : ByteArray) (m : Int) (key val : Value) : Prop := ∃ (t : ByteArray) (j : Int) (x : BlV), key = .agg #[.string t, .int .i64 j] ∧ val = x.v ∧ t = s ∧ x.e = m ∧ 0 < m

set_option maxRecDepth 100000 in
set_option maxHeartbeats 2000000 in
theorem child_walk (n B b b0 b2 b3 : Nat) (es : Array MapEntry) (clock : Nat) (s : ByteArray) (m : Int) (w : World)
    {ty : TypeId} (hB : w.heap[B]? = some (.cells #[.map (some b0), .map (some b), .map (some b2), .map (some b3)] ty (0, 0))) (hb : w.heap[b]? = some (.map es clock)) (hs : MapKept.Stamped es clock)
    (hel : ∀ e, e ∈ es.toList → ∃ (t : ByteArray) (j : Int) (x : BlV), e.key = .agg #[.string t, .int .i64 j] ∧ e.val = x.v) :
    CallsIn Fence.wide n Try.prog 63 #[.pointer (some ⟨B, 0, none⟩), .agg #[.string s, .int .i64 m]] w fun e w' => ∃ r : Bool, e = .returned (.bool r) ∧ (r = true ↔ ∃ x, x ∈ es.toList ∧ isChild s m x.key x.val) ∧ Below w.heap.size w w' := by
  refine callsIn_of_wp Try.func63 rfl trivial ?_ rfl
  simp only [Try.ntmps63, List.size_toArray, List.length_cons, List.length_nil, Nat.reduceAdd, Nat.reduceSub, Array.replicate_succ, Array.replicate_zero, List.push_toArray, List.append_toArray, List.nil_append, List.cons_append]
  have hBl : B < w.heap.size := (Array.getElem?_eq_some_iff.1 hB).1
  have hbl : b < w.heap.size := (Array.getElem?_eq_some_iff.1 hb).1
  have c0 : (w.alloc (.cells #[.string s, .int .i64 m] 103)).cell? ⟨B, 1, none⟩ = some (.map (some b)) := by
    have : (w.alloc (.cells #[.string s, .int .i64 m] 103)).heap[B]? = _ := (Below.heap_alloc w _ B hBl).trans hB
    simp only [World.cell?]
    rw [this]
    rfl
  have hb1 : (w.alloc (.cells #[.string s, .int .i64 m] 103)).heap[b]? = some (.map es clock) := (Below.heap_alloc w _ b hbl).trans hb
  have hn : (w.alloc (.cells #[.string s, .int .i64 m] 103)).heap[w.heap.size]? = some (.cells #[.string s, .int .i64 m] 103 (0, 0)) := World.alloc_heap_new w _
  have hB0 : Below w.heap.size w (w.alloc (.cells #[.string s, .int .i64 m] 103)) := (Below.refl _ w).alloc (Nat.le_refl _) _
  have hsz : (w.alloc (.cells #[.string s, .int .i64 m] 103)).heap.size = w.heap.size + 1 := by simp
  gi_wp2_with (first
    | (gi_at_range; refine wpListIn_range_rg _ rfl _ 95 rfl 103 27 Try.underlying95 b es clock rfl hb1 hs ?_; intro w0 hrg0 hg0 hs0)
    | gi_in)
  go_frame
  have hlt0 : w.heap.size < w0.heap.size := by omega
  have hn0 : w0.heap[w.heap.size]? = some (.cells #[.string s, .int .i64 m] 103 (0, 0)) := (hg0.block _ (by omega) (by simp)).trans hn
  have hB1 : Below w.heap.size w w0 := hB0.grown hg0 (by omega) (fun k e => by cases e)
  rw [hsz] at hrg0 ⊢
  gi_loopw [12] (fun _ wr => ∃ (seen : Array Nat), Rg wr b (w.heap.size + 1) es clock seen ∧ wr.heap[w.heap.size]? = some (.cells #[.string s, .int .i64 m] 103 (0, 0)) ∧ Below w.heap.size w wr ∧ ∀ x, x ∈ es.toList → seen.contains x.born = true → ¬ isChild s m x.key x.val)
    (fun _ wr => rgLeft wr b (w.heap.size + 1))
  case atStart =>
    exact ⟨#[], hrg0, hn0, hB1, fun x _ h => by simp at h⟩
  case round =>
    obtain ⟨seen, hrg, hnr, hBr, hno⟩ := hrel
    gi_wp2_with (first
      | (gi_at_next; refine wpListIn_next_rg _ rfl _ rfl b (w.heap.size + 1) es clock seen rfl hrg ?_ ?_)
      | gi_in)
    · intro hd0
      gi_wp2
      go_ret
      refine ⟨false, rfl, ?_, hBr⟩
      simp only [Bool.false_eq_true, false_iff, not_exists, not_and]
      exact fun x hx => hno x hx (all_seen es seen (by simp [hd0]) x hx)
    · intro key val e_1 w2 he hek hev hrg2 hg2 hs2 hen
      replace he : e_1 ∈ (leftOf es seen).toList := by simpa using he
      obtain ⟨t, j, x, hk1, hx⟩ := hel e_1 (mem_left he).1
      rw [hk1] at hek
      rw [hx] at hev
      subst hek hev
      have hnl : w.heap.size < wr.heap.size := (Array.getElem?_eq_some_iff.1 hnr).1
      have hn2 : w2.heap[w.heap.size]? = some (.cells #[.string s, .int .i64 m] 103 (0, 0)) := (hg2.block _ hnl (by simp)).trans hnr
      have hn2l : w.heap.size < w2.heap.size := (Array.getElem?_eq_some_iff.1 hn2).1
      have hn3 : ∀ o1 o2, ((w2.alloc o1).alloc o2).heap[w.heap.size]? = some (.cells #[.string s, .int .i64 m] 103 (0, 0)) := fun o1 o2 =>
        (Below.heap_alloc _ _ _ (by rw [World.size_alloc]; omega)).trans ((Below.heap_alloc _ _ _ hn2l).trans hn2)
      have q0 : ∀ o1 o2, ((w2.alloc o1).alloc o2).cell? ⟨w.heap.size, 0, none⟩ = some (.string s) := fun o1 o2 => by
        simp only [World.cell?]; rw [hn3]; rfl
      have q1 : ∀ o1 o2, ((w2.alloc o1).alloc o2).cell? ⟨w.heap.size, 1, none⟩ = some (.int .i64 m) := fun o1 o2 => by
        simp only [World.cell?]; rw [hn3]; rfl
      have hB2 : Below w.heap.size w w2 := hBr.grown hg2 (by omega) (fun k e => by cases e; omega)
      have hB3 : ∀ o1 o2, Below w.heap.size w ((w2.alloc o1).alloc o2) := fun o1 o2 => (hB2.alloc (by omega) _).alloc (by rw [World.size_alloc]; omega) _
      have hrg3 : ∀ o1 o2, Rg ((w2.alloc o1).alloc o2) b (w.heap.size + 1) es clock (seen.push e_1.born) := fun o1 o2 => by
        have l1 := (Array.getElem?_eq_some_iff.1 hrg2.m).1
        have l2 := (Array.getElem?_eq_some_iff.1 hrg2.i).1
        exact hrg2.walks ((Below.heap_alloc _ _ _ (by rw [World.size_alloc]; omega)).trans (Below.heap_alloc _ _ _ l1)) ((Below.heap_alloc _ _ _ (by rw [World.size_alloc]; omega)).trans (Below.heap_alloc _ _ _ l2))
      have hmeas : ∀ o1 o2, rgLeft ((w2.alloc o1).alloc o2) b (w.heap.size + 1) < rgLeft wr b (w.heap.size + 1) := fun o1 o2 => by
        rw [(hrg3 o1 o2).left, hrg.left]; exact left_shrinks es seen e_1 he
      have hnext : ¬ (t.toList = s.toList ∧ x.e = m ∧ 0 < m) → ∀ y, y ∈ es.toList → (seen.push e_1.born).contains y.born = true → ¬ isChild s m y.key y.val := fun hc y hy hcy => by
        by_cases hyb : y.born = e_1.born
        · obtain rfl := born_inj ((MapKept.stamped_iff es clock).1 hs).2.1 hy (mem_left he).1 hyb
          rintro ⟨t', j', x', q1, q2, q3, q4, q5⟩
          rw [hk1] at q1
          rw [hx] at q2
          simp only [Value.agg.injEq, Array.mk.injEq, List.cons.injEq, Value.string.injEq, Value.int.injEq, and_true, true_and] at q1 q2
          obtain ⟨rfl, _⟩ := q1
          have q6 : x.e = x'.e := by have := q2; simp_all
          exact hc ⟨by rw [q3], q6.trans q4, q5⟩
        · refine hno y hy ?_
          simpa [hyb] using hcy
      have hyes : t.toList = s.toList → x.e = m → 0 < m → ∃ y, y ∈ es.toList ∧ isChild s m y.key y.val := fun h1 h2 h3 => ⟨e_1, (mem_left he).1, t, j, x, hk1, hx, list_inj h1, h2, h3⟩
      clear hs2
      gi_wp2
      · go_ret
        refine ⟨true, rfl, ?_, hB3 _ _⟩
        simp only [true_iff]
        exact hyes (by assumption) (by assumption) (by assumption)
      all_goals
        refine ⟨⟨_, hrg3 _ _, hn3 _ _, hB3 _ _, hnext ?_⟩, hmeas _ _⟩
        rintro ⟨z1, z2, z3⟩
        first | contradiction | omega | (simp_all; done)

end Rf
