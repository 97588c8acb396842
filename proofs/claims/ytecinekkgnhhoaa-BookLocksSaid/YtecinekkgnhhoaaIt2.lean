/- maps.Values over a map of steps: the values come, each once, in some order. -/
import Derived.RangeFuncNested
import Derived.RangeFuncBound
import Derived.RangeFuncCalls
import Derived.RangeFuncLeaves
import Derived.Shelf.Abstract
import Derived.WalkKit
import Derived.OwnWalkIn
import Derived.TacticsInMore
import Derived.LoopNIn
import Derived.LoopIn
import Derived.Maps.AppendAt
import Derived.Test.YtecinekkgnhhoaaIt1
import Derived.Test.YtecinekkgnhhoaaProg
namespace Rf
open Go Go.RowKit Go.Shelf Go.Proofs
attribute [local go_sem] Oper.semAt_some

/-- a step, as it lies -/
structure StV where
  s : ByteArray
  a : Int
  b : Int
  c : Int
  d : Bool
  e : Int
  f : Int

abbrev StV.l (x : StV) : List Value := [.string x.s, .int .i64 x.a, .int .i64 x.b, .int .i64 x.c, .bool x.d, .int .i64 x.e, .int .i64 x.f]
abbrev StV.v (x : StV) : Value := .agg #[.string x.s, .int .i64 x.a, .int .i64 x.b, .int .i64 x.c, .bool x.d, .int .i64 x.e, .int .i64 x.f]

set_option maxRecDepth 100000 in
set_option maxHeartbeats 2000000 in
theorem steps1_in (F : Fence) (n : Nat) (h66 : F.fn 66) (hro : F.round = none) (hn : 1 ≤ n) (l Bm b : Nat) (es : Array MapEntry) (clock : Nat) (J Jx : List StV → World → Prop)
    (hY : ∀ pre x W, J pre W → pre.length < es.size → YieldAt F (n - 1) Try.prog l #[x.v] W fun e W' =>
      (e = .returned (.bool true) ∧ J (pre ++ [x]) W' ∧ KeepsWalks W W') ∨ (e = .returned (.bool false) ∧ Jx (pre ++ [x]) W'))
    (W : World) (hJ : AbidesFrom W.heap.size J) (hm : W.cell? ⟨Bm, 0, none⟩ = some (.map (some b))) (hb : W.heap[b]? = some (.map es clock)) (hs : MapKept.Stamped es clock)
    (hel : ∀ e, e ∈ es.toList → ∃ x : StV, e.val = x.v) (h0 : J [] W) :
    CallsIn F n Try.prog 66 #[.func (.yield l) #[] #[], .pointer (some ⟨Bm, 0, none⟩)] W fun e W' => (∃ v, e = .returned v) ∧
      ((∃ xs : List StV, (xs.map StV.v).Perm (es.toList.map (·.val)) ∧ J xs W') ∨ (∃ pre, True ∧ Jx pre W')) := by
  refine callsIn_of_wp Try.func66 rfl h66 ?_ hro
  simp only [Try.ntmps66, List.size_toArray, List.length_cons, List.length_nil, Nat.reduceAdd, Nat.reduceSub, Array.replicate_succ, Array.replicate_zero, List.push_toArray, List.append_toArray, List.nil_append, List.cons_append]
  gi_wp2_with (first
    | (gi_at_range; refine wpListIn_range_rg _ rfl _ 94 rfl 103 51 Try.underlying94 b es clock rfl hb hs ?_; intro w0 hrg0 hg0 hs0)
    | gi_in)
  go_frame
  gi_loopw [4] (fun _ wr => ∃ (seen : Array Nat) (xs : List StV), Rg wr b W.heap.size es clock seen ∧ Got es seen (xs.map StV.v) ∧ J xs wr)
    (fun _ wr => rgLeft wr b W.heap.size)
  case atStart =>
    exact ⟨#[], [], hrg0, Got.start es, hJ [] W w0 none h0 hg0 (fun r e => by cases e)⟩
  case round =>
    obtain ⟨seen, xs, hrg, hC, hJs⟩ := hrel
    gi_wp2_with (first
      | (gi_at_next; refine wpListIn_next_rg _ rfl _ rfl b W.heap.size es clock seen rfl hrg ?_ ?_)
      | gi_in)
    · intro hd0
      gi_wp2
      go_end0
      exact ⟨⟨_, rfl⟩, .inl ⟨xs, hC.stop (by simp [hd0]), hJs⟩⟩
    · intro key val e_1 w2 he hek hev hrg2 hg2 hs2 hen
      replace he : e_1 ∈ (leftOf es seen).toList := by simpa using he
      obtain ⟨x, hx⟩ := hel e_1 (mem_left he).1
      rw [hx] at hev
      subst hev
      have hlen := hC.more he
      rw [List.length_map] at hlen
      have hC2 := hC.step ((MapKept.stamped_iff es clock).1 hs).2.1 he
      rw [hx, show List.map StV.v xs ++ [x.v] = List.map StV.v (xs ++ [x]) by simp] at hC2
      have hsz : W.heap.size ≤ wr.heap.size := Nat.le_of_lt (Array.getElem?_eq_some_iff.1 hrg.i).1
      have hJ2 : J xs w2 := hJ xs wr w2 (some W.heap.size) hJs hg2 (fun r e => by cases e; exact ⟨Nat.le_refl _, _, hrg.i, rfl⟩)
      have hJ3 : J xs (w2.alloc (.cells #[.string x.s, .int .i64 x.a, .int .i64 x.b, .int .i64 x.c, .bool x.d, .int .i64 x.e, .int .i64 x.f] 51)) := hJ xs w2 _ none hJ2 (World.grownBy_alloc w2 _ none) (fun r e => by cases e)
      obtain ⟨fn, tmps, assign, body, hy, hR⟩ := hY xs x _ hJ3 hlen
      clear hs2
      gi_wp2
      refine hR.mono ?_
      rintro e W3 (⟨rfl, hJ4, hk3⟩ | ⟨rfl, hJx3⟩)
      · have hrg3 : Rg W3 b W.heap.size es clock (seen.push e_1.born) :=
          ⟨hk3.same b _ ((Below.heap_alloc w2 _ b (Array.getElem?_eq_some_iff.1 hrg2.m).1).trans hrg2.m) rfl, hk3.same _ _ ((Below.heap_alloc w2 _ _ (Array.getElem?_eq_some_iff.1 hrg2.i).1).trans hrg2.i) rfl, hs⟩
        gi_wp2
        go_roundw
        case rel => exact ⟨_, xs ++ [x], hrg3, hC2, hJ4⟩
        case measure => rw [hrg3.left, hrg.left]; exact left_shrinks es seen e_1 he
      · gi_wp2
        refine bodyPost_ret (results_none rfl _ _ _) rfl ?_
        exact ⟨⟨_, rfl⟩, .inr ⟨xs ++ [x], trivial, hJx3⟩⟩

/-- The iterator's contract. -/
theorem steps_stops (F : Fence) (n : Nat) (h66 : F.fn 66) (hro : F.round = none) (hn : 1 ≤ n) (Bm b : Nat) (es : Array MapEntry) (clock : Nat) (w : World) (hBm : Bm < w.heap.size)
    (hm : w.cell? ⟨Bm, 0, none⟩ = some (.map (some b))) (hb : w.heap[b]? = some (.map es clock)) (hs : MapKept.Stamped es clock) (hel : ∀ e, e ∈ es.toList → ∃ x : StV, e.val = x.v) :
    SeqStopsK F n Try.prog 66 #[.pointer (some ⟨Bm, 0, none⟩)] (fun x : StV => #[x.v]) KeepsWalks (fun xs => (xs.map StV.v).Perm (es.toList.map (·.val))) (fun _ => True) es.size w := fun l J Jx W hW hJ _ hY h0 =>
  steps1_in F n h66 hro hn l Bm b es clock J Jx hY W hJ ((hW.cell (p := ⟨Bm, 0, none⟩) hBm).trans hm) ((hW.block b (Array.getElem?_eq_some_iff.1 hb).1).trans hb) hs hel h0

end Rf
