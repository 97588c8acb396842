import Derived.RangeFuncNested
import Derived.RangeFuncBound
import Derived.RangeFuncCalls
import Derived.RangeFuncLeaves
import Derived.Shelf.Abstract
import Derived.WalkKit
import Derived.OwnWalkIn
import Derived.TacticsInMore
import Derived.LoopNIn
import Derived.LoopIn
import Derived.Maps.AppendAt
import Derived.Test.YtlenaaghkiedbaaChild
import Derived.Test.YtlenaaghkiedbaaProg
import Derived.Test.YtlenaaghkiedbaaIt2

section
/- maps.Values over a map of blocks: the values come, each once, in some order. -/
namespace Rf
open Go Go.RowKit Go.Shelf Go.Proofs
attribute [local go_sem] Oper.semAt_some

set_option maxRecDepth 100000 in
set_option maxHeartbeats 2000000 in
theorem blocks1_in (F : Fence) (n : Nat) (h76 : F.fn 76) (hro : F.round = none) (hn : 1 ≤ n) (l Bm b : Nat) (es : Array MapEntry) (clock : Nat) (J Jx : List BlV → World → Prop)
    (hY : ∀ pre x W, J pre W → pre.length < es.size → YieldAt F (n - 1) Try.prog l #[x.v] W fun e W' =>
      (e = .returned (.bool true) ∧ J (pre ++ [x]) W' ∧ KeepsWalks W W') ∨ (e = .returned (.bool false) ∧ Jx (pre ++ [x]) W'))
    (W : World) (hJ : AbidesFrom W.heap.size J) (hm : W.cell? ⟨Bm, 0, none⟩ = some (.map (some b))) (hb : W.heap[b]? = some (.map es clock)) (hs : MapKept.Stamped es clock)
    (hel : ∀ e, e ∈ es.toList → ∃ x : BlV, e.val = x.v) (h0 : J [] W) :
    CallsIn F n Try.prog 76 #[.func (.yield l) #[] #[], .pointer (some ⟨Bm, 0, none⟩)] W fun e W' => (∃ v, e = .returned v) ∧
      ((∃ xs : List BlV, (xs.map BlV.v).Perm (es.toList.map (·.val)) ∧ J xs W') ∨ (∃ pre, True ∧ Jx pre W')) := by
  refine callsIn_of_wp Try.func76 rfl h76 ?_ hro
  simp only [Try.ntmps76, List.size_toArray, List.length_cons, List.length_nil, Nat.reduceAdd, Nat.reduceSub, Array.replicate_succ, Array.replicate_zero, List.push_toArray, List.append_toArray, List.nil_append, List.cons_append]
  gi_wp2_with (first
    | (gi_at_range; refine wpListIn_range_rg _ rfl _ 95 rfl 103 27 Try.underlying95 b es clock rfl hb hs ?_; intro w0 hrg0 hg0 hs0)
    | gi_in)
  go_frame
  gi_loopw [4] (fun _ wr => ∃ (seen : Array Nat) (xs : List BlV), Rg wr b W.heap.size es clock seen ∧ Got es seen (xs.map BlV.v) ∧ J xs wr)
    (fun _ wr => rgLeft wr b W.heap.size)
  case atStart =>
    exact ⟨#[], [], hrg0, Got.start es, hJ [] W w0 none h0 hg0 (fun r e => by cases e)⟩
  case round =>
    obtain ⟨seen, xs, hrg, hC, hJs⟩ := hrel
    gi_wp2_with (first
      | (gi_at_next; refine wpListIn_next_rg _ rfl _ rfl b W.heap.size es clock seen rfl hrg ?_ ?_)
      | gi_in)
    · intro hd0
      gi_wp2
      go_end0
      exact ⟨⟨_, rfl⟩, .inl ⟨xs, hC.stop (by simp [hd0]), hJs⟩⟩
    · intro key val e_1 w2 he hek hev hrg2 hg2 hs2 hen
      replace he : e_1 ∈ (leftOf es seen).toList := by simpa using he
      obtain ⟨x, hx⟩ := hel e_1 (mem_left he).1
      rw [hx] at hev
      subst hev
      have hlen := hC.more he
      rw [List.length_map] at hlen
      have hC2 := hC.step ((MapKept.stamped_iff es clock).1 hs).2.1 he
      rw [hx, show List.map BlV.v xs ++ [x.v] = List.map BlV.v (xs ++ [x]) by simp] at hC2
      have hsz : W.heap.size ≤ wr.heap.size := Nat.le_of_lt (Array.getElem?_eq_some_iff.1 hrg.i).1
      have hJ2 : J xs w2 := hJ xs wr w2 (some W.heap.size) hJs hg2 (fun r e => by cases e; exact ⟨Nat.le_refl _, _, hrg.i, rfl⟩)
      have hJ3 : J xs (w2.alloc (.cells #[.string x.w, .int .i64 x.a, .int .i64 x.b, .bool x.c, .int .i64 x.d, .slice x.q x.n x.k, .int .i64 x.e, .int .i64 x.f] 27)) := hJ xs w2 _ none hJ2 (World.grownBy_alloc w2 _ none) (fun r e => by cases e)
      obtain ⟨fn, tmps, assign, body, hy, hR⟩ := hY xs x _ hJ3 hlen
      clear hs2
      gi_wp2
      refine hR.mono ?_
      rintro e W3 (⟨rfl, hJ4, hk3⟩ | ⟨rfl, hJx3⟩)
      · have hrg3 : Rg W3 b W.heap.size es clock (seen.push e_1.born) :=
          ⟨hk3.same b _ ((Below.heap_alloc w2 _ b (Array.getElem?_eq_some_iff.1 hrg2.m).1).trans hrg2.m) rfl, hk3.same _ _ ((Below.heap_alloc w2 _ _ (Array.getElem?_eq_some_iff.1 hrg2.i).1).trans hrg2.i) rfl, hs⟩
        gi_wp2
        go_roundw
        case rel => exact ⟨_, xs ++ [x], hrg3, hC2, hJ4⟩
        case measure => rw [hrg3.left, hrg.left]; exact left_shrinks es seen e_1 he
      · gi_wp2
        refine bodyPost_ret (results_none rfl _ _ _) rfl ?_
        exact ⟨⟨_, rfl⟩, .inr ⟨xs ++ [x], trivial, hJx3⟩⟩

/-- The iterator's contract. -/
theorem blocks_stops (F : Fence) (n : Nat) (h76 : F.fn 76) (hro : F.round = none) (hn : 1 ≤ n) (Bm b : Nat) (es : Array MapEntry) (clock : Nat) (w : World) (hBm : Bm < w.heap.size)
    (hm : w.cell? ⟨Bm, 0, none⟩ = some (.map (some b))) (hb : w.heap[b]? = some (.map es clock)) (hs : MapKept.Stamped es clock) (hel : ∀ e, e ∈ es.toList → ∃ x : BlV, e.val = x.v) :
    SeqStopsK F n Try.prog 76 #[.pointer (some ⟨Bm, 0, none⟩)] (fun x : BlV => #[x.v]) KeepsWalks (fun xs => (xs.map BlV.v).Perm (es.toList.map (·.val))) (fun _ => True) es.size w := fun l J Jx W hW hJ _ hY h0 =>
  blocks1_in F n h76 hro hn l Bm b es clock J Jx hY W hJ ((hW.cell (p := ⟨Bm, 0, none⟩) hBm).trans hm) ((hW.block b (Array.getElem?_eq_some_iff.1 hb).1).trans hb) hs hel h0

end Rf
end

section
/- slices.AppendSeq(nil, maps.Values(m)) at blocks: a new row of all values, in some order. -/
namespace Rf
open Go Go.RowKit Go.Shelf Go.Proofs
attribute [local go_sem] Oper.semAt_some

theorem blocks_info : (Try.prog.info? 27).map (fun i => (i.zero, i.size, i.bytes)) = some (some (.agg #[.string ⟨#[]⟩, .int .i64 0, .int .i64 0, .bool false, .int .i64 0, .slice none 0 0, .int .i64 0, .int .i64 0]), 8, 88) := by kernel_rfl

set_option maxRecDepth 100000 in
set_option maxHeartbeats 2000000 in
theorem blocks_append (F : Fence) (n : Nat) (h88 : F.fn 88) (h76 : F.fn 76) (hro : F.round = none) (hn : 3 ≤ n) (Bm b : Nat) (es : Array MapEntry) (clock : Nat) (w : World) (hBm : Bm < w.heap.size)
    (hm : w.cell? ⟨Bm, 0, none⟩ = some (.map (some b))) (hb : w.heap[b]? = some (.map es clock)) (hs : MapKept.Stamped es clock) (hel : ∀ e, e ∈ es.toList → ∃ x : BlV, e.val = x.v)
    (hsz : es.size ≤ 1000000) :
    CallsIn F n Try.prog 88 #[.slice none 0 0, .func (.func 76) #[] #[.pointer (some ⟨Bm, 0, none⟩)]] w fun e W' => ∃ v xs, e = .returned v ∧ (xs.map BlV.v).Perm (es.toList.map (·.val)) ∧
      W'.ownsRow w.heap.size 27 8 v xs.length (xs.flatMap BlV.l) ∧ (v = .slice none 0 0 ↔ xs = []) ∧ Below w.heap.size w W' := by
  have h1 : 1 ≤ n := by omega
  refine callsIn_of_wp_marks Try.func88 rfl h88 ?_ hro
  simp only [Try.ntmps88, List.size_toArray, List.length_cons, List.length_nil, Nat.reduceAdd, Nat.reduceSub, Array.replicate_succ, Array.replicate_zero, List.push_toArray, List.append_toArray, List.nil_append, List.cons_append]
  gi_wp2
  have bB := Boxed.new w 22 (.slice none 0 0)
  have hB0 : Below w.heap.size w (w.alloc (.cells #[.slice none 0 0] 22)) := (Below.refl _ w).alloc (Nat.le_refl _) _
  have hst := blocks_stops F (n - 1) h76 hro (by omega) Bm b es clock (w.alloc (.cells #[.slice none 0 0] 22)) (by simp; omega) ((hB0.cell (p := ⟨Bm, 0, none⟩) hBm).trans hm) ((Below.heap_alloc w _ b (Array.getElem?_eq_some_iff.1 hb).1).trans hb) hs hel
  have hsz0 : (w.alloc (.cells #[.slice none 0 0] 22)).heap.size = w.heap.size + 1 := by simp
  obtain ⟨W0, hW0⟩ : ∃ W0, w.alloc (.cells #[.slice none 0 0] 22) = W0 := ⟨_, rfl⟩
  rw [hW0] at bB hB0 hst hsz0 ⊢
  clear hW0
  obtain ⟨i0, hi, hz0, hz1, hz2⟩ := info_parts blocks_info
  refine wpIn_rangeFunc_ownH hro h1 (gf := 76) (lb := #[.pointer (some ⟨Bm, 0, none⟩)]) rfl h76 (enters_of Try.func76 (by kernel_rfl) rfl)
    hst walksK_t walksK_b (Below.refl _ _) (fun _ => rfl)
    (fun pre W => (∃ v, Boxed W w.heap.size 22 v ∧ W.ownsRow w.heap.size 27 8 v pre.length (pre.flatMap BlV.l) ∧ (v = .slice none 0 0 ↔ pre = [])) ∧ Below w.heap.size w W)
    (fun _ _ _ => False)
    (OwnFrom.and (Own.from (holdsRow_own w.heap.size w.heap.size 22 27 8 (fun (pre : List BlV) => pre.length) (fun pre => pre.flatMap BlV.l) (fun pre v => (v = .slice none 0 0 ↔ pre = []))) _) (ownFrom_below (Nat.le_refl _) (by omega)))
    (fun _ _ _ _ _ hs _ _ => hs)
    ⟨⟨_, bB, World.ownsRow_nil _ _ _ _, by simp⟩, hB0⟩
    (fun x a' W => ∃ Bx, w.heap.size < Bx ∧ BlkAt W Bx 27 x.l.toArray ∧ a' = { tmps := #[.slice none 0 0, .func (.func 76) #[] #[.pointer (some ⟨Bm, 0, none⟩)], .pointer (some ⟨w.heap.size, 0, none⟩), undef, .slice none 0 0, .pointer (some ⟨Bx, 0, none⟩), .func (.func 76) #[] #[.pointer (some ⟨Bm, 0, none⟩)], x.v, undef, undef, undef, undef, undef], defers := [] })
    (fun x a' _ X Y row hs hg hr => by obtain ⟨Bx, h1, h2, h3⟩ := hs; exact ⟨Bx, h1, blkAt_own Bx 27 (fun (_ : Unit) => x.l.toArray) () X Y row h2 hg (fun r e => (hr r e).2), h3⟩)
    ?assign ?body ?done ?stop
  case assign =>
    rintro l pre x W K ⟨⟨v, hv, hrow, hnil⟩, hB1⟩ hK
    gi_wp2
    exact hK _ _ ((KeepsOthers.alloc _ _).from _) (KeepsWalks.alloc _ _) ⟨⟨v, hv.alloc _, hrow.alloc _, hnil⟩, hB1.alloc hB1.size _⟩ ⟨W.heap.size, hv.lt, World.alloc_heap_new W _, rfl⟩
  case body =>
    rintro l pre x a' W hl ⟨r, hr⟩ ⟨⟨v, hv, hrow, hnil⟩, hB1⟩ ⟨Bx, hBx, bX, rfl⟩ hlt
    have cv := hv.cell
    have c0 := bX.cell 0
    have c1 := bX.cell 1
    have c2 := bX.cell 2
    have c3 := bX.cell 3
    have c4 := bX.cell 4
    have c5 := bX.cell 5
    have c6 := bX.cell 6
    have c7 := bX.cell 7
    simp only [List.getElem?_toArray, BlV.l, List.getElem?_cons_zero, List.getElem?_cons_succ] at c0 c1 c2 c3 c4 c5 c6 c7
    have hle := hB1.size
    gi_wp2_with (first
      | (gi_at_builtin; refine wpListIn_append_own _ rfl _ _ 22 rfl w.heap.size 27 i0 _ 8 88 Try.underlying22 hi hz0 hz1 hz2 rfl (by decide) _ _ _ rfl (hrow.alloc _) ⟨W.heap.size, 0, none⟩ 1 1 x.l rfl rfl (cells_new _ _ _) (by simp [BlV.l, Value.oneCell']) (by have : maxLen = 9223372036854775807 := rfl; omega) (by omega) (by simp; omega) ?_; intro v' w1 hown' hgrow _; obtain ⟨g', cap', rfl⟩ := ownsRow_succ hown'; obtain ⟨hv1, hv2, hr2, hk2, hb2⟩ := hv.appended (by decide) hrow hle (Nat.le_refl _) hown' hgrow; have hc1 := hv1.cell; have hf1 := hv1.frozen)
      | gi_in)
    exact ⟨hk2.from _, hk2.walks, ⟨_, hv2, by simpa using hr2, by simp⟩, hB1.trans hb2⟩
  case done =>
    rintro D ys W hD hS ⟨⟨v, hv, hrow, hnil⟩, hB1⟩ hK
    have cv := hv.cell
    gi_wp2
    refine ⟨by simp, .inl ⟨_, _, rfl, run_takeDeferred hK, ?_⟩⟩
    exact ⟨_, results_tmp rfl _ _ _, v, ys, rfl, hS, ownsRow_putObj hrow _ hK rfl, hnil, hB1.trans (belowK_b (w := w) (Nat.le_refl _) W D _ _ (by omega) hK rfl rfl)⟩
  case stop =>
    rintro D c pre W _ _ h _
    exact h.elim

end Rf
end

section
/- slices.Collect(maps.Values(m)) at blocks. -/
namespace Rf
open Go Go.RowKit Go.Shelf Go.Proofs
attribute [local go_sem] Oper.semAt_some

set_option maxHeartbeats 1000000 in
theorem blocks_values (F : Fence) (n : Nat) (h55 : F.fn 55) (hro : F.round = none) (b : Nat) (w : World) :
    CallsIn F n Try.prog 55 #[.map (some b)] w fun e W' => e = .returned (.func (.func 76) #[] #[.pointer (some ⟨w.heap.size, 0, none⟩)]) ∧ W' = w.alloc (.cells #[.map (some b)] 95) := by
  refine callsIn_of_wp Try.func55 rfl h55 ?_ hro
  simp only [Try.ntmps55, List.size_toArray, List.length_cons, List.length_nil, Nat.reduceAdd, Nat.reduceSub, Array.replicate_succ, Array.replicate_zero, List.push_toArray, List.append_toArray, List.nil_append, List.cons_append]
  gi_wp2
  go_ret
  exact ⟨rfl, rfl⟩

set_option maxHeartbeats 1000000 in
theorem blocks_collect (F : Fence) (n : Nat) (h74 : F.fn 74) (h88 : F.fn 88) (h76 : F.fn 76) (hro : F.round = none) (hn : 4 ≤ n) (Bm b : Nat) (es : Array MapEntry) (clock : Nat) (w : World) (hBm : Bm < w.heap.size)
    (hm : w.cell? ⟨Bm, 0, none⟩ = some (.map (some b))) (hb : w.heap[b]? = some (.map es clock)) (hs : MapKept.Stamped es clock) (hel : ∀ e, e ∈ es.toList → ∃ x : BlV, e.val = x.v)
    (hsz : es.size ≤ 1000000) :
    CallsIn F n Try.prog 74 #[.func (.func 76) #[] #[.pointer (some ⟨Bm, 0, none⟩)]] w fun e W' => ∃ v xs, e = .returned v ∧ (xs.map BlV.v).Perm (es.toList.map (·.val)) ∧
      W'.ownsRow w.heap.size 27 8 v xs.length (xs.flatMap BlV.l) ∧ (v = .slice none 0 0 ↔ xs = []) ∧ Below w.heap.size w W' := by
  refine callsIn_of_wp Try.func74 rfl h74 ?_ hro
  simp only [Try.ntmps74, List.size_toArray, List.length_cons, List.length_nil, Nat.reduceAdd, Nat.reduceSub, Array.replicate_succ, Array.replicate_zero, List.push_toArray, List.append_toArray, List.nil_append, List.cons_append]
  have h1 : 1 ≤ n := by omega
  gi_wp2_with (gi_at_call 88; refine (blocks_append F (n - 1) h88 h76 hro (by omega) Bm b es clock _ hBm hm hb hs hel hsz).mono ?_; rintro e w' ⟨v, xs, rfl, hp, hr, hn', hB⟩)
  go_ret
  exact ⟨v, xs, rfl, hp, hr, hn', hB⟩

end Rf
end
