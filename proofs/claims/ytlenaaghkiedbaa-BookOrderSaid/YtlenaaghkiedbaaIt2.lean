import Derived.RangeFuncNested
import Derived.RangeFuncBound
import Derived.RangeFuncCalls
import Derived.RangeFuncLeaves
import Derived.Shelf.Abstract
import Derived.WalkKit
import Derived.OwnWalkIn
import Derived.TacticsInMore
import Derived.LoopNIn
import Derived.LoopIn
import Derived.Maps.AppendAt
import Derived.Test.YtlenaaghkiedbaaIt1
import Derived.Test.YtlenaaghkiedbaaProg

section
/- maps.Values over a map of steps: the values come, each once, in some order. -/
namespace Rf
open Go Go.RowKit Go.Shelf Go.Proofs
attribute [local go_sem] Oper.semAt_some

/-- a step, as it lies -/
structure StV where
  s : ByteArray
  a : Int
  b : Int
  c : Int
  d : Bool
  e : Int
  f : Int

abbrev StV.l (x : StV) : List Value := [.string x.s, .int .i64 x.a, .int .i64 x.b, .int .i64 x.c, .bool x.d, .int .i64 x.e, .int .i64 x.f]
abbrev StV.v (x : StV) : Value := .agg #[.string x.s, .int .i64 x.a, .int .i64 x.b, .int .i64 x.c, .bool x.d, .int .i64 x.e, .int .i64 x.f]

set_option maxRecDepth 100000 in
set_option maxHeartbeats 2000000 in
theorem steps1_in (F : Fence) (n : Nat) (h66 : F.fn 66) (hro : F.round = none) (hn : 1 ≤ n) (l Bm b : Nat) (es : Array MapEntry) (clock : Nat) (J Jx : List StV → World → Prop)
    (hY : ∀ pre x W, J pre W → pre.length < es.size → YieldAt F (n - 1) Try.prog l #[x.v] W fun e W' =>
      (e = .returned (.bool true) ∧ J (pre ++ [x]) W' ∧ KeepsWalks W W') ∨ (e = .returned (.bool false) ∧ Jx (pre ++ [x]) W'))
    (W : World) (hJ : AbidesFrom W.heap.size J) (hm : W.cell? ⟨Bm, 0, none⟩ = some (.map (some b))) (hb : W.heap[b]? = some (.map es clock)) (hs : MapKept.Stamped es clock)
    (hel : ∀ e, e ∈ es.toList → ∃ x : StV, e.val = x.v) (h0 : J [] W) :
    CallsIn F n Try.prog 66 #[.func (.yield l) #[] #[], .pointer (some ⟨Bm, 0, none⟩)] W fun e W' => (∃ v, e = .returned v) ∧
      ((∃ xs : List StV, (xs.map StV.v).Perm (es.toList.map (·.val)) ∧ J xs W') ∨ (∃ pre, True ∧ Jx pre W')) := by
  refine callsIn_of_wp Try.func66 rfl h66 ?_ hro
  simp only [Try.ntmps66, List.size_toArray, List.length_cons, List.length_nil, Nat.reduceAdd, Nat.reduceSub, Array.replicate_succ, Array.replicate_zero, List.push_toArray, List.append_toArray, List.nil_append, List.cons_append]
  gi_wp2_with (first
    | (gi_at_range; refine wpListIn_range_rg _ rfl _ 94 rfl 103 51 Try.underlying94 b es clock rfl hb hs ?_; intro w0 hrg0 hg0 hs0)
    | gi_in)
  go_frame
  gi_loopw [4] (fun _ wr => ∃ (seen : Array Nat) (xs : List StV), Rg wr b W.heap.size es clock seen ∧ Got es seen (xs.map StV.v) ∧ J xs wr)
    (fun _ wr => rgLeft wr b W.heap.size)
  case atStart =>
    exact ⟨#[], [], hrg0, Got.start es, hJ [] W w0 none h0 hg0 (fun r e => by cases e)⟩
  case round =>
    obtain ⟨seen, xs, hrg, hC, hJs⟩ := hrel
    gi_wp2_with (first
      | (gi_at_next; refine wpListIn_next_rg _ rfl _ rfl b W.heap.size es clock seen rfl hrg ?_ ?_)
      | gi_in)
    · intro hd0
      gi_wp2
      go_end0
      exact ⟨⟨_, rfl⟩, .inl ⟨xs, hC.stop (by simp [hd0]), hJs⟩⟩
    · intro key val e_1 w2 he hek hev hrg2 hg2 hs2 hen
      replace he : e_1 ∈ (leftOf es seen).toList := by simpa using he
      obtain ⟨x, hx⟩ := hel e_1 (mem_left he).1
      rw [hx] at hev
      subst hev
      have hlen := hC.more he
      rw [List.length_map] at hlen
      have hC2 := hC.step ((MapKept.stamped_iff es clock).1 hs).2.1 he
      rw [hx, show List.map StV.v xs ++ [x.v] = List.map StV.v (xs ++ [x]) by simp] at hC2
      have hsz : W.heap.size ≤ wr.heap.size := Nat.le_of_lt (Array.getElem?_eq_some_iff.1 hrg.i).1
      have hJ2 : J xs w2 := hJ xs wr w2 (some W.heap.size) hJs hg2 (fun r e => by cases e; exact ⟨Nat.le_refl _, _, hrg.i, rfl⟩)
      have hJ3 : J xs (w2.alloc (.cells #[.string x.s, .int .i64 x.a, .int .i64 x.b, .int .i64 x.c, .bool x.d, .int .i64 x.e, .int .i64 x.f] 51)) := hJ xs w2 _ none hJ2 (World.grownBy_alloc w2 _ none) (fun r e => by cases e)
      obtain ⟨fn, tmps, assign, body, hy, hR⟩ := hY xs x _ hJ3 hlen
      clear hs2
      gi_wp2
      refine hR.mono ?_
      rintro e W3 (⟨rfl, hJ4, hk3⟩ | ⟨rfl, hJx3⟩)
      · have hrg3 : Rg W3 b W.heap.size es clock (seen.push e_1.born) :=
          ⟨hk3.same b _ ((Below.heap_alloc w2 _ b (Array.getElem?_eq_some_iff.1 hrg2.m).1).trans hrg2.m) rfl, hk3.same _ _ ((Below.heap_alloc w2 _ _ (Array.getElem?_eq_some_iff.1 hrg2.i).1).trans hrg2.i) rfl, hs⟩
        gi_wp2
        go_roundw
        case rel => exact ⟨_, xs ++ [x], hrg3, hC2, hJ4⟩
        case measure => rw [hrg3.left, hrg.left]; exact left_shrinks es seen e_1 he
      · gi_wp2
        refine bodyPost_ret (results_none rfl _ _ _) rfl ?_
        exact ⟨⟨_, rfl⟩, .inr ⟨xs ++ [x], trivial, hJx3⟩⟩

/-- The iterator's contract. -/
theorem steps_stops (F : Fence) (n : Nat) (h66 : F.fn 66) (hro : F.round = none) (hn : 1 ≤ n) (Bm b : Nat) (es : Array MapEntry) (clock : Nat) (w : World) (hBm : Bm < w.heap.size)
    (hm : w.cell? ⟨Bm, 0, none⟩ = some (.map (some b))) (hb : w.heap[b]? = some (.map es clock)) (hs : MapKept.Stamped es clock) (hel : ∀ e, e ∈ es.toList → ∃ x : StV, e.val = x.v) :
    SeqStopsK F n Try.prog 66 #[.pointer (some ⟨Bm, 0, none⟩)] (fun x : StV => #[x.v]) KeepsWalks (fun xs => (xs.map StV.v).Perm (es.toList.map (·.val))) (fun _ => True) es.size w := fun l J Jx W hW hJ _ hY h0 =>
  steps1_in F n h66 hro hn l Bm b es clock J Jx hY W hJ ((hW.cell (p := ⟨Bm, 0, none⟩) hBm).trans hm) ((hW.block b (Array.getElem?_eq_some_iff.1 hb).1).trans hb) hs hel h0

end Rf
end

section
/- slices.AppendSeq(nil, maps.Values(m)) at steps: a new row of all values, in some order. -/
namespace Rf
open Go Go.RowKit Go.Shelf Go.Proofs
attribute [local go_sem] Oper.semAt_some

/-- a block of cells -/
def BlkAt (W : World) (B : Nat) (t : TypeId) (vs : Array Value) : Prop := W.heap[B]? = some (.cells vs t (0, 0))

theorem BlkAt.lt {W : World} {B : Nat} {t : TypeId} {vs : Array Value} (h : BlkAt W B t vs) : B < W.heap.size := (Array.getElem?_eq_some_iff.1 h).1
theorem BlkAt.cell {W : World} {B : Nat} {t : TypeId} {vs : Array Value} (h : BlkAt W B t vs) (i : Nat) : W.cell? ⟨B, i, none⟩ = vs[i]? := by simp [World.cell?, show W.heap[B]? = _ from h]
theorem blkAt_own {β : Type} (B : Nat) (t : TypeId) (f : β → Array Value) : Own (fun s W => BlkAt W B t (f s)) := fun s X Y row hs hg hrow =>
  (hg.block B hs.lt (fun e' => by obtain ⟨o, ho, hc⟩ := hrow B e'.symm; rw [show X.heap[B]? = _ from hs] at ho; cases ho; cases hc)).trans hs

theorem steps_info : (Try.prog.info? 51).map (fun i => (i.zero, i.size, i.bytes)) = some (some (.agg #[.string ⟨#[]⟩, .int .i64 0, .int .i64 0, .int .i64 0, .bool false, .int .i64 0, .int .i64 0]), 7, 64) := by kernel_rfl

theorem cells_new (w : World) (l : List Value) (t : TypeId) : ∀ j u, l[j]? = some u → (w.alloc (.cells l.toArray t)).cell? ((⟨w.heap.size, 0, none⟩ : Addr).add j) = some u := by
  intro j u hj
  have h : (w.alloc (.cells l.toArray t)).heap[w.heap.size]? = some (.cells l.toArray t (0, 0)) := World.alloc_heap_new w _
  have ha : (⟨w.heap.size, 0, none⟩ : Addr).add j = ⟨w.heap.size, j, none⟩ := by unfold Addr.add; split <;> simp_all
  rw [ha]
  simp only [World.cell?]
  rw [h]
  simpa using hj

set_option maxRecDepth 100000 in
set_option maxHeartbeats 2000000 in
theorem steps_append (F : Fence) (n : Nat) (h81 : F.fn 81) (h66 : F.fn 66) (hro : F.round = none) (hn : 3 ≤ n) (Bm b : Nat) (es : Array MapEntry) (clock : Nat) (w : World) (hBm : Bm < w.heap.size)
    (hm : w.cell? ⟨Bm, 0, none⟩ = some (.map (some b))) (hb : w.heap[b]? = some (.map es clock)) (hs : MapKept.Stamped es clock) (hel : ∀ e, e ∈ es.toList → ∃ x : StV, e.val = x.v)
    (hsz : es.size ≤ 1000000) :
    CallsIn F n Try.prog 81 #[.slice none 0 0, .func (.func 66) #[] #[.pointer (some ⟨Bm, 0, none⟩)]] w fun e W' => ∃ v xs, e = .returned v ∧ (xs.map StV.v).Perm (es.toList.map (·.val)) ∧
      W'.ownsRow w.heap.size 51 7 v xs.length (xs.flatMap StV.l) ∧ (v = .slice none 0 0 ↔ xs = []) ∧ Below w.heap.size w W' := by
  have h1 : 1 ≤ n := by omega
  refine callsIn_of_wp_marks Try.func81 rfl h81 ?_ hro
  simp only [Try.ntmps81, List.size_toArray, List.length_cons, List.length_nil, Nat.reduceAdd, Nat.reduceSub, Array.replicate_succ, Array.replicate_zero, List.push_toArray, List.append_toArray, List.nil_append, List.cons_append]
  gi_wp2
  have bB := Boxed.new w 32 (.slice none 0 0)
  have hB0 : Below w.heap.size w (w.alloc (.cells #[.slice none 0 0] 32)) := (Below.refl _ w).alloc (Nat.le_refl _) _
  have hst := steps_stops F (n - 1) h66 hro (by omega) Bm b es clock (w.alloc (.cells #[.slice none 0 0] 32)) (by simp; omega) ((hB0.cell (p := ⟨Bm, 0, none⟩) hBm).trans hm) ((Below.heap_alloc w _ b (Array.getElem?_eq_some_iff.1 hb).1).trans hb) hs hel
  have hsz0 : (w.alloc (.cells #[.slice none 0 0] 32)).heap.size = w.heap.size + 1 := by simp
  obtain ⟨W0, hW0⟩ : ∃ W0, w.alloc (.cells #[.slice none 0 0] 32) = W0 := ⟨_, rfl⟩
  rw [hW0] at bB hB0 hst hsz0 ⊢
  clear hW0
  obtain ⟨i0, hi, hz0, hz1, hz2⟩ := info_parts steps_info
  refine wpIn_rangeFunc_ownH hro h1 (gf := 66) (lb := #[.pointer (some ⟨Bm, 0, none⟩)]) rfl h66 (enters_of Try.func66 (by kernel_rfl) rfl)
    hst walksK_t walksK_b (Below.refl _ _) (fun _ => rfl)
    (fun pre W => (∃ v, Boxed W w.heap.size 32 v ∧ W.ownsRow w.heap.size 51 7 v pre.length (pre.flatMap StV.l) ∧ (v = .slice none 0 0 ↔ pre = [])) ∧ Below w.heap.size w W)
    (fun _ _ _ => False)
    (OwnFrom.and (Own.from (holdsRow_own w.heap.size w.heap.size 32 51 7 (fun (pre : List StV) => pre.length) (fun pre => pre.flatMap StV.l) (fun pre v => (v = .slice none 0 0 ↔ pre = []))) _) (ownFrom_below (Nat.le_refl _) (by omega)))
    (fun _ _ _ _ _ hs _ _ => hs)
    ⟨⟨_, bB, World.ownsRow_nil _ _ _ _, by simp⟩, hB0⟩
    (fun x a' W => ∃ Bx, w.heap.size < Bx ∧ BlkAt W Bx 51 x.l.toArray ∧ a' = { tmps := #[.slice none 0 0, .func (.func 66) #[] #[.pointer (some ⟨Bm, 0, none⟩)], .pointer (some ⟨w.heap.size, 0, none⟩), undef, .slice none 0 0, .pointer (some ⟨Bx, 0, none⟩), .func (.func 66) #[] #[.pointer (some ⟨Bm, 0, none⟩)], x.v, undef, undef, undef, undef, undef], defers := [] })
    (fun x a' _ X Y row hs hg hr => by obtain ⟨Bx, h1, h2, h3⟩ := hs; exact ⟨Bx, h1, blkAt_own Bx 51 (fun (_ : Unit) => x.l.toArray) () X Y row h2 hg (fun r e => (hr r e).2), h3⟩)
    ?assign ?body ?done ?stop
  case assign =>
    rintro l pre x W K ⟨⟨v, hv, hrow, hnil⟩, hB1⟩ hK
    gi_wp2
    exact hK _ _ ((KeepsOthers.alloc _ _).from _) (KeepsWalks.alloc _ _) ⟨⟨v, hv.alloc _, hrow.alloc _, hnil⟩, hB1.alloc hB1.size _⟩ ⟨W.heap.size, hv.lt, World.alloc_heap_new W _, rfl⟩
  case body =>
    rintro l pre x a' W hl ⟨r, hr⟩ ⟨⟨v, hv, hrow, hnil⟩, hB1⟩ ⟨Bx, hBx, bX, rfl⟩ hlt
    have cv := hv.cell
    have c0 := bX.cell 0
    have c1 := bX.cell 1
    have c2 := bX.cell 2
    have c3 := bX.cell 3
    have c4 := bX.cell 4
    have c5 := bX.cell 5
    have c6 := bX.cell 6
    simp only [List.getElem?_toArray, StV.l, List.getElem?_cons_zero, List.getElem?_cons_succ] at c0 c1 c2 c3 c4 c5 c6
    have hle := hB1.size
    gi_wp2_with (first
      | (gi_at_builtin; refine wpListIn_append_own _ rfl _ _ 32 rfl w.heap.size 51 i0 _ 7 64 Try.underlying32 hi hz0 hz1 hz2 rfl (by decide) _ _ _ rfl (hrow.alloc _) ⟨W.heap.size, 0, none⟩ 1 1 x.l rfl rfl (cells_new _ _ _) (by simp [StV.l, Value.oneCell']) (by have : maxLen = 9223372036854775807 := rfl; omega) (by omega) (by simp; omega) ?_; intro v' w1 hown' hgrow _; obtain ⟨g', cap', rfl⟩ := ownsRow_succ hown'; obtain ⟨hv1, hv2, hr2, hk2, hb2⟩ := hv.appended (by decide) hrow hle (Nat.le_refl _) hown' hgrow; have hc1 := hv1.cell; have hf1 := hv1.frozen)
      | gi_in)
    exact ⟨hk2.from _, hk2.walks, ⟨_, hv2, by simpa using hr2, by simp⟩, hB1.trans hb2⟩
  case done =>
    rintro D ys W hD hS ⟨⟨v, hv, hrow, hnil⟩, hB1⟩ hK
    have cv := hv.cell
    gi_wp2
    refine ⟨by simp, .inl ⟨_, _, rfl, run_takeDeferred hK, ?_⟩⟩
    exact ⟨_, results_tmp rfl _ _ _, v, ys, rfl, hS, ownsRow_putObj hrow _ hK rfl, hnil, hB1.trans (belowK_b (w := w) (Nat.le_refl _) W D _ _ (by omega) hK rfl rfl)⟩
  case stop =>
    rintro D c pre W _ _ h _
    exact h.elim

end Rf
end

section
/- slices.Collect(maps.Values(m)) at steps. -/
namespace Rf
open Go Go.RowKit Go.Shelf Go.Proofs
attribute [local go_sem] Oper.semAt_some

set_option maxHeartbeats 1000000 in
theorem steps_values (F : Fence) (n : Nat) (h47 : F.fn 47) (hro : F.round = none) (b : Nat) (w : World) :
    CallsIn F n Try.prog 47 #[.map (some b)] w fun e W' => e = .returned (.func (.func 66) #[] #[.pointer (some ⟨w.heap.size, 0, none⟩)]) ∧ W' = w.alloc (.cells #[.map (some b)] 94) := by
  refine callsIn_of_wp Try.func47 rfl h47 ?_ hro
  simp only [Try.ntmps47, List.size_toArray, List.length_cons, List.length_nil, Nat.reduceAdd, Nat.reduceSub, Array.replicate_succ, Array.replicate_zero, List.push_toArray, List.append_toArray, List.nil_append, List.cons_append]
  gi_wp2
  go_ret
  exact ⟨rfl, rfl⟩

set_option maxHeartbeats 1000000 in
theorem steps_collect (F : Fence) (n : Nat) (h64 : F.fn 64) (h81 : F.fn 81) (h66 : F.fn 66) (hro : F.round = none) (hn : 4 ≤ n) (Bm b : Nat) (es : Array MapEntry) (clock : Nat) (w : World) (hBm : Bm < w.heap.size)
    (hm : w.cell? ⟨Bm, 0, none⟩ = some (.map (some b))) (hb : w.heap[b]? = some (.map es clock)) (hs : MapKept.Stamped es clock) (hel : ∀ e, e ∈ es.toList → ∃ x : StV, e.val = x.v)
    (hsz : es.size ≤ 1000000) :
    CallsIn F n Try.prog 64 #[.func (.func 66) #[] #[.pointer (some ⟨Bm, 0, none⟩)]] w fun e W' => ∃ v xs, e = .returned v ∧ (xs.map StV.v).Perm (es.toList.map (·.val)) ∧
      W'.ownsRow w.heap.size 51 7 v xs.length (xs.flatMap StV.l) ∧ (v = .slice none 0 0 ↔ xs = []) ∧ Below w.heap.size w W' := by
  refine callsIn_of_wp Try.func64 rfl h64 ?_ hro
  simp only [Try.ntmps64, List.size_toArray, List.length_cons, List.length_nil, Nat.reduceAdd, Nat.reduceSub, Array.replicate_succ, Array.replicate_zero, List.push_toArray, List.append_toArray, List.nil_append, List.cons_append]
  have h1 : 1 ≤ n := by omega
  gi_wp2_with (gi_at_call 81; refine (steps_append F (n - 1) h81 h66 hro (by omega) Bm b es clock _ hBm hm hb hs hel hsz).mono ?_; rintro e w' ⟨v, xs, rfl, hp, hr, hn', hB⟩)
  go_ret
  exact ⟨v, xs, rfl, hp, hr, hn', hB⟩

end Rf
end

section
/- slices.Collect(maps.Keys(m)) at names: a new row of all keys, in some order. -/
namespace Rf
open Go Go.RowKit Go.Shelf Go.Proofs
attribute [local go_sem] Oper.semAt_some

/-- what has come of the keys, and what is to come -/
def GotK (es : Array MapEntry) (seen : Array Nat) (xs : List Value) : Prop := (xs ++ (leftOf es seen).toList.map (·.key)).Perm (es.toList.map (·.key))

theorem GotK.start (es : Array MapEntry) : GotK es #[] [] := by
  have : (leftOf es #[]).toList = es.toList := by
    unfold leftOf
    rw [Array.toList_filter]
    exact List.filter_eq_self.2 fun _ _ => by simp
  rw [GotK, this]
  exact List.Perm.refl _

theorem GotK.stop {es : Array MapEntry} {seen : Array Nat} {xs : List Value} (h : GotK es seen xs) (h0 : (leftOf es seen).size = 0) : xs.Perm (es.toList.map (·.key)) := by
  have : leftOf es seen = #[] := Array.eq_empty_of_size_eq_zero h0
  unfold GotK at h
  rw [this] at h
  simpa using h

theorem GotK.step {es : Array MapEntry} {seen : Array Nat} {xs : List Value} {e : MapEntry} (h : GotK es seen xs) (hn : (es.toList.map (·.born)).Nodup) (he : e ∈ (leftOf es seen).toList) : GotK es (seen.push e.born) (xs ++ [e.key]) := by
  have := (left_push hn he).map (·.key)
  unfold GotK at h ⊢
  refine List.Perm.trans ?_ h
  rw [List.append_assoc]
  exact (List.Perm.append_left xs (by simpa using this.symm))

theorem GotK.more {es : Array MapEntry} {seen : Array Nat} {xs : List Value} {e : MapEntry} (h : GotK es seen xs) (he : e ∈ (leftOf es seen).toList) : xs.length < es.size := by
  have h1 := h.length_eq
  have h2 := List.length_pos_of_mem he
  simp at h1 h2
  omega

set_option maxRecDepth 100000 in
set_option maxHeartbeats 2000000 in
theorem names1_in (F : Fence) (n : Nat) (h79 : F.fn 79) (hro : F.round = none) (hn : 1 ≤ n) (l Bm b : Nat) (es : Array MapEntry) (clock : Nat) (J Jx : List ByteArray → World → Prop)
    (hY : ∀ pre x W, J pre W → pre.length < es.size → YieldAt F (n - 1) Try.prog l #[.string x] W fun e W' =>
      (e = .returned (.bool true) ∧ J (pre ++ [x]) W' ∧ KeepsWalks W W') ∨ (e = .returned (.bool false) ∧ Jx (pre ++ [x]) W'))
    (W : World) (hJ : AbidesFrom W.heap.size J) (hm : W.cell? ⟨Bm, 0, none⟩ = some (.map (some b))) (hb : W.heap[b]? = some (.map es clock)) (hs : MapKept.Stamped es clock)
    (hel : ∀ e, e ∈ es.toList → ∃ x : ByteArray, e.key = .string x) (h0 : J [] W) :
    CallsIn F n Try.prog 79 #[.func (.yield l) #[] #[], .pointer (some ⟨Bm, 0, none⟩)] W fun e W' => (∃ v, e = .returned v) ∧
      ((∃ xs : List ByteArray, (xs.map Value.string).Perm (es.toList.map (·.key)) ∧ J xs W') ∨ (∃ pre, True ∧ Jx pre W')) := by
  refine callsIn_of_wp Try.func79 rfl h79 ?_ hro
  simp only [Try.ntmps79, List.size_toArray, List.length_cons, List.length_nil, Nat.reduceAdd, Nat.reduceSub, Array.replicate_succ, Array.replicate_zero, List.push_toArray, List.append_toArray, List.nil_append, List.cons_append]
  gi_wp2_with (first
    | (gi_at_range; refine wpListIn_range_rg _ rfl _ 97 rfl 9 101 Try.underlying97 b es clock rfl hb hs ?_; intro w0 hrg0 hg0 hs0)
    | gi_in)
  go_frame
  gi_loopw [3] (fun _ wr => ∃ (seen : Array Nat) (xs : List ByteArray), Rg wr b W.heap.size es clock seen ∧ GotK es seen (xs.map Value.string) ∧ J xs wr)
    (fun _ wr => rgLeft wr b W.heap.size)
  case atStart =>
    exact ⟨#[], [], hrg0, GotK.start es, hJ [] W w0 none h0 hg0 (fun r e => by cases e)⟩
  case round =>
    obtain ⟨seen, xs, hrg, hC, hJs⟩ := hrel
    gi_wp2_with (first
      | (gi_at_next; refine wpListIn_next_rg _ rfl _ rfl b W.heap.size es clock seen rfl hrg ?_ ?_)
      | gi_in)
    · intro hd0
      gi_wp2
      go_end0
      exact ⟨⟨_, rfl⟩, .inl ⟨xs, hC.stop (by simp [hd0]), hJs⟩⟩
    · intro key val e_1 w2 he hek hev hrg2 hg2 hs2 hen
      replace he : e_1 ∈ (leftOf es seen).toList := by simpa using he
      obtain ⟨x, hx⟩ := hel e_1 (mem_left he).1
      rw [hx] at hek
      subst hek
      have hlen := hC.more he
      rw [List.length_map] at hlen
      have hC2 := hC.step ((MapKept.stamped_iff es clock).1 hs).2.1 he
      rw [hx, show List.map Value.string xs ++ [.string x] = List.map Value.string (xs ++ [x]) by simp] at hC2
      have hJ2 : J xs w2 := hJ xs wr w2 (some W.heap.size) hJs hg2 (fun r e => by cases e; exact ⟨Nat.le_refl _, _, hrg.i, rfl⟩)
      obtain ⟨fn, tmps, assign, body, hy, hR⟩ := hY xs x _ hJ2 hlen
      clear hs2
      gi_wp2
      refine hR.mono ?_
      rintro e W3 (⟨rfl, hJ4, hk3⟩ | ⟨rfl, hJx3⟩)
      · have hrg3 : Rg W3 b W.heap.size es clock (seen.push e_1.born) := ⟨hk3.same b _ hrg2.m rfl, hk3.same _ _ hrg2.i rfl, hs⟩
        gi_wp2
        go_roundw
        case rel => exact ⟨_, xs ++ [x], hrg3, hC2, hJ4⟩
        case measure => rw [hrg3.left, hrg.left]; exact left_shrinks es seen e_1 he
      · gi_wp2
        refine bodyPost_ret (results_none rfl _ _ _) rfl ?_
        exact ⟨⟨_, rfl⟩, .inr ⟨xs ++ [x], trivial, hJx3⟩⟩

theorem names_stops (F : Fence) (n : Nat) (h79 : F.fn 79) (hro : F.round = none) (hn : 1 ≤ n) (Bm b : Nat) (es : Array MapEntry) (clock : Nat) (w : World) (hBm : Bm < w.heap.size)
    (hm : w.cell? ⟨Bm, 0, none⟩ = some (.map (some b))) (hb : w.heap[b]? = some (.map es clock)) (hs : MapKept.Stamped es clock) (hel : ∀ e, e ∈ es.toList → ∃ x : ByteArray, e.key = .string x) :
    SeqStopsK F n Try.prog 79 #[.pointer (some ⟨Bm, 0, none⟩)] (fun x : ByteArray => #[.string x]) KeepsWalks (fun xs => (xs.map Value.string).Perm (es.toList.map (·.key))) (fun _ => True) es.size w := fun l J Jx W hW hJ _ hY h0 =>
  names1_in F n h79 hro hn l Bm b es clock J Jx hY W hJ ((hW.cell (p := ⟨Bm, 0, none⟩) hBm).trans hm) ((hW.block b (Array.getElem?_eq_some_iff.1 hb).1).trans hb) hs hel h0

theorem names_info : (Try.prog.info? 9).map (fun i => (i.zero, i.size, i.bytes)) = some (some (.string ⟨#[]⟩), 1, 16) := by kernel_rfl

set_option maxRecDepth 100000 in
set_option maxHeartbeats 2000000 in
theorem names_append (F : Fence) (n : Nat) (h90 : F.fn 90) (h79 : F.fn 79) (hro : F.round = none) (hn : 3 ≤ n) (Bm b : Nat) (es : Array MapEntry) (clock : Nat) (w : World) (hBm : Bm < w.heap.size)
    (hm : w.cell? ⟨Bm, 0, none⟩ = some (.map (some b))) (hb : w.heap[b]? = some (.map es clock)) (hs : MapKept.Stamped es clock) (hel : ∀ e, e ∈ es.toList → ∃ x : ByteArray, e.key = .string x)
    (hsz : es.size ≤ 1000000) :
    CallsIn F n Try.prog 90 #[.slice none 0 0, .func (.func 79) #[] #[.pointer (some ⟨Bm, 0, none⟩)]] w fun e W' => ∃ v xs, e = .returned v ∧ (xs.map Value.string).Perm (es.toList.map (·.key)) ∧
      W'.ownsRow w.heap.size 9 1 v xs.length (xs.map Value.string) ∧ (v = .slice none 0 0 ↔ xs = []) ∧ Below w.heap.size w W' := by
  have h1 : 1 ≤ n := by omega
  refine callsIn_of_wp_marks Try.func90 rfl h90 ?_ hro
  simp only [Try.ntmps90, List.size_toArray, List.length_cons, List.length_nil, Nat.reduceAdd, Nat.reduceSub, Array.replicate_succ, Array.replicate_zero, List.push_toArray, List.append_toArray, List.nil_append, List.cons_append]
  gi_wp2
  have bB := Boxed.new w 74 (.slice none 0 0)
  have hB0 : Below w.heap.size w (w.alloc (.cells #[.slice none 0 0] 74)) := (Below.refl _ w).alloc (Nat.le_refl _) _
  have hst := names_stops F (n - 1) h79 hro (by omega) Bm b es clock (w.alloc (.cells #[.slice none 0 0] 74)) (by simp; omega) ((hB0.cell (p := ⟨Bm, 0, none⟩) hBm).trans hm) ((Below.heap_alloc w _ b (Array.getElem?_eq_some_iff.1 hb).1).trans hb) hs hel
  have hsz0 : (w.alloc (.cells #[.slice none 0 0] 74)).heap.size = w.heap.size + 1 := by simp
  obtain ⟨W0, hW0⟩ : ∃ W0, w.alloc (.cells #[.slice none 0 0] 74) = W0 := ⟨_, rfl⟩
  rw [hW0] at bB hB0 hst hsz0 ⊢
  clear hW0
  obtain ⟨i0, hi, hz0, hz1, hz2⟩ := info_parts names_info
  refine wpIn_rangeFunc_ownH hro h1 (gf := 79) (lb := #[.pointer (some ⟨Bm, 0, none⟩)]) rfl h79 (enters_of Try.func79 (by kernel_rfl) rfl)
    hst walksK_t walksK_b (Below.refl _ _) (fun _ => rfl)
    (fun pre W => (∃ v, Boxed W w.heap.size 74 v ∧ W.ownsRow w.heap.size 9 1 v pre.length (pre.map Value.string) ∧ (v = .slice none 0 0 ↔ pre = [])) ∧ Below w.heap.size w W)
    (fun _ _ _ => False)
    (OwnFrom.and (Own.from (holdsRow_own w.heap.size w.heap.size 74 9 1 (fun (pre : List ByteArray) => pre.length) (fun pre => pre.map Value.string) (fun pre v => (v = .slice none 0 0 ↔ pre = []))) _) (ownFrom_below (Nat.le_refl _) (by omega)))
    (fun _ _ _ _ _ hs _ _ => hs)
    ⟨⟨_, bB, World.ownsRow_nil _ _ _ _, by simp⟩, hB0⟩
    (fun x a' _ => a' = { tmps := #[.slice none 0 0, .func (.func 79) #[] #[.pointer (some ⟨Bm, 0, none⟩)], .pointer (some ⟨w.heap.size, 0, none⟩), undef, .slice none 0 0, .string x, .func (.func 79) #[] #[.pointer (some ⟨Bm, 0, none⟩)], .string x, undef, undef, undef, undef, undef], defers := [] })
    (fun _ _ _ _ _ _ hs _ _ => hs)
    ?assign ?body ?done ?stop
  case assign =>
    rintro l pre x W K hi hK
    gi_wp2
    exact hK _ _ (KeepsFrom.refl _ _) (KeepsWalks.refl _) hi rfl
  case body =>
    rintro l pre x a' W hl ⟨r, hr⟩ ⟨⟨v, hv, hrow, hnil⟩, hB1⟩ rfl hlt
    have cv := hv.cell
    have hle := hB1.size
    gi_wp2_with (first
      | (gi_at_builtin; refine wpListIn_append_own _ rfl _ _ 74 rfl w.heap.size 9 i0 _ 1 16 Try.underlying74 hi hz0 hz1 hz2 rfl (by decide) _ _ _ rfl (hrow.alloc _) ⟨W.heap.size, 0, none⟩ 1 1 [.string x] rfl rfl (cell_one_new _ _ _) (by simp [Value.oneCell']) (by have : maxLen = 9223372036854775807 := rfl; omega) (by omega) (by simp; omega) ?_; intro v' w1 hown' hgrow _; obtain ⟨g', cap', rfl⟩ := ownsRow_succ hown'; obtain ⟨hv1, hv2, hr2, hk2, hb2⟩ := hv.appended (by decide) hrow hle (Nat.le_refl _) hown' hgrow; have hc1 := hv1.cell; have hf1 := hv1.frozen)
      | gi_in)
    exact ⟨hk2.from _, hk2.walks, ⟨_, hv2, by simpa using hr2, by simp⟩, hB1.trans hb2⟩
  case done =>
    rintro D ys W hD hS ⟨⟨v, hv, hrow, hnil⟩, hB1⟩ hK
    have cv := hv.cell
    gi_wp2
    refine ⟨by simp, .inl ⟨_, _, rfl, run_takeDeferred hK, ?_⟩⟩
    exact ⟨_, results_tmp rfl _ _ _, v, ys, rfl, hS, ownsRow_putObj hrow _ hK rfl, hnil, hB1.trans (belowK_b (w := w) (Nat.le_refl _) W D _ _ (by omega) hK rfl rfl)⟩
  case stop =>
    rintro D c pre W _ _ h _
    exact h.elim

set_option maxHeartbeats 1000000 in
theorem names_keys (F : Fence) (n : Nat) (h58 : F.fn 58) (hro : F.round = none) (b : Nat) (w : World) :
    CallsIn F n Try.prog 58 #[.map (some b)] w fun e W' => e = .returned (.func (.func 79) #[] #[.pointer (some ⟨w.heap.size, 0, none⟩)]) ∧ W' = w.alloc (.cells #[.map (some b)] 97) := by
  refine callsIn_of_wp Try.func58 rfl h58 ?_ hro
  simp only [Try.ntmps58, List.size_toArray, List.length_cons, List.length_nil, Nat.reduceAdd, Nat.reduceSub, Array.replicate_succ, Array.replicate_zero, List.push_toArray, List.append_toArray, List.nil_append, List.cons_append]
  gi_wp2
  go_ret
  exact ⟨rfl, rfl⟩

set_option maxHeartbeats 1000000 in
theorem names_collect (F : Fence) (n : Nat) (h77 : F.fn 77) (h90 : F.fn 90) (h79 : F.fn 79) (hro : F.round = none) (hn : 4 ≤ n) (Bm b : Nat) (es : Array MapEntry) (clock : Nat) (w : World) (hBm : Bm < w.heap.size)
    (hm : w.cell? ⟨Bm, 0, none⟩ = some (.map (some b))) (hb : w.heap[b]? = some (.map es clock)) (hs : MapKept.Stamped es clock) (hel : ∀ e, e ∈ es.toList → ∃ x : ByteArray, e.key = .string x)
    (hsz : es.size ≤ 1000000) :
    CallsIn F n Try.prog 77 #[.func (.func 79) #[] #[.pointer (some ⟨Bm, 0, none⟩)]] w fun e W' => ∃ v xs, e = .returned v ∧ (xs.map Value.string).Perm (es.toList.map (·.key)) ∧
      W'.ownsRow w.heap.size 9 1 v xs.length (xs.map Value.string) ∧ (v = .slice none 0 0 ↔ xs = []) ∧ Below w.heap.size w W' := by
  refine callsIn_of_wp Try.func77 rfl h77 ?_ hro
  simp only [Try.ntmps77, List.size_toArray, List.length_cons, List.length_nil, Nat.reduceAdd, Nat.reduceSub, Array.replicate_succ, Array.replicate_zero, List.push_toArray, List.append_toArray, List.nil_append, List.cons_append]
  have h1 : 1 ≤ n := by omega
  gi_wp2_with (gi_at_call 90; refine (names_append F (n - 1) h90 h79 hro (by omega) Bm b es clock _ hBm hm hb hs hel hsz).mono ?_; rintro e w' ⟨v, xs, rfl, hp, hr, hn', hB⟩)
  go_ret
  exact ⟨v, xs, rfl, hp, hr, hn', hB⟩

end Rf
end
