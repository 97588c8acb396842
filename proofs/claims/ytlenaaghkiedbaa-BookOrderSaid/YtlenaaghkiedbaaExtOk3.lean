import Derived.Deep.QuietTactic
import Derived.BigQuiet
import Derived.Laws.StructEq
import Derived.LoopTactic
import Derived.Deep.LoopGhost
import Derived.WalkKit
import Derived.Test.YtlenaaghkiedbaaIt2
import Derived.Test.YtlenaaghkiedbaaProg
import Derived.Test.YtlenaaghkiedbaaExtOk2
import Derived.Test.YtlenaaghkiedbaaIt2B
import Derived.Test.YtlenaaghkiedbaaSortB
import Derived.Test.YtlenaaghkiedbaaEqBlocks
import Derived.Test.YtlenaaghkiedbaaRf30
import Derived.Test.YtlenaaghkiedbaaSortW

section
/- sameSteps of one list: they are the same. -/
set_option linter.unusedSimpArgs false
set_option linter.unusedVariables false
namespace Rf
open Go Go.RowKit Go.Shelf Go.Proofs

set_option maxRecDepth 100000 in
set_option maxHeartbeats 1000000 in
theorem same_nil (a1 a2 : Option Addr) (c1 c2 : Nat) (w : World) : Calls Try.prog 28 #[.slice a1 0 c1, .slice a2 0 c2] w fun e w' => e = .returned (.bool true) ∧ Below w.heap.size w w' := by
  go_enter Try.func28, Try.ntmps28
  go_wp2
  go_loop [5] (fun i => i = .int .i64 0) (fun _ => 0)
  case atStart => rfl
  case round =>
    subst hrel
    go_wp2
    go_ret
    exact ⟨rfl, Below.refl _ _⟩

/-- a step's cells lie here -/
def StAt (W : World) (b o : Nat) (x : StV) : Prop :=
  W.cell? ⟨b, o, none⟩ = some (.string x.s) ∧ W.cell? ⟨b, o + 1, none⟩ = some (.int .i64 x.a) ∧ W.cell? ⟨b, o + 2, none⟩ = some (.int .i64 x.b) ∧ W.cell? ⟨b, o + 3, none⟩ = some (.int .i64 x.c) ∧
  W.cell? ⟨b, o + 4, none⟩ = some (.bool x.d) ∧ W.cell? ⟨b, o + 5, none⟩ = some (.int .i64 x.e) ∧ W.cell? ⟨b, o + 6, none⟩ = some (.int .i64 x.f)

set_option maxRecDepth 100000 in
set_option maxHeartbeats 1000000 in
theorem same_some (b1 o1 b2 o2 c1 c2 : Nat) (xs : List StV) (w0 w : World) (hw : Below w0.heap.size w0 w) (hl : xs.length < 1000000000)
    (h1 : Aside (∀ k x, xs[k]? = some x → ∀ W : World, Below w0.heap.size w0 W → StAt W b1 (o1 + k * 7) x ∧ StAt W b2 (o2 + k * 7) x)) :
    Calls Try.prog 28 #[.slice (some ⟨b1, o1, none⟩) xs.length c1, .slice (some ⟨b2, o2, none⟩) xs.length c2] w fun e w' => e = .returned (.bool true) ∧ Below w0.heap.size w0 w' := by
  go_enter Try.func28, Try.ntmps28
  go_wp2
  go_loopw [5] (fun i W => Below w0.heap.size w0 W ∧ ∃ k : Nat, k ≤ xs.length ∧ i = .int .i64 k) (fun i _ => xs.length - (RowKit.intOf i).toNat)
  case atStart => exact ⟨hw, 0, Nat.zero_le _, rfl⟩
  case round =>
    obtain ⟨hB, k, hk, rfl⟩ := hrel
    by_cases hlt : k < xs.length
    · obtain ⟨⟨p0, p1, p2, p3, p4, p5, p6⟩, ⟨q0, q1, q2, q3, q4, q5, q6⟩⟩ := h1.out k xs[k] (List.getElem?_eq_getElem hlt) wr hB
      have hi : (k : Int) < (xs.length : Int) := by omega
      have hB' : Aside (Below w0.heap.size w0 wr) := hB
      clear hB hw h1
      generalize xs[k] = x at *
      go_wp2
      go_quiet (fail)
      go_wp2
      go_roundw
      case rel => exact ⟨⟨hB'.out.os, hB'.out.tape, hB'.out.output, hB'.out.size, hB'.out.block⟩, k + 1, by omega, by go_num⟩
      case measure => simp [RowKit.intOf]; omega
    · have : k = xs.length := by omega
      subst this
      have hi : ¬ (xs.length : Int) < (xs.length : Int) := by omega
      go_wp2
      go_ret
      exact ⟨rfl, hB⟩

end Rf
end

section
section
/- Contracts that are made by hand: Book.Blocks. -/
namespace Rf
open Go Go.RowKit Go.Shelf Go.Proofs
attribute [local go_sem] Oper.semAt_some

/-- a block and what its quantities read as -/
abbrev BlP := BlV × List FV
def BlP.fv (p : BlP) : FV := p.1.fv p.2
def BlP.ok (w : World) (S : Nat → Prop) (p : BlP) : Prop := p.1.n = p.2.length ∧ FRep w S (.list 1 p.2) (.slice p.1.q p.1.n p.1.k)

theorem perm_back {α β : Type} {g : α → β} {l m : List β} (h : l.Perm m) : ∀ {ys : List α}, m = ys.map g → ∃ zs : List α, zs.Perm ys ∧ zs.map g = l := by
  induction h with
  | nil => intro ys hy; exact ⟨[], by cases ys with | nil => exact .nil | cons y l => simp at hy, rfl⟩
  | cons x h ih =>
    intro ys hy
    cases ys with
    | nil => simp at hy
    | cons y l =>
      simp only [List.map_cons, List.cons.injEq] at hy
      obtain ⟨zs, h1, h2⟩ := ih hy.2
      exact ⟨y :: zs, h1.cons y, by simp [h2, hy.1]⟩
  | swap x y l =>
    intro ys hy
    match ys, hy with
    | a :: b :: r, hy =>
      simp only [List.map_cons, List.cons.injEq] at hy
      exact ⟨b :: a :: r, List.Perm.swap _ _ _, by simp [hy.1, hy.2.1, hy.2.2]⟩
    | [], hy => simp at hy
    | [_], hy => simp at hy
  | trans h1 h2 ih1 ih2 =>
    intro ys hy
    obtain ⟨zs, q1, q2⟩ := ih2 hy
    obtain ⟨us, p1, p2⟩ := ih1 q2.symm
    exact ⟨us, p1.trans q1, p2⟩

theorem block_vals {w : World} {S : Nat → Prop} {kag : Bool} {ks : List CK} {z : FV} : ∀ {es : List FV} {arr : List MapEntry}, All2 (ERep w S kag ks z) es arr → (es.map entVal).all blockOk = true →
    ∃ ys : List BlP, arr.map (·.val) = ys.map (fun p => p.1.v) ∧ es.map entVal = ys.map BlP.fv ∧ ∀ p, p ∈ ys → BlP.ok w S p
  | _, _, .nil, _ => ⟨[], rfl, rfl, fun p h => by cases h⟩
  | _, _, .cons h t, ha => by
    simp only [List.map_cons, List.all_cons, Bool.and_eq_true] at ha
    obtain ⟨ys, h1, h2, h3⟩ := block_vals t ha.2
    obtain ⟨k, v, rfl, _, _, _, hr⟩ := h
    obtain ⟨y, q, q1, q2, q3, q4⟩ := block_val ha.1 hr
    refine ⟨(y, q) :: ys, by simp [h1, q1], ?_, fun p hp => ?_⟩
    · simp only [List.map_cons, h2]
      exact congrArg (· :: List.map BlP.fv ys) q2
    · rcases List.mem_cons.1 hp with rfl | hp
      · exact ⟨q3, q4⟩
      · exact h3 p hp

theorem block_cell {w : World} {S : Nat → Prop} {p : BlP} (hp : p.ok w S) : ∀ (j : Nat) (c : FV), p.fv.cells[j]? = some c → ∃ v, p.1.l[j]? = some v ∧ FRep w S c v := by
  intro j c h
  simp only [BlP.fv, BlV.fv, FV.cells] at h
  match j, h with
  | 0, h => simp at h; subst h; exact ⟨_, rfl, .str _⟩
  | 1, h => simp at h; subst h; exact ⟨_, rfl, .int _ _⟩
  | 2, h => simp at h; subst h; exact ⟨_, rfl, .int _ _⟩
  | 3, h => simp at h; subst h; exact ⟨_, rfl, .bool _⟩
  | 4, h => simp at h; subst h; exact ⟨_, rfl, .int _ _⟩
  | 5, h => simp at h; subst h; exact ⟨_, rfl, hp.2⟩
  | 6, h => simp at h; subst h; exact ⟨_, rfl, .int _ _⟩
  | 7, h => simp at h; subst h; exact ⟨_, rfl, .int _ _⟩
  | _ + 8, h => simp at h

theorem block_el (p : BlP) : El 8 p.fv := by
  refine ⟨rfl, fun c hc => ?_⟩
  simp only [BlP.fv, BlV.fv, FV.cells, List.mem_cons, List.not_mem_nil, or_false] at hc
  rcases hc with rfl | rfl | rfl | rfl | rfl | rfl | rfl | rfl <;> rfl

theorem blocks_row {w : World} {S : Nat → Prop} {g : Nat} {cur : Array Value} {xs : List BlP} (hok : ∀ p, p ∈ xs → BlP.ok w S p) (hg : w.heap[g]? = some (.cells cur 27 (0, 0))) (ht : cur.toList.take (xs.length * 8) = xs.flatMap (fun p => p.1.l)) : Row w S g 0 8 (xs.map BlP.fv) := by
  refine ⟨fun x hx => ?_, fun i j x c hi hj => ?_⟩
  · obtain ⟨y, _, rfl⟩ := List.mem_map.1 hx
    exact block_el y
  · rw [List.getElem?_map] at hi
    cases hxi : xs[i]? with
    | none => rw [hxi] at hi; simp at hi
    | some y =>
      rw [hxi] at hi
      simp at hi
      subst hi
      obtain ⟨v, hv, hr⟩ := block_cell (hok y (List.mem_of_getElem? hxi)) j c hj
      have hj7 : j < 8 := by have := (List.getElem?_eq_some_iff.1 hv).1; simpa [BlV.l] using this
      have hil : i < xs.length := (List.getElem?_eq_some_iff.1 hxi).1
      refine ⟨v, ?_, hr⟩
      rw [Nat.zero_add, cellAt_eq hg]
      have h1 := flat_get (fun p : BlP => p.1.l) 8 (fun _ => rfl) xs i j hj7
      rw [hxi, Option.bind_some, hv, ← ht, List.getElem?_take] at h1
      rw [if_pos (by omega)] at h1
      simpa using h1

theorem sortB_calls {n₀ m : Nat} {w : World} {v : Value} {xs : List BlP} {ys : List FV} {S : Nat → Prop} (hok : ∀ p, p ∈ xs → BlP.ok w S p) (hrow : w.ownsRow n₀ 27 8 v xs.length (xs.flatMap (fun p => p.1.l))) (hS : ∀ b, S b → b < n₀) (hn₀ : n₀ ≤ w.heap.size)
    (hev : evF En0 m 75 [.list 8 (xs.map BlP.fv), .raw cmpB] = some [.list 8 ys]) :
    Calls Try.prog 75 #[v, cmpB] w fun e w' => (∃ u, e = .returned u) ∧ ∃ (S' : Nat → Prop) (g : Gh), v = .slice g.base ys.length g.cap ∧ VRep w' S' g 8 ys ∧ (g.nil = false → n₀ ≤ g.blk ∧ g.blk < w'.heap.size ∧ ¬ S' g.blk) ∧ Below n₀ w w' ∧
      (∀ b, S b → S' b) ∧ (∀ b, S' b → b < w'.heap.size) ∧ (∀ b, S' b → S b ∨ n₀ ≤ b) := by
  have hi : En0.fn 75 = some ⟨[.own 8, .raw (.func (.func 56) #[] #[])], [.own 8, .skip], []⟩ := by kernel_rfl
  obtain ⟨_, hspec⟩ := evF_ok (E := En0) envOk0 (fun f g i L L' h => by cases h) m 75 _ _ _ hi hev
  obtain ⟨g, hv, hvr, hgb⟩ : ∃ g : Gh, v = .slice g.base xs.length g.cap ∧ VRep w S g 8 (xs.map BlP.fv) ∧ (g.nil = false → n₀ ≤ g.blk ∧ g.blk < w.heap.size) := by
    rcases hrow.2 with ⟨rfl, h0⟩ | ⟨gb, cap, cur, rfl, hb, hh, hc, hm, hcs, ht⟩
    · refine ⟨⟨0, 0, 0, true⟩, by rw [h0]; rfl, ⟨by simp [h0], ?_⟩, fun h => by simp at h⟩
      have : xs = [] := List.eq_nil_of_length_eq_zero h0
      simp [this]
    · refine ⟨⟨gb, 0, cap, false⟩, rfl, ⟨by simpa using hc, ?_⟩, fun _ => ⟨hb, (Array.getElem?_eq_some_iff.1 hh).1⟩⟩
      simp only [Bool.false_eq_true, if_false]
      exact ⟨cur, 27, hh, by simp [hcs], blocks_row hok hh ht⟩
  have hS2 : ∀ b, S b → b < w.heap.size := fun b h => Nat.lt_of_lt_of_le (hS b h) hn₀
  have hT : TRep w S [.own 8, .raw (.func (.func 56) #[] #[])] [v, cmpB] [.list 8 (xs.map BlP.fv), .raw cmpB] [] [(g, (some (8, xs.length), none))] :=
    ⟨g, xs.map BlP.fv, [cmpB], [.raw cmpB], by rw [hv]; simp, rfl, hvr, cmpB, [], .raw cmpB, [], rfl, rfl, ⟨rfl, rfl⟩, .raw _, rfl, rfl, by simp⟩
  have hgo : GOk ⟨w, S, Given [(g, (some (8, xs.length), none))], 0, fun _ => none⟩ w S [(g, (some (8, xs.length), none))] := by
    refine ⟨fun i g' sh h hn => ?_, fun i j g1 g2 s1 s2 h1 h2 _ _ _ => ?_⟩
    · cases i with
      | zero =>
        simp at h
        obtain ⟨rfl, rfl⟩ := h
        exact ⟨(hgb hn).2, fun h => by have := hS _ h; have := (hgb hn).1; omega, .inl ⟨0, _, _, rfl, hn, rfl⟩⟩
      | succ i => simp at h
    · cases i with
      | zero => cases j with
        | zero => rfl
        | succ j => simp at h2
      | succ i => simp at h1
  have hgiv : ∀ b, Given [(g, (some (8, xs.length), none))] b → n₀ ≤ b := fun b hb => by
    obtain ⟨i, g', sh, h, hn, rfl⟩ := hb
    cases i with
    | zero => simp at h; obtain ⟨rfl, _⟩ := h; exact (hgb hn).1
    | succ i => simp at h
  refine (hspec w S [v, cmpB] _ hS2 hT hgo).mono ?_
  rintro e w' ⟨S', fin', R, rfl, hT', hk, hgo'⟩
  obtain ⟨g', ys', V', L', hV, hL, hvr', v2, V2, hV2, h3⟩ := hT'
  obtain ⟨rfl, rfl, rfl⟩ := h3
  simp only [List.cons_append, List.nil_append, List.cons.injEq, FV.list.injEq, true_and] at hV hL
  obtain ⟨rfl, _⟩ := hL
  have h0 := hgo'.own 0 g' _ rfl
  refine ⟨⟨_, rfl⟩, S', g', hV.1, hvr', fun hn => ⟨?_, (h0 hn).1, (h0 hn).2.1⟩, ⟨hk.os, hk.tape, hk.output, hk.size, fun k hlt => hk.block k (Nat.lt_of_lt_of_le hlt hn₀) fun hg => by have := hgiv k hg; omega⟩, hk.smon, hk.bound, fun b hb => ?_⟩
  · rcases (h0 hn).2.2 with h | h
    · exact hgiv _ h
    · exact Nat.le_trans hn₀ h
  · rcases hk.sfrom b hb with h | h | h
    · exact .inl h
    · exact .inr (hgiv b h)
    · exact .inr (Nat.le_trans hn₀ h)

def vL : Value → List Value
  | .agg a => a.toList
  | _ => []

set_option maxHeartbeats 1000000 in
theorem blocks_sorted (n : Nat) (hn : 5 ≤ n) (Bm b : Nat) (es : Array MapEntry) (clock : Nat) (w : World) (hBm : Bm < w.heap.size) {S : Nat → Prop} (hS : ∀ b, S b → b < w.heap.size) {ys : List BlP}
    (hm : w.cell? ⟨Bm, 0, none⟩ = some (.map (some b))) (hb : w.heap[b]? = some (.map es clock)) (hs : MapKept.Stamped es clock) (hel : es.toList.map (·.val) = ys.map (fun p => p.1.v)) (hok : ∀ p, p ∈ ys → BlP.ok w S p)
    (hsz : es.size ≤ 1000000) {m : Nat} {r : List FV} (hsort : ∀ zs : List BlP, zs.Perm ys → evF En0 m 75 [.list 8 (zs.map BlP.fv), .raw cmpB] = some [.list 8 r]) :
    CallsIn Fence.wide n Try.prog 54 #[.func (.func 76) #[] #[.pointer (some ⟨Bm, 0, none⟩)], cmpB] w fun e w' => ∃ (v : Value) (S' : Nat → Prop) (g : Gh), e = .returned v ∧
      v = .slice g.base r.length g.cap ∧ VRep w' S' g 8 r ∧ (g.nil = false → w.heap.size ≤ g.blk ∧ g.blk < w'.heap.size ∧ ¬ S' g.blk) ∧ Below w.heap.size w w' ∧
      (∀ b, S b → S' b) ∧ (∀ b, S' b → b < w'.heap.size) ∧ (∀ b, S' b → S b ∨ w.heap.size ≤ b) := by
  refine callsIn_of_wp Try.func54 rfl trivial ?_ rfl
  simp only [Try.ntmps54, List.size_toArray, List.length_cons, List.length_nil, Nat.reduceAdd, Nat.reduceSub, Array.replicate_succ, Array.replicate_zero, List.push_toArray, List.append_toArray, List.nil_append, List.cons_append]
  have h1 : 1 ≤ n := by omega
  have t74 : Fence.wide.fn 74 := trivial
  have t75 : Fence.wide.fn 75 := trivial
  have hel' : ∀ e, e ∈ es.toList → ∃ x : BlV, e.val = x.v := fun e he => by
    have : e.val ∈ es.toList.map (·.val) := List.mem_map.2 ⟨e, he, rfl⟩
    rw [hel] at this
    obtain ⟨p, _, hp⟩ := List.mem_map.1 this
    exact ⟨p.1, hp.symm⟩
  have srt : ∀ {v : Value} {xs : List BlV} {w1 : World}, (xs.map BlV.v).Perm (es.toList.map (·.val)) → w1.ownsRow w.heap.size 27 8 v xs.length (xs.flatMap BlV.l) → Below w.heap.size w w1 →
      Calls Try.prog 75 #[v, cmpB] w1 fun e w' => (∃ u, e = .returned u) ∧ ∃ (S' : Nat → Prop) (g : Gh), v = .slice g.base r.length g.cap ∧ VRep w' S' g 8 r ∧ (g.nil = false → w.heap.size ≤ g.blk ∧ g.blk < w'.heap.size ∧ ¬ S' g.blk) ∧ Below w.heap.size w1 w' ∧
        (∀ b, S b → S' b) ∧ (∀ b, S' b → b < w'.heap.size) ∧ (∀ b, S' b → S b ∨ w.heap.size ≤ b) := fun {v xs w1} hp hr hB => by
    obtain ⟨zs, z1, z2⟩ := perm_back (g := fun p : BlP => p.1.v) hp hel
    have hz : zs.length = xs.length := by have := congrArg List.length z2; simpa using this
    have hl : zs.flatMap (fun p : BlP => p.1.l) = xs.flatMap BlV.l := by
      have := congrArg (List.map vL) z2
      simp only [List.map_map, Function.comp_def] at this
      rw [List.flatMap_def, List.flatMap_def]
      congr 1
    exact sortB_calls (fun p hp => by
      obtain ⟨q1, q2⟩ := hok p (z1.mem_iff.1 hp)
      exact ⟨q1, q2.mono (fun b hb => hB.block b (hS b hb)) fun _ h => h⟩) (by rw [hz, hl]; exact hr) hS hB.size (hsort zs z1)
  gi_wp2_with (first
    | (gi_at_call 74; refine (blocks_collect Fence.wide (n - 1) trivial trivial trivial rfl (by omega) Bm b es clock _ hBm hm hb hs hel' hsz).mono ?_; rintro e w' ⟨v, xs, rfl, hp, hr, hn', hB⟩)
    | (gi_at_call 75; refine (callsIn_wide.2 (srt hp hr hB)).mono ?_; rintro e w2 ⟨⟨u, rfl⟩, S', g, q1, q2, q3, q4, q5, q6, q7⟩))
  go_ret
  exact ⟨_, S', g, rfl, rfl, q2, q3, hB.trans q4, q5, q6, q7⟩

end Rf
end

section
/- Contracts that are made by hand: Book.Who. -/
namespace Rf
open Go Go.RowKit Go.Shelf Go.Proofs
attribute [local go_sem] Oper.semAt_some

theorem names_row {w : World} {S : Nat → Prop} {g : Nat} {cur : Array Value} {xs : List ByteArray} (hg : w.heap[g]? = some (.cells cur 9 (0, 0))) (ht : cur.toList.take (xs.length * 1) = xs.map Value.string) : Row w S g 0 1 (xs.map FV.str) := by
  refine ⟨fun x hx => ?_, fun i j x c hi hj => ?_⟩
  · obtain ⟨y, _, rfl⟩ := List.mem_map.1 hx
    exact ⟨rfl, fun c hc => by simp only [FV.cells, List.mem_singleton] at hc; subst hc; rfl⟩
  · rw [List.getElem?_map] at hi
    cases hxi : xs[i]? with
    | none => rw [hxi] at hi; simp at hi
    | some y =>
      rw [hxi] at hi
      simp at hi
      subst hi
      have hj0 : j = 0 := by have := (List.getElem?_eq_some_iff.1 hj).1; simp only [FV.cells, List.length_singleton] at this; omega
      subst hj0
      simp only [FV.cells, List.getElem?_cons_zero, Option.some.injEq] at hj
      subst hj
      have hil : i < xs.length := (List.getElem?_eq_some_iff.1 hxi).1
      refine ⟨.string y, ?_, .str y⟩
      rw [Nat.zero_add, cellAt_eq hg]
      have h1 : (xs.map Value.string)[i]? = some (.string y) := by rw [List.getElem?_map, hxi]; rfl
      rw [← ht, List.getElem?_take, if_pos (by omega)] at h1
      simpa using h1

theorem sortW_calls {n₀ m : Nat} {w : World} {v : Value} {xs : List ByteArray} {ys : List FV} {S : Nat → Prop} (hrow : w.ownsRow n₀ 9 1 v xs.length (xs.map Value.string)) (hS : ∀ b, S b → b < n₀) (hn₀ : n₀ ≤ w.heap.size)
    (hev : evF En0 m 78 [.list 1 (xs.map FV.str)] = some [.list 1 ys]) :
    Calls Try.prog 78 #[v] w fun e w' => (∃ u, e = .returned u) ∧ ∃ (S' : Nat → Prop) (g : Gh), v = .slice g.base ys.length g.cap ∧ VRep w' S' g 1 ys ∧ (g.nil = false → n₀ ≤ g.blk ∧ g.blk < w'.heap.size ∧ ¬ S' g.blk) ∧ Below n₀ w w' ∧
      (∀ b, S b → S' b) ∧ (∀ b, S' b → b < w'.heap.size) ∧ (∀ b, S' b → S b ∨ n₀ ≤ b) := by
  have hi : En0.fn 78 = some ⟨[.own 1], [.own 1], []⟩ := by kernel_rfl
  obtain ⟨_, hspec⟩ := evF_ok (E := En0) envOk0 (fun f g i L L' h => by cases h) m 78 _ _ _ hi hev
  obtain ⟨g, hv, hvr, hgb⟩ : ∃ g : Gh, v = .slice g.base xs.length g.cap ∧ VRep w S g 1 (xs.map FV.str) ∧ (g.nil = false → n₀ ≤ g.blk ∧ g.blk < w.heap.size) := by
    rcases hrow.2 with ⟨rfl, h0⟩ | ⟨gb, cap, cur, rfl, hb, hh, hc, hm, hcs, ht⟩
    · refine ⟨⟨0, 0, 0, true⟩, by rw [h0]; rfl, ⟨by simp [h0], ?_⟩, fun h => by simp at h⟩
      have : xs = [] := List.eq_nil_of_length_eq_zero h0
      simp [this]
    · refine ⟨⟨gb, 0, cap, false⟩, rfl, ⟨by simpa using hc, ?_⟩, fun _ => ⟨hb, (Array.getElem?_eq_some_iff.1 hh).1⟩⟩
      simp only [Bool.false_eq_true, if_false]
      exact ⟨cur, 9, hh, by simp [hcs], names_row hh ht⟩
  have hS2 : ∀ b, S b → b < w.heap.size := fun b h => Nat.lt_of_lt_of_le (hS b h) hn₀
  have hT : TRep w S [.own 1] [v] [.list 1 (xs.map FV.str)] [] [(g, (some (1, xs.length), none))] :=
    ⟨g, xs.map FV.str, [], [], by rw [hv]; simp, rfl, hvr, rfl, rfl, by simp⟩
  have hgo : GOk ⟨w, S, Given [(g, (some (1, xs.length), none))], 0, fun _ => none⟩ w S [(g, (some (1, xs.length), none))] := by
    refine ⟨fun i g' sh h hn => ?_, fun i j g1 g2 s1 s2 h1 h2 _ _ _ => ?_⟩
    · cases i with
      | zero =>
        simp at h
        obtain ⟨rfl, rfl⟩ := h
        exact ⟨(hgb hn).2, fun h => by have := hS _ h; have := (hgb hn).1; omega, .inl ⟨0, _, _, rfl, hn, rfl⟩⟩
      | succ i => simp at h
    · cases i with
      | zero => cases j with
        | zero => rfl
        | succ j => simp at h2
      | succ i => simp at h1
  have hgiv : ∀ b, Given [(g, (some (1, xs.length), none))] b → n₀ ≤ b := fun b hb => by
    obtain ⟨i, g', sh, h, hn, rfl⟩ := hb
    cases i with
    | zero => simp at h; obtain ⟨rfl, _⟩ := h; exact (hgb hn).1
    | succ i => simp at h
  refine (hspec w S [v] _ hS2 hT hgo).mono ?_
  rintro e w' ⟨S', fin', R, rfl, hT', hk, hgo'⟩
  obtain ⟨g', ys', V', L', hV, hL, hvr', h3⟩ := hT'
  obtain ⟨rfl, rfl, rfl⟩ := h3
  simp only [List.cons_append, List.nil_append, List.cons.injEq, FV.list.injEq, true_and] at hV hL
  obtain ⟨rfl, _⟩ := hL
  have h0 := hgo'.own 0 g' _ rfl
  refine ⟨⟨_, rfl⟩, S', g', hV.1, hvr', fun hn => ⟨?_, (h0 hn).1, (h0 hn).2.1⟩, ⟨hk.os, hk.tape, hk.output, hk.size, fun k hlt => hk.block k (Nat.lt_of_lt_of_le hlt hn₀) fun hg => by have := hgiv k hg; omega⟩, hk.smon, hk.bound, fun b hb => ?_⟩
  · rcases (h0 hn).2.2 with h | h
    · exact hgiv _ h
    · exact Nat.le_trans hn₀ h
  · rcases hk.sfrom b hb with h | h | h
    · exact .inl h
    · exact .inr (hgiv b h)
    · exact .inr (Nat.le_trans hn₀ h)


set_option maxHeartbeats 1000000 in
theorem names_sorted (n : Nat) (hn : 5 ≤ n) (Bm b : Nat) (es : Array MapEntry) (clock : Nat) (w : World) (hBm : Bm < w.heap.size) {S : Nat → Prop} (hS : ∀ b, S b → b < w.heap.size)
    (hm : w.cell? ⟨Bm, 0, none⟩ = some (.map (some b))) (hb : w.heap[b]? = some (.map es clock)) (hs : MapKept.Stamped es clock) (hel : ∀ e, e ∈ es.toList → ∃ x : ByteArray, e.key = .string x)
    (hsz : es.size ≤ 1000000) {m : Nat} {r : List FV} (hsort : ∀ xs : List ByteArray, (xs.map Value.string).Perm (es.toList.map (·.key)) → evF En0 m 78 [.list 1 (xs.map FV.str)] = some [.list 1 r]) :
    CallsIn Fence.wide n Try.prog 57 #[.func (.func 79) #[] #[.pointer (some ⟨Bm, 0, none⟩)]] w fun e w' => ∃ (v : Value) (S' : Nat → Prop) (g : Gh), e = .returned v ∧
      v = .slice g.base r.length g.cap ∧ VRep w' S' g 1 r ∧ (g.nil = false → w.heap.size ≤ g.blk ∧ g.blk < w'.heap.size ∧ ¬ S' g.blk) ∧ Below w.heap.size w w' ∧
      (∀ b, S b → S' b) ∧ (∀ b, S' b → b < w'.heap.size) ∧ (∀ b, S' b → S b ∨ w.heap.size ≤ b) := by
  refine callsIn_of_wp Try.func57 rfl trivial ?_ rfl
  simp only [Try.ntmps57, List.size_toArray, List.length_cons, List.length_nil, Nat.reduceAdd, Nat.reduceSub, Array.replicate_succ, Array.replicate_zero, List.push_toArray, List.append_toArray, List.nil_append, List.cons_append]
  have h1 : 1 ≤ n := by omega
  have t77 : Fence.wide.fn 77 := trivial
  have t78 : Fence.wide.fn 78 := trivial
  gi_wp2_with (first
    | (gi_at_call 77; refine (names_collect Fence.wide (n - 1) trivial trivial trivial rfl (by omega) Bm b es clock _ hBm hm hb hs hel hsz).mono ?_; rintro e w' ⟨v, xs, rfl, hp, hr, hn', hB⟩)
    | (gi_at_call 78; refine (callsIn_wide.2 (sortW_calls hr hS hB.size (hsort xs hp))).mono ?_; rintro e w2 ⟨⟨u, rfl⟩, S', g, q1, q2, q3, q4, q5, q6, q7⟩))
  go_ret
  exact ⟨_, S', g, rfl, rfl, q2, q3, hB.trans q4, q5, q6, q7⟩

set_option maxHeartbeats 1000000 in
theorem who_walk (n : Nat) (hn : 6 ≤ n) (B b0 b1 b2 b : Nat) (es : Array MapEntry) (clock : Nat) (w : World) {S : Nat → Prop} (hS : ∀ b, S b → b < w.heap.size)
    {ty : TypeId} (hB : w.heap[B]? = some (.cells #[.map (some b0), .map (some b1), .map (some b2), .map (some b)] ty (0, 0))) (hb : w.heap[b]? = some (.map es clock)) (hs : MapKept.Stamped es clock) (hel : ∀ e, e ∈ es.toList → ∃ x : ByteArray, e.key = .string x)
    (hsz : es.size ≤ 1000000) {m : Nat} {r : List FV} (hsort : ∀ xs : List ByteArray, (xs.map Value.string).Perm (es.toList.map (·.key)) → evF En0 m 78 [.list 1 (xs.map FV.str)] = some [.list 1 r]) :
    CallsIn Fence.wide n Try.prog 31 #[.pointer (some ⟨B, 0, none⟩)] w fun e w' => ∃ (v : Value) (S' : Nat → Prop) (g : Gh), e = .returned v ∧
      v = .slice g.base r.length g.cap ∧ VRep w' S' g 1 r ∧ (g.nil = false → w.heap.size ≤ g.blk ∧ g.blk < w'.heap.size ∧ ¬ S' g.blk) ∧ Below w.heap.size w w' ∧
      (∀ b, S b → S' b) ∧ (∀ b, S' b → b < w'.heap.size) ∧ (∀ b, S' b → S b ∨ w.heap.size ≤ b) := by
  refine callsIn_of_wp Try.func31 rfl trivial ?_ rfl
  simp only [Try.ntmps31, List.size_toArray, List.length_cons, List.length_nil, Nat.reduceAdd, Nat.reduceSub, Array.replicate_succ, Array.replicate_zero, List.push_toArray, List.append_toArray, List.nil_append, List.cons_append]
  have h1 : 1 ≤ n := by omega
  have t57 : Fence.wide.fn 57 := trivial
  have t58 : Fence.wide.fn 58 := trivial
  have c0 : w.cell? ⟨B, 3, none⟩ = some (.map (some b)) := by simp [World.cell?, hB]
  have hbl : b < w.heap.size := (Array.getElem?_eq_some_iff.1 hb).1
  have bx : (w.alloc (.cells #[.map (some b)] 97)).cell? ⟨w.heap.size, 0, none⟩ = some (.map (some b)) := by
    have h : (w.alloc (.cells #[.map (some b)] 97)).heap[w.heap.size]? = some (.cells #[.map (some b)] 97 (0, 0)) := World.alloc_heap_new w _
    simp only [World.cell?]
    rw [h]
    rfl
  have hsz2 : (w.alloc (.cells #[.map (some b)] 97)).heap.size = w.heap.size + 1 := by simp
  have hB2 : Below w.heap.size w (w.alloc (.cells #[.map (some b)] 97)) := (Below.refl _ w).alloc (Nat.le_refl _) _
  gi_wp2_with (first
    | (gi_at_call 58; refine (names_keys Fence.wide (n - 1) trivial rfl b w).mono ?_; rintro e w2 ⟨rfl, rfl⟩)
    | (gi_at_call 57; refine (names_sorted (n - 1) (by omega) w.heap.size b es clock _ (by omega) (S := S) (fun b h => by have := hS b h; omega) bx ((Below.heap_alloc w _ b hbl).trans hb) hs hel hsz hsort).mono ?_; rintro e w2 ⟨v, S', g, rfl, q1, q2, q3, q4, q5, q6, q7⟩))
  go_ret
  exact ⟨_, S', g, rfl, rfl, q2, fun h => ⟨by have := (q3 h).1; omega, (q3 h).2⟩, hB2.trans (q4.mono (by omega)), q5, q6, fun b h => (q7 b h).imp id (by omega)⟩

theorem str_val {w : World} {S : Nat → Prop} {s : ByteArray} {v : Value} (h : FRep w S (.str s) v) : v = .string s := by cases h; rfl

theorem str_keys {w : World} {S : Nat → Prop} {kag : Bool} {ks : List CK} {z : FV} : ∀ {es : List FV} {arr : List MapEntry}, All2 (ERep w S kag ks z) es arr → (es.map entKey).all strOk = true →
    ∃ ys : List ByteArray, arr.map (·.key) = ys.map Value.string ∧ es.map entKey = ys.map FV.str
  | _, _, .nil, _ => ⟨[], rfl, rfl⟩
  | _, _, .cons h t, ha => by
    simp only [List.map_cons, List.all_cons, Bool.and_eq_true] at ha
    obtain ⟨ys, h1, h2⟩ := str_keys t ha.2
    obtain ⟨k, v, rfl, _, _, hr, _⟩ := h
    have hk : strOk k = true := ha.1
    cases k with
    | str s => exact ⟨s :: ys, by simp [h1, str_val hr], by simp only [List.map_cons, h2]; rfl⟩
    | _ => cases hk

def whoI : FnI := (fnT 31).getD ⟨[], [], []⟩
theorem whoI_is : En.fn 31 = some whoI := by kernel_rfl
theorem whoI_eq : whoI = ⟨bookT, bookT ++ [.lst 1], []⟩ := by kernel_rfl

def vS : Value → FV
  | .string s => .str s
  | _ => .agg []

theorem who_ok {L L' : List FV} (hL : whoExt L = some L') : Enters En.P 31 ∧ CSpec En.P 31 whoI L L' := by
  refine ⟨⟨Try.f31, Try.func31, rfl, by kernel_rfl⟩, fun w S V G hS hT hgo => ?_⟩
  rw [whoI_eq] at hT ⊢
  obtain ⟨V1, L1, g, g0, g1, g2, g3, ty, e0, e1, e2, e3, c0, c1, c2, c3, hb⟩ := book_rep (T := []) hT
  have hbV := hb.V
  have hbL := hb.L
  obtain ⟨rfl, rfl, hG⟩ := hb.rest
  subst hbV
  rw [hbL] at hL
  simp only [List.append_nil, whoExt] at hL
  split at hL
  · rename_i hc
    cases hL
    obtain ⟨arr, c, ha, hcc, hst, hz, hall⟩ := hb.m3
    obtain ⟨ys, hy1, hy2⟩ := str_keys hall hc.2.1
    have hlen : arr.size = e3.length := by have := hall.len; simpa using this.symm
    have hel : ∀ e, e ∈ arr.toList → ∃ x : ByteArray, e.key = .string x := fun e he => by
      have : e.key ∈ arr.toList.map (·.key) := List.mem_map.2 ⟨e, he, rfl⟩
      rw [hy1] at this
      obtain ⟨x, _, hx⟩ := List.mem_map.1 this
      exact ⟨x, hx.symm⟩
    have slok : LessOk sless := ⟨fun _ _ _ h1 h2 => kless_ok.tr _ _ _ h1 h2, fun _ _ h => kless_ok.to _ _ h⟩
    have hsort : ∀ xs : List ByteArray, (xs.map Value.string).Perm (arr.toList.map (·.key)) → evF En0 21 78 [.list 1 (xs.map FV.str)] = some [.list 1 (isort sless (e3.map entKey))] := fun xs hp => by
      have hl : xs.length ≤ 12 := by have := hp.length_eq; simp at this; omega
      rw [sort_names hl]
      rw [hy1] at hp
      have hp2 : (xs.map FV.str).Perm (e3.map entKey) := by
        have := hp.map vS
        rw [hy2]
        simpa [List.map_map, Function.comp_def, vS] using this
      have hm := isort_map (less := sless) FV.str xs
      have : isort sless (xs.map FV.str) = isort sless (e3.map entKey) := isort_perm slok hp2 fun a b ha hb h1 h2 => by
        have hd : ((e3.map entKey).map strOf).Nodup := by rw [List.map_map]; exact hc.2.2
        refine nodup_inj hd a b (hp2.mem_iff.1 ha) (hp2.mem_iff.1 hb) ?_
        have := kless_eq h1 h2
        exact congrArg Prod.fst this
      rw [← this, hm]
      rfl
    refine (callsIn_wide.1 (who_walk 6 (Nat.le_refl _) g.blk g0.blk g1.blk g2.blk g3.blk arr c w hS hb.blk ha hst hel (by omega) hsort)).mono ?_
    rintro e w' ⟨v, S1, gr, rfl, rfl, hvr, hgr, hB, q1, q2, q3⟩
    have hrow := hvr.2
    have hfr : FRep w' (fun b => S1 b ∨ (gr.nil = false ∧ b = gr.blk)) (.list 1 (isort sless (e3.map entKey))) (.slice gr.base (isort sless (e3.map entKey)).length gr.cap) := by
      cases hn : gr.nil with
      | true =>
        rw [if_pos hn] at hrow
        rw [hrow.1]
        exact nil_list
      | false =>
        rw [if_neg (by simp [hn])] at hrow
        obtain ⟨vals, e, h1, h2, h3⟩ := hrow
        exact FRep.list_iff.2 ⟨_, _, gr.blk, gr.off, rfl, hvr.1, fun _ => ⟨by simp [Gh.base, hn], .inr ⟨rfl, rfl⟩⟩, h3.mono (fun _ _ => rfl) (fun _ h => .inl h) rfl⟩
    refine ⟨fun b => S1 b ∨ (gr.nil = false ∧ b = gr.blk), G, [.slice gr.base (isort sless (e3.map entKey)).length gr.cap], rfl, ?_, ⟨hB.size, fun b h _ => hB.block b h, hB.os, hB.tape, hB.output, fun b h => ?_, fun b h => .inl (q1 b h), fun b h => ?_⟩, ⟨fun i g' sh h hn => ?_, hgo.inj⟩⟩
    · exact book_back (U := [.lst 1]) (G' := G) hb hS hB (S' := fun b => S1 b ∨ (gr.nil = false ∧ b = gr.blk)) (fun b h => .inl (q1 b h)) ⟨_, [], .list 1 _, [], rfl, rfl, rfl, hfr, rfl, rfl, hG⟩
    · rcases h with h | ⟨h1, rfl⟩
      · exact q2 b h
      · exact (hgr h1).2.1
    · rcases h with h | ⟨h1, rfl⟩
      · rcases q3 b h with h | h
        · exact .inl h
        · exact .inr (.inr h)
      · exact .inr (.inr (hgr h1).1)
    · obtain ⟨h1, h2, h3⟩ := hgo.own i g' sh h hn
      refine ⟨Nat.lt_of_lt_of_le h1 hB.size, fun h => ?_, h3⟩
      rcases h with h | ⟨h4, h5⟩
      · rcases q3 _ h with h | h
        · exact h2 h
        · omega
      · have := (hgr h4).1
        omega
  · cases hL

end Rf
end

section
/- Contracts that are made by hand: Book.Blocks, and all together. -/
namespace Rf
open Go Go.RowKit Go.Shelf Go.Proofs
attribute [local go_sem] Oper.semAt_some

theorem clone1_is : En1.fn 44 = some ⟨[.lst 1], [.skip, .lst 1], []⟩ := by kernel_rfl

theorem ext1_ok : ExtOk En1 := by
  intro f g i L L' hf hi hL
  have : extT1 f = some g := hf
  unfold extT1 lookN at this
  cases hb : Nat.beq 44 f with
  | true =>
    obtain rfl := Nat.eq_of_beq_eq_true hb
    rw [hb] at this
    simp at this
    subst this
    rw [clone1_is] at hi
    cases hi
    exact clone_ok rfl hL
  | false => rw [hb] at this; simp [lookN] at this

theorem setC_same {r : List FV} {i : Nat} {p : BlP} (h : r[i]? = some p.fv) : setC r i 5 (.list 1 p.2) = r := by
  unfold setC
  rw [h]
  simp only [BlP.fv, BlV.fv, List.set_cons_succ, List.set_cons_zero]
  have hlt := (List.getElem?_eq_some_iff.1 h).1
  have he := (List.getElem?_eq_some_iff.1 h).2
  simp only [BlP.fv, BlV.fv] at he
  rw [← he]
  exact List.set_getElem_self hlt

theorem l3_run {n : Nat} {e0 e1 e2 e3 : List FV} {c0 c1 c2 c3 : Int} {r : List FV} (hr : ∀ x, x ∈ r → ∃ p : BlP, x = p.fv ∧ p.2.length ≤ 1000000000) (hl : r.length ≤ 12) : ∀ (d i m : Nat), i + d = r.length → d < m →
    book_Book_Blocks.l3 (n + 1) [] m [.list 3 e0, .int .i64 c0, .list 3 e1, .int .i64 c1, .list 3 e2, .int .i64 c2, .list 3 e3, .int .i64 c3, .list 8 r, .int .i64 (r.length : Int), .int .i64 (i : Int)] =
      some [.list 3 e0, .int .i64 c0, .list 3 e1, .int .i64 c1, .list 3 e2, .int .i64 c2, .list 3 e3, .int .i64 c3, .list 8 r]
  | 0, i, m, hi, hm => by
    obtain ⟨m, rfl⟩ : ∃ k, m = k + 1 := ⟨m - 1, by omega⟩
    rw [book_Book_Blocks.l3_eq, show decide ((i : Int) < (r.length : Int)) = false from decide_eq_false (by omega), cond_false]
  | d + 1, i, m, hi, hm => by
    obtain ⟨m, rfl⟩ : ∃ k, m = k + 1 := ⟨m - 1, by omega⟩
    have hlt : i < r.length := by omega
    obtain ⟨p, hp, hq⟩ := hr r[i] (List.getElem_mem hlt)
    have hget : r[i]? = some p.fv := by rw [List.getElem?_eq_getElem hlt, hp]
    have hat : at' r i 5 = some (.list 1 p.2) := by unfold at'; rw [hget]; rfl
    have hcl : evF En1 (n + 1) 44 [.list 1 p.2] = some [.list 1 p.2] := by
      show (if p.2.length ≤ 1000000000 then some [FV.list 1 p.2] else none) = _
      rw [if_pos hq]
    rw [book_Book_Blocks.l3_eq, show decide ((i : Int) < (r.length : Int)) = true from decide_eq_true (by omega), cond_true, ix_nat hlt, Option.bind_some, hat, asLst_list, Option.bind_some, hcl, Option.bind_some]
    simp only [List.getElem?_cons_zero]
    rw [asLst_list, Option.bind_some, Option.bind_some, setC_same hget, wrap_succ (by omega)]
    exact l3_run hr hl d (i + 1) m (by omega) (by omega)

def blocksI : FnI := (fnT 30).getD ⟨[], [], []⟩
theorem blocksI_is : En.fn 30 = some blocksI := by kernel_rfl
theorem blocksI_in : blocksI.tin = bookT := by kernel_rfl
theorem blocksI_out : blocksI.tout = bookT ++ [.lst 8] := by kernel_rfl

noncomputable def blTail : Code := sub (Try.f30.body.getD .skip) [1, 1]
noncomputable def blPs : List SV := Lp.ownIn bookT 0

theorem tail_ev {n : Nat} {e0 e1 e2 e3 : List FV} {c0 c1 c2 c3 : Int} {r : List FV} : evC En1 (evF En1 n) blocksI.ann n blTail (kRet En1 Try.f30 blocksI blPs) (memOf [0, 3] (bookT ++ [.own 8]) [.list 3 e0, .int .i64 c0, .list 3 e1, .int .i64 c1, .list 3 e2, .int .i64 c2, .list 3 e3, .int .i64 c3, .list 8 r]) =
    book_Book_Blocks.l3 n [] n [.list 3 e0, .int .i64 c0, .list 3 e1, .int .i64 c1, .list 3 e2, .int .i64 c2, .list 3 e3, .int .i64 c3, .list 8 r, .int .i64 (r.length : Int), .int .i64 0] := by kernel_rfl

theorem blPs_eq : blPs = [.ptr 1000 0] := by kernel_rfl
theorem blTail_ok : codeOk Try.f30.ntmps (pinsOf 0 blPs) blTail = true := by kernel_rfl

set_option maxHeartbeats 2000000 in
set_option maxRecDepth 100000 in
theorem blocks_pre (B b0 b b2 b3 : Nat) (es : Array MapEntry) (clock : Nat) (w : World) {S : Nat → Prop} (hS : ∀ b, S b → b < w.heap.size)
    {ty : TypeId} (hB : w.heap[B]? = some (.cells #[.map (some b0), .map (some b), .map (some b2), .map (some b3)] ty (0, 0))) (hb : w.heap[b]? = some (.map es clock)) (hs : MapKept.Stamped es clock) {ys : List BlP}
    (hel : es.toList.map (·.val) = ys.map (fun p => p.1.v)) (hok : ∀ p, p ∈ ys → BlP.ok w S p) (hsz : es.size ≤ 1000000) {m : Nat} {r : List FV}
    (hsort : ∀ zs : List BlP, zs.Perm ys → evF En0 m 75 [.list 8 (zs.map BlP.fv), .raw cmpB] = some [.list 8 r]) {ct : Code} {Q : Exit → Act → World → Prop}
    (hK : ∀ (v : Value) (S1 : Nat → Prop) (gr : Gh) (w2 : World) (t9 : Value), v = .slice gr.base r.length gr.cap → VRep w2 S1 gr 8 r → (gr.nil = false → w.heap.size ≤ gr.blk ∧ gr.blk < w2.heap.size ∧ ¬ S1 gr.blk) → Below w.heap.size w w2 →
      (∀ b, S b → S1 b) → (∀ b, S1 b → b < w2.heap.size) → (∀ b, S1 b → S b ∨ w.heap.size ≤ b) →
      ct.wpIn Fence.wide 6 Try.prog Q { tmps := #[.pointer (some ⟨B, 0, none⟩), undef, .slice none 0 0, v, undef, .pointer (some ⟨B, 0, none⟩), .pointer (some ⟨B, 0, none⟩), .pointer (some ⟨B, 1, none⟩), .map (some b), t9, v, undef, undef, undef, undef, undef, undef, undef, undef, undef, undef, undef, undef, undef, undef, undef, undef, undef], defers := [] } w2) :
    Code.wpIn Fence.wide 6 Try.prog ((sub (Try.f30.body.getD .skip) [0]).seq ((sub (Try.f30.body.getD .skip) [1, 0]).seq ct)) Q
      { tmps := #[.pointer (some ⟨B, 0, none⟩), undef, undef, undef, undef, undef, undef, undef, undef, undef, undef, undef, undef, undef, undef, undef, undef, undef, undef, undef, undef, undef, undef, undef, undef, undef, undef, undef], defers := [] } w := by
  dsimp only [Try.f30, Option.getD_some, sub, Nat.beq, cond_true, cond_false, cond]
  have h1 : 1 ≤ 6 := by omega
  have t54 : Fence.wide.fn 54 := trivial
  have t55 : Fence.wide.fn 55 := trivial
  have hbl : b < w.heap.size := (Array.getElem?_eq_some_iff.1 hb).1
  have bx : (w.alloc (.cells #[.map (some b)] 95)).cell? ⟨w.heap.size, 0, none⟩ = some (.map (some b)) := by
    have h : (w.alloc (.cells #[.map (some b)] 95)).heap[w.heap.size]? = some (.cells #[.map (some b)] 95 (0, 0)) := World.alloc_heap_new w _
    simp only [World.cell?]
    rw [h]
    rfl
  have hsz2 : (w.alloc (.cells #[.map (some b)] 95)).heap.size = w.heap.size + 1 := by simp
  have hB2 : Below w.heap.size w (w.alloc (.cells #[.map (some b)] 95)) := (Below.refl _ w).alloc (Nat.le_refl _) _
  have hok2 : ∀ p, p ∈ ys → BlP.ok (w.alloc (.cells #[.map (some b)] 95)) S p := fun p hp => ⟨(hok p hp).1, (hok p hp).2.mono (fun b hb => hB2.block b (hS b hb)) fun _ h => h⟩
  have call : CallsIn Fence.wide 5 Try.prog 54 #[.func (.func 76) #[] #[.pointer (some ⟨w.heap.size, 0, none⟩)], cmpB] (w.alloc (.cells #[.map (some b)] 95)) fun e w' => ∃ (v : Value) (S' : Nat → Prop) (g : Gh), e = .returned v ∧
      v = .slice g.base r.length g.cap ∧ VRep w' S' g 8 r ∧ (g.nil = false → w.heap.size ≤ g.blk ∧ g.blk < w'.heap.size ∧ ¬ S' g.blk) ∧ Below w.heap.size w w' ∧
      (∀ b, S b → S' b) ∧ (∀ b, S' b → b < w'.heap.size) ∧ (∀ b, S' b → S b ∨ w.heap.size ≤ b) := by
    refine (blocks_sorted 5 (Nat.le_refl _) w.heap.size b es clock _ (by omega) (S := S) (fun b h => by have := hS b h; omega) (ys := ys) bx ((Below.heap_alloc w _ b hbl).trans hb) hs hel hok2 hsz hsort).mono ?_
    rintro e w2 ⟨v, S1, gr, rfl, q1, q2, q3, q4, q5, q6, q7⟩
    exact ⟨v, S1, gr, rfl, q1, q2, fun h => ⟨by have := (q3 h).1; omega, (q3 h).2⟩, hB2.trans (q4.mono (by omega)), q5, q6, fun b h => (q7 b h).imp id (by omega)⟩
  clear hsort hok2 hok hel
  have HK := fun v S1 gr w2 t9 h => hK v S1 gr w2 t9 h
  clear hK
  have c0 : w.cell? ⟨B, 1, none⟩ = some (.map (some b)) := by simp [World.cell?, hB]
  clear bx hB2
  gi_wp2_with (first
    | (gi_at_call 55; refine (blocks_values Fence.wide 5 trivial rfl b w).mono ?_; rintro e w2 ⟨rfl, rfl⟩)
    | (gi_at_call 54; refine call.mono ?_; rintro e w2 ⟨v, S1, gr, rfl, q1, q2, q3, q4, q5, q6, q7⟩))
  exact HK _ S1 gr w2 _ rfl q2 q3 q4 q5 q6 q7

set_option maxHeartbeats 2000000 in
theorem blocks_ok {L L' : List FV} (hL : blocksExt L = some L') : Enters En.P 30 ∧ CSpec En.P 30 blocksI L L' := by
  refine ⟨⟨Try.f30, Try.func30, rfl, by kernel_rfl⟩, fun w S V G hS hT hgo => ?_⟩
  rw [blocksI_in] at hT
  obtain ⟨V1, L1, g, g0, g1, g2, g3, ty, e0, e1, e2, e3, c0, c1, c2, c3, hb⟩ := book_rep (T := []) hT
  have hbV := hb.V
  have hbL := hb.L
  obtain ⟨rfl, rfl, hG⟩ := hb.rest
  subst hbV
  rw [hbL] at hL
  simp only [List.append_nil, blocksExt] at hL
  split at hL
  · rename_i hc
    cases hL
    obtain ⟨arr, c, ha, hcc, hst, hz, hall⟩ := hb.m1
    obtain ⟨ys, hy1, hy2, hyok⟩ := block_vals hall hc.2.1
    have hlen : arr.size = e1.length := by have := hall.len; simpa using this.symm
    have hyl : ys.length = e1.length := by have := congrArg List.length hy2; simpa using this.symm
    have hsort : ∀ zs : List BlP, zs.Perm ys → evF En0 21 75 [.list 8 (zs.map BlP.fv), .raw cmpB] = some [.list 8 (isort fless (e1.map entVal))] := fun zs hp => by
      have e : zs.map BlP.fv = (zs.map fun p : BlP => (⟨p.1.w, p.1.a, p.1.b, p.1.c, p.1.d, p.2, p.1.e, p.1.f⟩ : BkF)).map BkF.fv := by rw [List.map_map]; rfl
      have hl : zs.length ≤ 12 := by have := hp.length_eq; omega
      rw [e, sort_blocks (by simpa using hl)]
      have hm := isort_map (less := fless) BkF.fv (zs.map fun p : BlP => (⟨p.1.w, p.1.a, p.1.b, p.1.c, p.1.d, p.2, p.1.e, p.1.f⟩ : BkF))
      rw [← e] at hm
      have : isort fless (zs.map BlP.fv) = isort fless (e1.map entVal) := sorted_one (by rw [hy2]; exact hp.map _) (by rw [List.map_map]; exact hc.2.2.2)
      rw [← this, hm]
      rfl
    have hrl : (isort fless (e1.map entVal)).length ≤ 12 := by
      have := (isort_ok fless_ok (e1.map entVal)).1.length_eq
      rw [this]; simpa using hc.1
    have hrok : ∀ x, x ∈ isort fless (e1.map entVal) → ∃ p : BlP, x = p.fv ∧ p.2.length ≤ 1000000000 := fun x hx => by
      have hx2 := (isort_ok fless_ok (e1.map entVal)).1.mem_iff.1 hx
      have hq := List.all_eq_true.1 hc.2.2.1 x hx2
      rw [hy2] at hx2
      obtain ⟨p, _, rfl⟩ := List.mem_map.1 hx2
      exact ⟨p, rfl, by simpa [qOk, BlP.fv, BlV.fv] using hq⟩
    generalize isort fless (e1.map entVal) = r at *
    refine (callsIn_wide (n := 6)).1 ?_
    obtain ⟨ct, hct⟩ : ∃ ct, blTail = ct := ⟨_, rfl⟩
    refine callsIn_of_wp (c := (sub (Try.f30.body.getD .skip) [0]).seq ((sub (Try.f30.body.getD .skip) [1, 0]).seq ct)) Try.func30 (by rw [← hct]; rfl) trivial ?_ rfl
    generalize hQ : bodyPost Try.prog Try.f30 _ = Q
    simp only [Try.ntmps30, List.size_toArray, List.length_cons, List.length_nil, Nat.reduceAdd, Nat.reduceSub, Array.replicate_succ, Array.replicate_zero, List.push_toArray, List.append_toArray, List.nil_append, List.cons_append]
    refine blocks_pre g.blk g0.blk g1.blk g2.blk g3.blk arr c w hS hb.blk ha hst (ys := ys) hy1 hyok (by omega) hsort ?_
    rintro v S1 gr w2 t9 rfl q2 q3 q4 q5 q6 q7
    refine wpIn_wide.2 ?_
    subst hQ hct
    have hGlen : ∀ (i : Nat) (g' : Gh) (sh : Sh), G[i]? = some (g', sh) → g'.nil = false → g'.blk < w.heap.size := fun i g' sh h hn => (hgo.own i g' sh h hn).1
    have hT2 : TRep w2 S1 (bookT ++ [.own 8]) [.pointer (some ⟨g.blk, 0, none⟩), .slice gr.base r.length gr.cap] ([.list 3 e0, .int .i64 c0, .list 3 e1, .int .i64 c1, .list 3 e2, .int .i64 c2, .list 3 e3, .int .i64 c3] ++ [.list 8 r]) [] (G ++ [(gr, (some (8, r.length), none))]) :=
      book_back (U := [.own 8]) hb hS q4 q5 ⟨gr, r, [], [], rfl, rfl, q2, rfl, rfl, by rw [hG]⟩
    have hg2 : GOk ⟨w, S, Given G, 28, fun t => if t = 0 then some (.pointer (some ⟨g.blk, 0, none⟩)) else none⟩ w2 S1 (G ++ [(gr, (some (8, r.length), none))]) := by
      refine ⟨fun i g' sh h hn => ?_, fun i j g1' g2' s1 s2 h1 h2 n1 n2 he => ?_⟩
      · rw [List.getElem?_append] at h
        split at h
        · obtain ⟨p1, p2, p3⟩ := hgo.own i g' sh h hn
          refine ⟨Nat.lt_of_lt_of_le p1 q4.size, fun hh => ?_, p3⟩
          rcases q7 _ hh with hh | hh
          · exact p2 hh
          · omega
        · have := List.mem_of_getElem? h
          simp only [List.mem_singleton, Prod.mk.injEq] at this
          obtain ⟨rfl, _⟩ := this
          obtain ⟨p1, p2, p3⟩ := q3 hn
          exact ⟨p2, p3, .inr p1⟩
      · rw [List.getElem?_append] at h1 h2
        split at h1
        · split at h2
          · exact hgo.inj i j g1' g2' s1 s2 h1 h2 n1 n2 he
          · have := List.mem_of_getElem? h2
            simp only [List.mem_singleton, Prod.mk.injEq] at this
            obtain ⟨rfl, _⟩ := this
            have := hGlen i g1' s1 h1 n1
            have := (q3 n2).1
            omega
        · split at h2
          · have := List.mem_of_getElem? h1
            simp only [List.mem_singleton, Prod.mk.injEq] at this
            obtain ⟨rfl, _⟩ := this
            have := hGlen j g2' s2 h2 n2
            have := (q3 n1).1
            omega
          · have l1 := (List.getElem?_eq_some_iff.1 h1).1
            have l2 := (List.getElem?_eq_some_iff.1 h2).1
            simp only [List.length_singleton] at l1 l2
            omega
    have hev := (tail_ev (n := 20) (e0 := e0) (e1 := e1) (e2 := e2) (e3 := e3) (c0 := c0) (c1 := c1) (c2 := c2) (c3 := c3) (r := r)).trans (l3_run (n := 19) hrok hrl r.length 0 20 (by omega) (by omega))
    exact tail_ok (E := En1) envOk1 (evF_ok envOk1 ext1_ok 20) (C := ⟨w, S, Given G, 28, fun t => if t = 0 then some (.pointer (some ⟨g.blk, 0, none⟩)) else none⟩) (i := blocksI) (fn := Try.f30) (n := 20) (ps := blPs) (ts := [0, 3]) (nm := namesFrom 1000 6) (V0 := [.pointer (some ⟨g.blk, 0, none⟩)])
      blTail_ok (Nat.le_of_eq Try.ntmps30) rfl rfl
      (fun d hd => by
        rw [blPs_eq] at hd
        simp only [pinsOf, List.mem_singleton] at hd
        exact if_neg hd)
      (fun t v h => by
        simp only at h
        split at h
        · rename_i h0
          subst h0
          cases h
          rfl
        · cases h)
      (fun t v h1 h2 => by
        rw [blPs_eq] at h1
        simp only [pinsOf, List.mem_singleton] at h1
        subst h1
        simp only [if_true]
        simpa using h2)
      (by rw [blPs_eq]; rfl)
      ⟨q4.size, fun b h _ => q4.block b h, q4.os, q4.tape, q4.output, q6, q5, fun b h => (q7 b h).imp id .inr⟩
      hT2 rfl rfl (namesFrom_inj 1000 6) hg2 (.cons rfl (.cons rfl .nil)) hev
  · cases hL

/-! ### sameSteps of one list -/
def sameI : FnI := (fnT 28).getD ⟨[], [], []⟩
theorem sameI_is : En.fn 28 = some sameI := by kernel_rfl
theorem sameI_eq : sameI = ⟨[.lst 7, .lst 7], [.skip, .skip, .bool], []⟩ := by kernel_rfl

theorem st_list : ∀ {xs : List FV}, xs.all stepOk = true → ∃ ys : List StV, xs = ys.map StV.fv
  | [], _ => ⟨[], rfl⟩
  | x :: xs, h => by
    simp only [List.all_cons, Bool.and_eq_true] at h
    obtain ⟨ys, rfl⟩ := st_list h.2
    have h1 := h.1
    unfold stepOk at h1
    split at h1
    · rename_i s a b c d e f
      exact ⟨⟨s, a, b, c, d, e, f⟩ :: ys, rfl⟩
    · cases h1

theorem st_at_row {w : World} {S : Nat → Prop} {b o : Nat} {ys : List StV} (h : Row w S b o 7 (ys.map StV.fv)) {k : Nat} {x : StV} (hk : ys[k]? = some x) {W : World} (hW : W.heap[b]? = w.heap[b]?) : StAt W b (o + k * 7) x := by
  have hx : (ys.map StV.fv)[k]? = some x.fv := by rw [List.getElem?_map, hk]; rfl
  have get : ∀ (j : Nat) (c : FV), x.fv.cells[j]? = some c → ∃ v, W.cell? ⟨b, o + k * 7 + j, none⟩ = some v ∧ FRep w S c v := fun j c hj => by
    obtain ⟨v, h1, h2⟩ := h.2 k j x.fv c hx hj
    refine ⟨v, ?_, h2⟩
    have e : cellAt W b (o + (k * 7 + j)) = cellAt w b (o + (k * 7 + j)) := cellAt_congr hW _
    rw [h1, ← Nat.add_assoc] at e
    exact e
  refine ⟨?_, ?_, ?_, ?_, ?_, ?_, ?_⟩
  · obtain ⟨v, h1, h2⟩ := get 0 _ rfl; cases h2; exact h1
  · obtain ⟨v, h1, h2⟩ := get 1 _ rfl; cases h2; exact h1
  · obtain ⟨v, h1, h2⟩ := get 2 _ rfl; cases h2; exact h1
  · obtain ⟨v, h1, h2⟩ := get 3 _ rfl; cases h2; exact h1
  · obtain ⟨v, h1, h2⟩ := get 4 _ rfl; cases h2; exact h1
  · obtain ⟨v, h1, h2⟩ := get 5 _ rfl; cases h2; exact h1
  · obtain ⟨v, h1, h2⟩ := get 6 _ rfl; cases h2; exact h1

theorem same_ok {L L' : List FV} (hL : sameExt L = some L') : Enters En.P 28 ∧ CSpec En.P 28 sameI L L' := by
  refine ⟨⟨Try.f28, Try.func28, rfl, by kernel_rfl⟩, fun w S V G hS hT hgo => ?_⟩
  rw [sameI_eq] at hT ⊢
  obtain ⟨v, V', x, L0, rfl, rfl, hlf, hfr, h0⟩ := hT
  obtain ⟨v2, V2, x2, L2, rfl, rfl, hlf2, hfr2, h0⟩ := h0
  obtain ⟨rfl, rfl, rfl⟩ := h0
  unfold sameExt at hL
  split at hL
  · rename_i xs xs' heq
    cases heq
    split at hL
    · rename_i hc
      obtain ⟨rfl, hall, hlen⟩ := hc
      cases hL
      obtain ⟨ys, rfl⟩ := st_list hall
      obtain ⟨a1, cap1, b1, o1, rfl, hc1, ha1, hrow1⟩ := FRep.list_iff.1 hfr
      obtain ⟨a2, cap2, b2, o2, rfl, hc2, ha2, hrow2⟩ := FRep.list_iff.1 hfr2
      have back : ∀ {w' : World}, Below w.heap.size w w' →
          ∃ S' fin' R, Ending.returned (.bool true) = .returned (resV R) ∧ TRep w' S' [.skip, .skip, .bool] ([.slice a1 (ys.map StV.fv).length cap1, .slice a2 (ys.map StV.fv).length cap2] ++ R) [.bool true] [] fin' ∧ Keep ⟨w, S, Given [], 0, fun _ => none⟩ w' S' ∧ GOk ⟨w, S, Given [], 0, fun _ => none⟩ w' S' fin' := fun {w'} hB => by
        refine ⟨S, [], [.bool true], rfl, ⟨_, _, rfl, _, _, rfl, .bool true, [], .bool true, [], rfl, rfl, trivial, .bool _, rfl, rfl, rfl⟩, ⟨hB.size, fun b h _ => hB.block b h, hB.os, hB.tape, hB.output, fun b h => Nat.lt_of_lt_of_le (hS b h) hB.size, fun b h => h, fun b h => .inl h⟩, ⟨fun i g sh h => by simp at h, fun i j g g' s s' h => by simp at h⟩⟩
      by_cases hne : ys = []
      · subst hne
        refine (same_nil a1 a2 cap1 cap2 w).mono ?_
        rintro e w' ⟨rfl, hB⟩
        exact back hB
      · obtain ⟨rfl, hS1⟩ := ha1 (by simpa using hne)
        obtain ⟨rfl, hS2⟩ := ha2 (by simpa using hne)
        have hlen' : (ys.map StV.fv).length = ys.length := List.length_map _
        have hw := same_some b1 o1 b2 o2 cap1 cap2 ys w w (Below.refl _ _) (by rw [← hlen']; exact hlen) (fun k x hk W hW => ⟨st_at_row hrow1 hk (hW.block _ (hS _ hS1)), st_at_row hrow2 hk (hW.block _ (hS _ hS2))⟩)
        rw [hlen'] at back ⊢
        refine hw.mono ?_
        rintro e w' ⟨rfl, hB⟩
        exact back hB
    · cases hL
  · cases hL

theorem ext_ok : ExtOk En := by
  intro f g i L L' hf hi hL
  have : extT f = some g := hf
  unfold extT lookN at this
  cases hb : Nat.beq 24 f with
  | true =>
    obtain rfl := Nat.eq_of_beq_eq_true hb
    rw [hb] at this
    simp at this
    subst this
    rw [stepsI_is] at hi
    cases hi
    exact steps_ok hL
  | false =>
    rw [hb, cond_false] at this
    unfold lookN at this
    cases hb : Nat.beq 44 f with
    | true =>
      obtain rfl := Nat.eq_of_beq_eq_true hb
      rw [hb] at this
      simp at this
      subst this
      rw [clone_is] at hi
      cases hi
      exact clone_ok rfl hL
    | false =>
      rw [hb, cond_false] at this
      unfold lookN at this
      cases hb : Nat.beq 63 f with
      | true =>
        obtain rfl := Nat.eq_of_beq_eq_true hb
        rw [hb] at this
        simp at this
        subst this
        rw [childI_is] at hi
        cases hi
        exact child_ok hL
      | false =>
        rw [hb, cond_false] at this
        unfold lookN at this
        cases hb : Nat.beq 30 f with
        | true =>
          obtain rfl := Nat.eq_of_beq_eq_true hb
          rw [hb] at this
          simp at this
          subst this
          rw [blocksI_is] at hi
          cases hi
          exact blocks_ok hL
        | false =>
          rw [hb, cond_false] at this
          unfold lookN at this
          cases hb : Nat.beq 31 f with
          | true =>
            obtain rfl := Nat.eq_of_beq_eq_true hb
            rw [hb] at this
            simp at this
            subst this
            rw [whoI_is] at hi
            cases hi
            exact who_ok hL
          | false =>
            rw [hb, cond_false] at this
            unfold lookN at this
            cases hb : Nat.beq 28 f with
            | true =>
              obtain rfl := Nat.eq_of_beq_eq_true hb
              rw [hb] at this
              simp at this
              subst this
              rw [sameI_is] at hi
              cases hi
              exact same_ok hL
            | false => rw [hb] at this; simp [lookN] at this

end Rf
end
end
