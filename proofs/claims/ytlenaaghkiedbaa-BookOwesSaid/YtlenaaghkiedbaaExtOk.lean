/- Contracts that are made by hand: what they say is so. Book.Steps. -/
import Derived.Test.YtlenaaghkiedbaaIt2
import Derived.Test.YtlenaaghkiedbaaSortS
import Derived.Test.YtlenaaghkiedbaaRfEnvOk
import Derived.Test.YtlenaaghkiedbaaRf29
import Derived.KernelRfl
namespace Rf
open Go Go.RowKit Go.Shelf Go.Proofs
attribute [local go_sem] Oper.semAt_some

theorem flat_get {α β : Type} (f : α → List β) (k : Nat) (hk : ∀ x, (f x).length = k) : ∀ (xs : List α) (i j : Nat), j < k → (xs.flatMap f)[i * k + j]? = (xs[i]?).bind fun x => (f x)[j]?
  | [], i, j, _ => by simp
  | x :: xs, 0, j, h => by
    simp only [List.flatMap_cons, Nat.zero_mul, Nat.zero_add, List.getElem?_cons_zero, Option.bind_some]
    rw [List.getElem?_append_left (by rw [hk]; exact h)]
  | x :: xs, i + 1, j, h => by
    have ih := flat_get f k hk xs i j h
    simp only [List.flatMap_cons, List.getElem?_cons_succ]
    rw [List.getElem?_append_right (by rw [hk, Nat.succ_mul]; omega), hk, ← ih]
    congr 1
    rw [Nat.succ_mul]; omega

theorem step_cell (x : StV) {w : World} {S : Nat → Prop} : ∀ (j : Nat) (c : FV), x.fv.cells[j]? = some c → ∃ v, x.l[j]? = some v ∧ FRep w S c v := by
  intro j c h
  simp only [StV.fv, FV.cells] at h
  match j, h with
  | 0, h => simp at h; subst h; exact ⟨_, rfl, .str _⟩
  | 1, h => simp at h; subst h; exact ⟨_, rfl, .int _ _⟩
  | 2, h => simp at h; subst h; exact ⟨_, rfl, .int _ _⟩
  | 3, h => simp at h; subst h; exact ⟨_, rfl, .int _ _⟩
  | 4, h => simp at h; subst h; exact ⟨_, rfl, .bool _⟩
  | 5, h => simp at h; subst h; exact ⟨_, rfl, .int _ _⟩
  | 6, h => simp at h; subst h; exact ⟨_, rfl, .int _ _⟩
  | _ + 7, h => simp at h

theorem step_el (x : StV) : El 7 x.fv := by
  refine ⟨rfl, fun c hc => ?_⟩
  simp only [StV.fv, FV.cells, List.mem_cons, List.not_mem_nil, or_false] at hc
  rcases hc with rfl | rfl | rfl | rfl | rfl | rfl | rfl <;> rfl

theorem steps_row {w : World} {S : Nat → Prop} {g : Nat} {cur : Array Value} {xs : List StV} (hg : w.heap[g]? = some (.cells cur 51 (0, 0))) (ht : cur.toList.take (xs.length * 7) = xs.flatMap StV.l) : Row w S g 0 7 (xs.map StV.fv) := by
  refine ⟨fun x hx => ?_, fun i j x c hi hj => ?_⟩
  · obtain ⟨y, _, rfl⟩ := List.mem_map.1 hx
    exact step_el y
  · rw [List.getElem?_map] at hi
    cases hxi : xs[i]? with
    | none => rw [hxi] at hi; simp at hi
    | some y =>
      rw [hxi] at hi
      simp at hi
      subst hi
      obtain ⟨v, hv, hr⟩ := step_cell (w := w) (S := S) y j c hj
      have hj7 : j < 7 := by have := (List.getElem?_eq_some_iff.1 hv).1; simpa [StV.l] using this
      have hil : i < xs.length := (List.getElem?_eq_some_iff.1 hxi).1
      refine ⟨v, ?_, hr⟩
      rw [Nat.zero_add, cellAt_eq hg]
      have h1 := flat_get StV.l 7 (fun _ => rfl) xs i j hj7
      rw [hxi, Option.bind_some, hv, ← ht, List.getElem?_take] at h1
      rw [if_pos (by omega)] at h1
      simpa using h1

/-- what a sort of a row of the caller's own leaves -/
theorem sort_calls {n₀ m : Nat} {w : World} {v : Value} {xs : List StV} {ys : List FV} {S : Nat → Prop} (hrow : w.ownsRow n₀ 51 7 v xs.length (xs.flatMap StV.l)) (hS : ∀ b, S b → b < n₀) (hn₀ : n₀ ≤ w.heap.size)
    (hev : evF En0 m 65 [.list 7 (xs.map StV.fv), .raw cmpV] = some [.list 7 ys]) :
    Calls Try.prog 65 #[v, cmpV] w fun e w' => (∃ u, e = .returned u) ∧ ∃ (S' : Nat → Prop) (g : Gh), v = .slice g.base ys.length g.cap ∧ VRep w' S' g 7 ys ∧ (g.nil = false → n₀ ≤ g.blk ∧ g.blk < w'.heap.size ∧ ¬ S' g.blk) ∧ Below n₀ w w' ∧
      (∀ b, S b → S' b) ∧ (∀ b, S' b → b < w'.heap.size) ∧ (∀ b, S' b → S b ∨ n₀ ≤ b) := by
  have hi : En0.fn 65 = some ⟨[.own 7, .raw (.func (.func 48) #[] #[])], [.own 7, .skip], []⟩ := by kernel_rfl
  obtain ⟨_, hspec⟩ := evF_ok (E := En0) envOk0 (fun f g i L L' h => by cases h) m 65 _ _ _ hi hev
  obtain ⟨g, hv, hvr, hgb⟩ : ∃ g : Gh, v = .slice g.base xs.length g.cap ∧ VRep w S g 7 (xs.map StV.fv) ∧ (g.nil = false → n₀ ≤ g.blk ∧ g.blk < w.heap.size) := by
    rcases hrow.2 with ⟨rfl, h0⟩ | ⟨gb, cap, cur, rfl, hb, hh, hc, hm, hcs, ht⟩
    · refine ⟨⟨0, 0, 0, true⟩, by rw [h0]; rfl, ⟨by simp [h0], ?_⟩, fun h => by simp at h⟩
      have : xs = [] := List.eq_nil_of_length_eq_zero h0
      simp [this]
    · refine ⟨⟨gb, 0, cap, false⟩, rfl, ⟨by simpa using hc, ?_⟩, fun _ => ⟨hb, (Array.getElem?_eq_some_iff.1 hh).1⟩⟩
      simp only [Bool.false_eq_true, if_false]
      exact ⟨cur, 51, hh, by simp [hcs], steps_row hh ht⟩
  have hS2 : ∀ b, S b → b < w.heap.size := fun b h => Nat.lt_of_lt_of_le (hS b h) hn₀
  have hT : TRep w S [.own 7, .raw (.func (.func 48) #[] #[])] [v, cmpV] [.list 7 (xs.map StV.fv), .raw cmpV] [] [(g, (some (7, xs.length), none))] :=
    ⟨g, xs.map StV.fv, [cmpV], [.raw cmpV], by rw [hv]; simp, rfl, hvr, cmpV, [], .raw cmpV, [], rfl, rfl, ⟨rfl, rfl⟩, .raw _, rfl, rfl, by simp⟩
  have hgo : GOk ⟨w, S, Given [(g, (some (7, xs.length), none))], 0, fun _ => none⟩ w S [(g, (some (7, xs.length), none))] := by
    refine ⟨fun i g' sh h hn => ?_, fun i j g1 g2 s1 s2 h1 h2 _ _ _ => ?_⟩
    · cases i with
      | zero =>
        simp at h
        obtain ⟨rfl, rfl⟩ := h
        exact ⟨(hgb hn).2, fun h => by have := hS _ h; have := (hgb hn).1; omega, .inl ⟨0, _, _, rfl, hn, rfl⟩⟩
      | succ i => simp at h
    · cases i with
      | zero => cases j with
        | zero => rfl
        | succ j => simp at h2
      | succ i => simp at h1
  have hgiv : ∀ b, Given [(g, (some (7, xs.length), none))] b → n₀ ≤ b := fun b hb => by
    obtain ⟨i, g', sh, h, hn, rfl⟩ := hb
    cases i with
    | zero => simp at h; obtain ⟨rfl, _⟩ := h; exact (hgb hn).1
    | succ i => simp at h
  refine (hspec w S [v, cmpV] _ hS2 hT hgo).mono ?_
  rintro e w' ⟨S', fin', R, rfl, hT', hk, hgo'⟩
  obtain ⟨g', ys', V', L', hV, hL, hvr', v2, V2, hV2, h3⟩ := hT'
  obtain ⟨rfl, rfl, rfl⟩ := h3
  simp only [List.cons_append, List.nil_append, List.cons.injEq, FV.list.injEq, true_and] at hV hL
  obtain ⟨rfl, _⟩ := hL
  have h0 := hgo'.own 0 g' _ rfl
  refine ⟨⟨_, rfl⟩, S', g', hV.1, hvr', fun hn => ⟨?_, (h0 hn).1, (h0 hn).2.1⟩, ⟨hk.os, hk.tape, hk.output, hk.size, fun k hlt => hk.block k (Nat.lt_of_lt_of_le hlt hn₀) fun hg => by have := hgiv k hg; omega⟩, hk.smon, hk.bound, fun b hb => ?_⟩
  · rcases (h0 hn).2.2 with h | h
    · exact hgiv _ h
    · exact Nat.le_trans hn₀ h
  · rcases hk.sfrom b hb with h | h | h
    · exact .inl h
    · exact .inr (hgiv b h)
    · exact .inr (Nat.le_trans hn₀ h)

set_option maxHeartbeats 1000000 in
theorem steps_sorted (n : Nat) (hn : 5 ≤ n) (Bm b : Nat) (es : Array MapEntry) (clock : Nat) (w : World) (hBm : Bm < w.heap.size) {S : Nat → Prop} (hS : ∀ b, S b → b < w.heap.size)
    (hm : w.cell? ⟨Bm, 0, none⟩ = some (.map (some b))) (hb : w.heap[b]? = some (.map es clock)) (hs : MapKept.Stamped es clock) (hel : ∀ e, e ∈ es.toList → ∃ x : StV, e.val = x.v)
    (hsz : es.size ≤ 1000000) {m : Nat} {srt : List FV → List FV} (hsort : ∀ xs : List StV, (xs.map StV.v).Perm (es.toList.map (·.val)) → evF En0 m 65 [.list 7 (xs.map StV.fv), .raw cmpV] = some [.list 7 (srt (xs.map StV.fv))]) :
    CallsIn Fence.wide n Try.prog 46 #[.func (.func 66) #[] #[.pointer (some ⟨Bm, 0, none⟩)], cmpV] w fun e w' => ∃ (v : Value) (xs : List StV) (S' : Nat → Prop) (g : Gh), e = .returned v ∧ (xs.map StV.v).Perm (es.toList.map (·.val)) ∧
      v = .slice g.base (srt (xs.map StV.fv)).length g.cap ∧ VRep w' S' g 7 (srt (xs.map StV.fv)) ∧ (g.nil = false → w.heap.size ≤ g.blk ∧ g.blk < w'.heap.size ∧ ¬ S' g.blk) ∧ Below w.heap.size w w' ∧
      (∀ b, S b → S' b) ∧ (∀ b, S' b → b < w'.heap.size) ∧ (∀ b, S' b → S b ∨ w.heap.size ≤ b) := by
  refine callsIn_of_wp Try.func46 rfl trivial ?_ rfl
  simp only [Try.ntmps46, List.size_toArray, List.length_cons, List.length_nil, Nat.reduceAdd, Nat.reduceSub, Array.replicate_succ, Array.replicate_zero, List.push_toArray, List.append_toArray, List.nil_append, List.cons_append]
  have h1 : 1 ≤ n := by omega
  have t64 : Fence.wide.fn 64 := trivial
  have t65 : Fence.wide.fn 65 := trivial
  gi_wp2_with (first
    | (gi_at_call 64; refine (steps_collect Fence.wide (n - 1) trivial trivial trivial rfl (by omega) Bm b es clock _ hBm hm hb hs hel hsz).mono ?_; rintro e w' ⟨v, xs, rfl, hp, hr, hn', hB⟩)
    | (gi_at_call 65; refine (callsIn_wide.2 (sort_calls hr hS hB.size (hsort xs hp))).mono ?_; rintro e w2 ⟨⟨u, rfl⟩, S', g, q1, q2, q3, q4, q5, q6, q7⟩))
  go_ret
  exact ⟨_, xs, S', g, rfl, hp, rfl, q2, q3, hB.trans q4, q5, q6, q7⟩

set_option maxHeartbeats 1000000 in
/-- b.Steps() -/
theorem steps_walk (n : Nat) (hn : 6 ≤ n) (B b b1 b2 b3 : Nat) (es : Array MapEntry) (clock : Nat) (w : World) {S : Nat → Prop} (hS : ∀ b, S b → b < w.heap.size)
    {ty : TypeId} (hB : w.heap[B]? = some (.cells #[.map (some b), .map (some b1), .map (some b2), .map (some b3)] ty (0, 0))) (hb : w.heap[b]? = some (.map es clock)) (hs : MapKept.Stamped es clock) (hel : ∀ e, e ∈ es.toList → ∃ x : StV, e.val = x.v)
    (hsz : es.size ≤ 1000000) {m : Nat} {srt : List FV → List FV} (hsort : ∀ xs : List StV, (xs.map StV.v).Perm (es.toList.map (·.val)) → evF En0 m 65 [.list 7 (xs.map StV.fv), .raw cmpV] = some [.list 7 (srt (xs.map StV.fv))]) :
    CallsIn Fence.wide n Try.prog 24 #[.pointer (some ⟨B, 0, none⟩)] w fun e w' => ∃ (v : Value) (xs : List StV) (S' : Nat → Prop) (g : Gh), e = .returned v ∧ (xs.map StV.v).Perm (es.toList.map (·.val)) ∧
      v = .slice g.base (srt (xs.map StV.fv)).length g.cap ∧ VRep w' S' g 7 (srt (xs.map StV.fv)) ∧ (g.nil = false → w.heap.size ≤ g.blk ∧ g.blk < w'.heap.size ∧ ¬ S' g.blk) ∧ Below w.heap.size w w' ∧
      (∀ b, S b → S' b) ∧ (∀ b, S' b → b < w'.heap.size) ∧ (∀ b, S' b → S b ∨ w.heap.size ≤ b) := by
  refine callsIn_of_wp Try.func24 rfl trivial ?_ rfl
  simp only [Try.ntmps24, List.size_toArray, List.length_cons, List.length_nil, Nat.reduceAdd, Nat.reduceSub, Array.replicate_succ, Array.replicate_zero, List.push_toArray, List.append_toArray, List.nil_append, List.cons_append]
  have h1 : 1 ≤ n := by omega
  have t46 : Fence.wide.fn 46 := trivial
  have t47 : Fence.wide.fn 47 := trivial
  have c0 : w.cell? ⟨B, 0, none⟩ = some (.map (some b)) := by simp [World.cell?, hB]
  have hbl : b < w.heap.size := (Array.getElem?_eq_some_iff.1 hb).1
  have bx : (w.alloc (.cells #[.map (some b)] 94)).cell? ⟨w.heap.size, 0, none⟩ = some (.map (some b)) := by
    have h : (w.alloc (.cells #[.map (some b)] 94)).heap[w.heap.size]? = some (.cells #[.map (some b)] 94 (0, 0)) := World.alloc_heap_new w _
    simp only [World.cell?]
    rw [h]
    rfl
  have hsz2 : (w.alloc (.cells #[.map (some b)] 94)).heap.size = w.heap.size + 1 := by simp
  have hB2 : Below w.heap.size w (w.alloc (.cells #[.map (some b)] 94)) := (Below.refl _ w).alloc (Nat.le_refl _) _
  gi_wp2_with (first
    | (gi_at_call 47; refine (steps_values Fence.wide (n - 1) trivial rfl b w).mono ?_; rintro e w2 ⟨rfl, rfl⟩)
    | (gi_at_call 46; refine (steps_sorted (n - 1) (by omega) w.heap.size b es clock _ (by omega) (S := S) (fun b h => by have := hS b h; omega) bx ((Below.heap_alloc w _ b hbl).trans hb) hs hel hsz hsort).mono ?_; rintro e w2 ⟨v, xs, S', g, rfl, hp, q1, q2, q3, q4, q5, q6, q7⟩))
  go_ret
  exact ⟨_, xs, S', g, rfl, hp, rfl, q2, fun h => ⟨by have := (q3 h).1; omega, (q3 h).2⟩, hB2.trans (q4.mono (by omega)), q5, q6, fun b h => (q7 b h).imp id (by omega)⟩

end Rf
