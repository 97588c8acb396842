/- slices.Collect(maps.Values(m)) at steps. -/
import Derived.Test.YtecinekkgnhhoaaIt3
namespace Rf
open Go Go.RowKit Go.Shelf Go.Proofs
attribute [local go_sem] Oper.semAt_some

set_option maxHeartbeats 1000000 in
theorem steps_values (F : Fence) (n : Nat) (h47 : F.fn 47) (hro : F.round = none) (b : Nat) (w : World) :
    CallsIn F n Try.prog 47 #[.map (some b)] w fun e W' => e = .returned (.func (.func 66) #[] #[.pointer (some ⟨w.heap.size, 0, none⟩)]) ∧ W' = w.alloc (.cells #[.map (some b)] 94) := by
  refine callsIn_of_wp Try.func47 rfl h47 ?_ hro
  simp only [Try.ntmps47, List.size_toArray, List.length_cons, List.length_nil, Nat.reduceAdd, Nat.reduceSub, Array.replicate_succ, Array.replicate_zero, List.push_toArray, List.append_toArray, List.nil_append, List.cons_append]
  gi_wp2
  go_ret
  exact ⟨rfl, rfl⟩

set_option maxHeartbeats 1000000 in
theorem steps_collect (F : Fence) (n : Nat) (h64 : F.fn 64) (h81 : F.fn 81) (h66 : F.fn 66) (hro : F.round = none) (hn : 4 ≤ n) (Bm b : Nat) (es : Array MapEntry) (clock : Nat) (w : World) (hBm : Bm < w.heap.size)
    (hm : w.cell? ⟨Bm, 0, none⟩ = some (.map (some b))) (hb : w.heap[b]? = some (.map es clock)) (hs : MapKept.Stamped es clock) (hel : ∀ e, e ∈ es.toList → ∃ x : StV, e.val = x.v)
    (hsz : es.size ≤ 1000000) :
    CallsIn F n Try.prog 64 #[.func (.func 66) #[] #[.pointer (some ⟨Bm, 0, none⟩)]] w fun e W' => ∃ v xs, e = .returned v ∧ (xs.map StV.v).Perm (es.toList.map (·.val)) ∧
      W'.ownsRow w.heap.size 51 7 v xs.length (xs.flatMap StV.l) ∧ (v = .slice none 0 0 ↔ xs = []) ∧ Below w.heap.size w W' := by
  refine callsIn_of_wp Try.func64 rfl h64 ?_ hro
  simp only [Try.ntmps64, List.size_toArray, List.length_cons, List.length_nil, Nat.reduceAdd, Nat.reduceSub, Array.replicate_succ, Array.replicate_zero, List.push_toArray, List.append_toArray, List.nil_append, List.cons_append]
  have h1 : 1 ≤ n := by omega
  gi_wp2_with (gi_at_call 81; refine (steps_append F (n - 1) h81 h66 hro (by omega) Bm b es clock _ hBm hm hb hs hel hsz).mono ?_; rintro e w' ⟨v, xs, rfl, hp, hr, hn', hB⟩)
  go_ret
  exact ⟨v, xs, rfl, hp, hr, hn', hB⟩

end Rf
