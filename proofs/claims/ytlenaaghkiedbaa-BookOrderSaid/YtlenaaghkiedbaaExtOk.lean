/- Contracts that are made by hand: what they say is so. Book.Steps. -/
import Derived.Test.YtlenaaghkiedbaaIt2
import Derived.Test.YtlenaaghkiedbaaSortS
import Derived.Test.YtlenaaghkiedbaaSortK
import Derived.Test.YtlenaaghkiedbaaRfEnvOk
import Derived.Test.YtlenaaghkiedbaaRf29
import Derived.KernelRfl
namespace Rf
open Go Go.RowKit Go.Shelf Go.Proofs
attribute [local go_sem] Oper.semAt_some

theorem step_cell (x : StV) {w : World} {S : Nat → Prop} : ∀ (j : Nat) (c : FV), x.fv.cells[j]? = some c → ∃ v, x.l[j]? = some v ∧ FRep w S c v := by
  intro j c h
  simp only [StV.fv, FV.cells] at h
  match j, h with
  | 0, h => simp at h; subst h; exact ⟨_, rfl, .str _⟩
  | 1, h => simp at h; subst h; exact ⟨_, rfl, .int _ _⟩
  | 2, h => simp at h; subst h; exact ⟨_, rfl, .int _ _⟩
  | 3, h => simp at h; subst h; exact ⟨_, rfl, .int _ _⟩
  | 4, h => simp at h; subst h; exact ⟨_, rfl, .bool _⟩
  | 5, h => simp at h; subst h; exact ⟨_, rfl, .int _ _⟩
  | 6, h => simp at h; subst h; exact ⟨_, rfl, .int _ _⟩
  | _ + 7, h => simp at h

theorem step_el (x : StV) : El 7 x.fv := by
  refine ⟨rfl, fun c hc => ?_⟩
  simp only [StV.fv, FV.cells, List.mem_cons, List.not_mem_nil, or_false] at hc
  rcases hc with rfl | rfl | rfl | rfl | rfl | rfl | rfl <;> rfl

theorem steps_row {w : World} {S : Nat → Prop} {g : Nat} {cur : Array Value} {xs : List StV} (hg : w.heap[g]? = some (.cells cur 51 (0, 0))) (ht : cur.toList.take (xs.length * 7) = xs.flatMap StV.l) : Row w S g 0 7 (xs.map StV.fv) := by
  refine ⟨fun x hx => ?_, fun i j x c hi hj => ?_⟩
  · obtain ⟨y, _, rfl⟩ := List.mem_map.1 hx
    exact step_el y
  · rw [List.getElem?_map] at hi
    cases hxi : xs[i]? with
    | none => rw [hxi] at hi; simp at hi
    | some y =>
      rw [hxi] at hi
      simp at hi
      subst hi
      obtain ⟨v, hv, hr⟩ := step_cell (w := w) (S := S) y j c hj
      have hj7 : j < 7 := by have := (List.getElem?_eq_some_iff.1 hv).1; simpa [StV.l] using this
      have hil : i < xs.length := (List.getElem?_eq_some_iff.1 hxi).1
      refine ⟨v, ?_, hr⟩
      rw [Nat.zero_add, cellAt_eq hg]
      have h1 := flat_get StV.l 7 (fun _ => rfl) xs i j hj7
      rw [hxi, Option.bind_some, hv, ← ht, List.getElem?_take] at h1
      rw [if_pos (by omega)] at h1
      simpa using h1

/-- what a sort of a row of the caller's own leaves -/
theorem sort_calls {n₀ m : Nat} {w : World} {v : Value} {xs : List StV} {ys : List FV} {S : Nat → Prop} (hrow : w.ownsRow n₀ 51 7 v xs.length (xs.flatMap StV.l)) (hS : ∀ b, S b → b < n₀) (hn₀ : n₀ ≤ w.heap.size)
    (hev : evF En0 m 65 [.list 7 (xs.map StV.fv), .raw cmpV] = some [.list 7 ys]) :
    Calls Try.prog 65 #[v, cmpV] w fun e w' => (∃ u, e = .returned u) ∧ ∃ (S' : Nat → Prop) (g : Gh), v = .slice g.base ys.length g.cap ∧ VRep w' S' g 7 ys ∧ (g.nil = false → n₀ ≤ g.blk ∧ g.blk < w'.heap.size ∧ ¬ S' g.blk) ∧ Below n₀ w w' ∧
      (∀ b, S b → S' b) ∧ (∀ b, S' b → b < w'.heap.size) ∧ (∀ b, S' b → S b ∨ n₀ ≤ b) := by
  have hi : En0.fn 65 = some ⟨[.own 7, .raw (.func (.func 48) #[] #[])], [.own 7, .skip], []⟩ := by kernel_rfl
  obtain ⟨_, hspec⟩ := evF_ok (E := En0) envOk0 (fun f g i L L' h => by cases h) m 65 _ _ _ hi hev
  obtain ⟨g, hv, hvr, hgb⟩ : ∃ g : Gh, v = .slice g.base xs.length g.cap ∧ VRep w S g 7 (xs.map StV.fv) ∧ (g.nil = false → n₀ ≤ g.blk ∧ g.blk < w.heap.size) := by
    rcases hrow.2 with ⟨rfl, h0⟩ | ⟨gb, cap, cur, rfl, hb, hh, hc, hm, hcs, ht⟩
    · refine ⟨⟨0, 0, 0, true⟩, by rw [h0]; rfl, ⟨by simp [h0], ?_⟩, fun h => by simp at h⟩
      have : xs = [] := List.eq_nil_of_length_eq_zero h0
      simp [this]
    · refine ⟨⟨gb, 0, cap, false⟩, rfl, ⟨by simpa using hc, ?_⟩, fun _ => ⟨hb, (Array.getElem?_eq_some_iff.1 hh).1⟩⟩
      simp only [Bool.false_eq_true, if_false]
      exact ⟨cur, 51, hh, by simp [hcs], steps_row hh ht⟩
  have hS2 : ∀ b, S b → b < w.heap.size := fun b h => Nat.lt_of_lt_of_le (hS b h) hn₀
  have hT : TRep w S [.own 7, .raw (.func (.func 48) #[] #[])] [v, cmpV] [.list 7 (xs.map StV.fv), .raw cmpV] [] [(g, (some (7, xs.length), none))] :=
    ⟨g, xs.map StV.fv, [cmpV], [.raw cmpV], by rw [hv]; simp, rfl, hvr, cmpV, [], .raw cmpV, [], rfl, rfl, ⟨rfl, rfl⟩, .raw _, rfl, rfl, by simp⟩
  have hgo : GOk ⟨w, S, Given [(g, (some (7, xs.length), none))], 0, fun _ => none⟩ w S [(g, (some (7, xs.length), none))] := by
    refine ⟨fun i g' sh h hn => ?_, fun i j g1 g2 s1 s2 h1 h2 _ _ _ => ?_⟩
    · cases i with
      | zero =>
        simp at h
        obtain ⟨rfl, rfl⟩ := h
        exact ⟨(hgb hn).2, fun h => by have := hS _ h; have := (hgb hn).1; omega, .inl ⟨0, _, _, rfl, hn, rfl⟩⟩
      | succ i => simp at h
    · cases i with
      | zero => cases j with
        | zero => rfl
        | succ j => simp at h2
      | succ i => simp at h1
  have hgiv : ∀ b, Given [(g, (some (7, xs.length), none))] b → n₀ ≤ b := fun b hb => by
    obtain ⟨i, g', sh, h, hn, rfl⟩ := hb
    cases i with
    | zero => simp at h; obtain ⟨rfl, _⟩ := h; exact (hgb hn).1
    | succ i => simp at h
  refine (hspec w S [v, cmpV] _ hS2 hT hgo).mono ?_
  rintro e w' ⟨S', fin', R, rfl, hT', hk, hgo'⟩
  obtain ⟨g', ys', V', L', hV, hL, hvr', v2, V2, hV2, h3⟩ := hT'
  obtain ⟨rfl, rfl, rfl⟩ := h3
  simp only [List.cons_append, List.nil_append, List.cons.injEq, FV.list.injEq, true_and] at hV hL
  obtain ⟨rfl, _⟩ := hL
  have h0 := hgo'.own 0 g' _ rfl
  refine ⟨⟨_, rfl⟩, S', g', hV.1, hvr', fun hn => ⟨?_, (h0 hn).1, (h0 hn).2.1⟩, ⟨hk.os, hk.tape, hk.output, hk.size, fun k hlt => hk.block k (Nat.lt_of_lt_of_le hlt hn₀) fun hg => by have := hgiv k hg; omega⟩, hk.smon, hk.bound, fun b hb => ?_⟩
  · rcases (h0 hn).2.2 with h | h
    · exact hgiv _ h
    · exact Nat.le_trans hn₀ h
  · rcases hk.sfrom b hb with h | h | h
    · exact .inl h
    · exact .inr (hgiv b h)
    · exact .inr (Nat.le_trans hn₀ h)


theorem nodup_inj {α β : Type} {f : α → β} : ∀ {l : List α}, (l.map f).Nodup → ∀ a b, a ∈ l → b ∈ l → f a = f b → a = b
  | [], _, a, b, ha, _, _ => by simp at ha
  | x :: l, h, a, b, ha, hb, he => by
    rw [List.map_cons, List.nodup_cons] at h
    rcases List.mem_cons.1 ha with ha' | ha'
    · rcases List.mem_cons.1 hb with hb' | hb'
      · rw [ha', hb']
      · exact absurd (by rw [← ha', he]; exact List.mem_map.2 ⟨b, hb', rfl⟩) h.1
    · rcases List.mem_cons.1 hb with hb' | hb'
      · exact absurd (by rw [← hb', ← he]; exact List.mem_map.2 ⟨a, ha', rfl⟩) h.1
      · exact nodup_inj h.2 a b ha' hb' he

/-- what sorts a list is one list, where keys differ -/
theorem sorted_is {d d' : Array StV} (hd : (d.toList.map StV.key).Nodup) (hp : Go.Sort.PermIn 0 d.size d d') (hs : Go.Sort.SortedIn (ltOf cfS) 0 d.size d') : d'.toList = isort stLess d.toList := by
  obtain ⟨h1, _, h3⟩ := hp
  have e1 : d'.extract 0 d.size = d' := by rw [← h1]; exact Array.extract_size
  have e2 : d.extract 0 d.size = d := Array.extract_size
  rw [e1, e2] at h3
  have ho : LessOk stLess := ⟨fun _ _ _ a b => kless_ok.tr _ _ _ a b, fun _ _ a => kless_ok.to _ _ a⟩
  obtain ⟨p2, s2⟩ := isort_ok ho d.toList
  refine List.Perm.eq_of_pairwise (le := fun a b => stLess b a = false) (fun a b ha hb q1 q2 => ?_) ?_ s2 (h3.trans p2.symm)
  · have k := kless_eq q2 q1
    have ma := h3.mem_iff.1 ha
    have mb := p2.mem_iff.1 hb
    exact nodup_inj hd _ _ ma mb k
  · rw [List.pairwise_iff_getElem]
    intro i j hi hj hij
    have := hs i j (Nat.zero_le _) hij (by rw [← h1]; simpa using hj)
    rw [cfS_neg, getElem!_pos d' j (by simpa using hj), getElem!_pos d' i (by simpa using hi)] at this
    simpa [stLess, StV.key] using this


theorem sort_any {n₀ : Nat} {w : World} {v : Value} {xs : List StV} {S : Nat → Prop} (hrow : w.ownsRow n₀ 51 7 v xs.length (xs.flatMap StV.l)) (hS : ∀ b, S b → b < n₀) (hn₀ : n₀ ≤ w.heap.size)
    (hd : (xs.map StV.key).Nodup) (hsz : xs.length ≤ 1000000) :
    Calls Try.prog 65 #[v, cmpV] w fun e w' => (∃ u, e = .returned u) ∧ ∃ (S' : Nat → Prop) (g : Gh), v = .slice g.base ((isort stLess xs).map StV.fv).length g.cap ∧ VRep w' S' g 7 ((isort stLess xs).map StV.fv) ∧ (g.nil = false → n₀ ≤ g.blk ∧ g.blk < w'.heap.size ∧ ¬ S' g.blk) ∧ Below n₀ w w' ∧
      (∀ b, S b → S' b) ∧ (∀ b, S' b → b < w'.heap.size) ∧ (∀ b, S' b → S b ∨ n₀ ≤ b) := by
  by_cases h12 : xs.length ≤ 12
  · exact sort_calls hrow hS hn₀ (sort_steps h12)
  rcases hrow.2 with ⟨rfl, h0⟩ | ⟨gb, cap, cur, rfl, hb, hh, hc, hm, hcs, ht⟩
  · omega
  have hblk : gb < w.heap.size := (Array.getElem?_eq_some_iff.1 hh).1
  have hfl : (Go.Sort.flatK StV.l 7 xs.toArray).toList = xs.flatMap StV.l := flatK_list _
  have hH : Go.Sort.HoldsK StV.l 7 w gb 0 xs.toArray := by
    intro j hj
    refine ⟨?_, by simp [World.frozen?, hh]⟩
    rw [Nat.zero_add]
    show cellAt w gb j = _
    rw [cellAt_eq hh]
    have h1 : (Go.Sort.flatK StV.l 7 xs.toArray).toList[j]? = some ((Go.Sort.flatK StV.l 7 xs.toArray)[j]!) := by
      rw [getElem!_pos _ j hj, Array.getElem?_toList, Array.getElem?_eq_getElem hj]
    rw [hfl, ← ht, List.getElem?_take] at h1
    rw [if_pos (by rw [Go.Sort.size_flatK] at hj; simpa using hj)] at h1
    simpa using h1
  have eg : ∀ args w, (callFunc 48 args).run Try.prog w = .ok (.enter 48 args) w := enters_of Try.func48 (by kernel_rfl) rfl
  have hcon := AnyQ.slices_SortFunc Try.sortSt 7 Try.isAgg51 Try.sizeOf51 StV.l (fun _ => rfl) (fun x v hv => by simp [StV.l] at hv; rcases hv with rfl | rfl | rfl | rfl | rfl | rfl | rfl <;> rfl) cfS cfS_swo 48 #[] gb 0 cap xs.toArray w eg
    (fun m os dk _ x y => closure48 x y _) hH hblk (by simp; omega)
  change Calls Try.prog 65 #[.slice (some ⟨gb, 0, none⟩) xs.length cap, cmpV] w _ at hcon
  refine hcon.mono ?_
  rintro e w' ⟨rfl, d', n, os, hp, hs, rfl⟩
  have hlist : d'.toList = isort stLess xs := sorted_is (by simpa using hd) hp hs
  have hlen : (isort stLess xs).length = xs.length := by rw [← hlist]; have := hp.1; simpa using this
  have hnew := sortWorld_blk w gb n d' os hh
  have hd's : d'.size = xs.length := by have := hp.1; simpa using this
  have hsize : (Go.Sort.flatK StV.l 7 d').size ≤ cur.size := by rw [Go.Sort.size_flatK, hd's, hcs]; exact Nat.mul_le_mul_right 7 hc
  obtain ⟨z1, z2⟩ := onCells_row (Go.Sort.flatK StV.l 7 d') hsize
  have hwsz : w.heap.size ≤ (sortWorldK StV.l 7 w gb 0 n d' os).heap.size := size_sortWorldK_c StV.l 7 w gb 0 n d' os
  refine ⟨⟨_, rfl⟩, S, ⟨gb, 0, cap, false⟩, by rw [List.length_map, hlen]; rfl, ⟨by simp [hlen]; exact hc, ?_⟩, fun _ => ⟨hb, Nat.lt_of_lt_of_le hblk hwsz, fun h => absurd (hS _ h) (Nat.not_lt.2 hb)⟩, ⟨rfl, rfl, rfl, hwsz, fun k hk => sortWorld_other w gb n k d' os (by omega) (by omega)⟩, fun _ h => h, fun b h => by have := hS b h; omega, fun _ h => .inl h⟩
  simp only [Bool.false_eq_true, if_false]
  refine ⟨_, 51, hnew, by rw [z1, hcs]; simp, ?_⟩
  refine steps_row hnew ?_
  rw [← hlist]
  have : d'.toList.length * 7 = (Go.Sort.flatK StV.l 7 d').size := by rw [Go.Sort.size_flatK]; simp
  rw [this, z2, flatK_list]

theorem sort_srt {srt : List FV → List FV} {n₀ : Nat} {w : World} {v : Value} {xs : List StV} {S : Nat → Prop} (hrow : w.ownsRow n₀ 51 7 v xs.length (xs.flatMap StV.l)) (hS : ∀ b, S b → b < n₀) (hn₀ : n₀ ≤ w.heap.size)
    (hd : (xs.map StV.key).Nodup) (hsz : xs.length ≤ 1000000) (hsort : srt (xs.map StV.fv) = (isort stLess xs).map StV.fv) :
    Calls Try.prog 65 #[v, cmpV] w fun e w' => (∃ u, e = .returned u) ∧ ∃ (S' : Nat → Prop) (g : Gh), v = .slice g.base (srt (xs.map StV.fv)).length g.cap ∧ VRep w' S' g 7 (srt (xs.map StV.fv)) ∧ (g.nil = false → n₀ ≤ g.blk ∧ g.blk < w'.heap.size ∧ ¬ S' g.blk) ∧ Below n₀ w w' ∧
      (∀ b, S b → S' b) ∧ (∀ b, S' b → b < w'.heap.size) ∧ (∀ b, S' b → S b ∨ n₀ ≤ b) := by
  rw [hsort]
  exact sort_any hrow hS hn₀ hd hsz

set_option maxHeartbeats 1000000 in
theorem steps_sorted (n : Nat) (hn : 5 ≤ n) (Bm b : Nat) (es : Array MapEntry) (clock : Nat) (w : World) (hBm : Bm < w.heap.size) {S : Nat → Prop} (hS : ∀ b, S b → b < w.heap.size)
    (hm : w.cell? ⟨Bm, 0, none⟩ = some (.map (some b))) (hb : w.heap[b]? = some (.map es clock)) (hs : MapKept.Stamped es clock) (hel : ∀ e, e ∈ es.toList → ∃ x : StV, e.val = x.v)
    (hsz : es.size ≤ 1000000) {srt : List FV → List FV} (hsort : Aside (∀ xs : List StV, srt (xs.map StV.fv) = (isort stLess xs).map StV.fv)) (hkey : ∀ xs : List StV, (xs.map StV.v).Perm (es.toList.map (·.val)) → (xs.map StV.key).Nodup) :
    CallsIn Fence.wide n Try.prog 46 #[.func (.func 66) #[] #[.pointer (some ⟨Bm, 0, none⟩)], cmpV] w fun e w' => ∃ (v : Value) (xs : List StV) (S' : Nat → Prop) (g : Gh), e = .returned v ∧ (xs.map StV.v).Perm (es.toList.map (·.val)) ∧
      v = .slice g.base (srt (xs.map StV.fv)).length g.cap ∧ VRep w' S' g 7 (srt (xs.map StV.fv)) ∧ (g.nil = false → w.heap.size ≤ g.blk ∧ g.blk < w'.heap.size ∧ ¬ S' g.blk) ∧ Below w.heap.size w w' ∧
      (∀ b, S b → S' b) ∧ (∀ b, S' b → b < w'.heap.size) ∧ (∀ b, S' b → S b ∨ w.heap.size ≤ b) := by
  refine callsIn_of_wp Try.func46 rfl trivial ?_ rfl
  simp only [Try.ntmps46, List.size_toArray, List.length_cons, List.length_nil, Nat.reduceAdd, Nat.reduceSub, Array.replicate_succ, Array.replicate_zero, List.push_toArray, List.append_toArray, List.nil_append, List.cons_append]
  have h1 : 1 ≤ n := by omega
  have t64 : Fence.wide.fn 64 := trivial
  have t65 : Fence.wide.fn 65 := trivial
  gi_wp2_with (first
    | (gi_at_call 64; refine (steps_collect Fence.wide (n - 1) trivial trivial trivial rfl (by omega) Bm b es clock _ hBm hm hb hs hel hsz).mono ?_; rintro e w' ⟨v, xs, rfl, hp, hr, hn', hB⟩)
    | (gi_at_call 65; refine (callsIn_wide.2 (sort_srt hr hS hB.size (hkey xs hp) (by have := hp.length_eq; simp at this; omega) (hsort.out xs))).mono ?_; rintro e w2 ⟨⟨u, rfl⟩, S', g, q1, q2, q3, q4, q5, q6, q7⟩))
  go_ret
  exact ⟨_, xs, S', g, rfl, hp, rfl, q2, q3, hB.trans q4, q5, q6, q7⟩

set_option maxHeartbeats 1000000 in
/-- b.Steps() -/
theorem steps_walk (n : Nat) (hn : 6 ≤ n) (B b b1 b2 b3 : Nat) (es : Array MapEntry) (clock : Nat) (w : World) {S : Nat → Prop} (hS : ∀ b, S b → b < w.heap.size)
    {ty : TypeId} (hB : w.heap[B]? = some (.cells #[.map (some b), .map (some b1), .map (some b2), .map (some b3)] ty (0, 0))) (hb : w.heap[b]? = some (.map es clock)) (hs : MapKept.Stamped es clock) (hel : ∀ e, e ∈ es.toList → ∃ x : StV, e.val = x.v)
    (hsz : es.size ≤ 1000000) {srt : List FV → List FV} (hsort : Aside (∀ xs : List StV, srt (xs.map StV.fv) = (isort stLess xs).map StV.fv)) (hkey : ∀ xs : List StV, (xs.map StV.v).Perm (es.toList.map (·.val)) → (xs.map StV.key).Nodup) :
    CallsIn Fence.wide n Try.prog 24 #[.pointer (some ⟨B, 0, none⟩)] w fun e w' => ∃ (v : Value) (xs : List StV) (S' : Nat → Prop) (g : Gh), e = .returned v ∧ (xs.map StV.v).Perm (es.toList.map (·.val)) ∧
      v = .slice g.base (srt (xs.map StV.fv)).length g.cap ∧ VRep w' S' g 7 (srt (xs.map StV.fv)) ∧ (g.nil = false → w.heap.size ≤ g.blk ∧ g.blk < w'.heap.size ∧ ¬ S' g.blk) ∧ Below w.heap.size w w' ∧
      (∀ b, S b → S' b) ∧ (∀ b, S' b → b < w'.heap.size) ∧ (∀ b, S' b → S b ∨ w.heap.size ≤ b) := by
  refine callsIn_of_wp Try.func24 rfl trivial ?_ rfl
  simp only [Try.ntmps24, List.size_toArray, List.length_cons, List.length_nil, Nat.reduceAdd, Nat.reduceSub, Array.replicate_succ, Array.replicate_zero, List.push_toArray, List.append_toArray, List.nil_append, List.cons_append]
  have h1 : 1 ≤ n := by omega
  have t46 : Fence.wide.fn 46 := trivial
  have t47 : Fence.wide.fn 47 := trivial
  have c0 : w.cell? ⟨B, 0, none⟩ = some (.map (some b)) := by simp [World.cell?, hB]
  have hbl : b < w.heap.size := (Array.getElem?_eq_some_iff.1 hb).1
  have bx : (w.alloc (.cells #[.map (some b)] 94)).cell? ⟨w.heap.size, 0, none⟩ = some (.map (some b)) := by
    have h : (w.alloc (.cells #[.map (some b)] 94)).heap[w.heap.size]? = some (.cells #[.map (some b)] 94 (0, 0)) := World.alloc_heap_new w _
    simp only [World.cell?]
    rw [h]
    rfl
  have hsz2 : (w.alloc (.cells #[.map (some b)] 94)).heap.size = w.heap.size + 1 := by simp
  have hB2 : Below w.heap.size w (w.alloc (.cells #[.map (some b)] 94)) := (Below.refl _ w).alloc (Nat.le_refl _) _
  gi_wp2_with (first
    | (gi_at_call 47; refine (steps_values Fence.wide (n - 1) trivial rfl b w).mono ?_; rintro e w2 ⟨rfl, rfl⟩)
    | (gi_at_call 46; refine (steps_sorted (n - 1) (by omega) w.heap.size b es clock _ (by omega) (S := S) (fun b h => by have := hS b h; omega) bx ((Below.heap_alloc w _ b hbl).trans hb) hs hel hsz hsort hkey).mono ?_; rintro e w2 ⟨v, xs, S', g, rfl, hp, q1, q2, q3, q4, q5, q6, q7⟩))
  go_ret
  exact ⟨_, xs, S', g, rfl, hp, rfl, q2, fun h => ⟨by have := (q3 h).1; omega, (q3 h).2⟩, hB2.trans (q4.mono (by omega)), q5, q6, fun b h => (q7 b h).imp id (by omega)⟩

end Rf
