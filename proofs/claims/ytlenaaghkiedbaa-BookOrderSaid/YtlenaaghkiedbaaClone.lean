/- slices.Clone of ints: what is frozen, anew. -/
import Derived.Lib.Walk
import Derived.Lib.SliceRun
import Derived.Deep.LoopGhost
import Derived.WalkKit
import Derived.Test.YtlenaaghkiedbaaRfEnvOk
import Derived.Test.YtlenaaghkiedbaaExt
import Derived.Test.YtlenaaghkiedbaaRf29
namespace Rf
open Go Go.RowKit Go.Proofs Go.Lib

theorem ints_info : (Try.prog.info? 3).map (fun i => (i.zero, i.size, i.bytes)) = some (some (.int .i64 0), 1, 8) := by kernel_rfl

set_option maxHeartbeats 2000000 in
set_option maxRecDepth 100000 in
theorem clone_walk (ad : Addr) (n c : Nat) (news : List Value) (w : World) (hl : news.length = n) (h1 : ∀ u, u ∈ news → u.oneCell' = true) (hbig : n * 8 ≤ 140737488355328) (hc : ∀ j u, news[j]? = some u → w.cell? (ad.add j) = some u) :
    Calls Try.prog 44 #[.slice (some ad) n c] w fun e w' => ∃ v', e = .returned v' ∧ w'.ownsRow w.heap.size 3 1 v' n news ∧ Below w.heap.size w w' := by
  obtain ⟨i0, hi, hz0, hz1, hz2⟩ := info_parts ints_info
  have q25 : ∀ (w : World) (a : Option Addr) (n c n' c' : Nat), (Go.binOp .eql 25 (.slice a n c) (.slice none n' c')).run Try.prog w = .ok (.bool a.isNone) w := fun w a n c n' c' => Lib.run_eql_slice_nil w _ _ a n c n' c' Try.underlying25
  have u25 : ∀ w, Sem.run Try.prog (underlying 25) w = .ok (TypeDesc.slice 3) w := run_underlying Try.underlying25
  have A : Aside (∀ j u, news[j]? = some u → w.cell? (ad.add j) = some u) := hc
  have A1 : Aside (∀ u, u ∈ news → u.oneCell' = true) := h1
  clear hc h1
  go_enter Try.func44, Try.ntmps44
  go_wp2_with (at_builtin; refine wpList_append_own _ rfl _ _ 25 rfl w.heap.size 3 i0 (.int .i64 0) 1 8 Try.underlying25 hi hz0 hz1 hz2 rfl (by decide) _ _ _ rfl (World.ownsRow_made w #[] 0 (Nat.le_refl _) (Nat.zero_le _) rfl) ad n c news rfl ?qc1 ?qc2 ?qc3 ?qc4 ?qc5 ?qc6 ?_)
  case qc1 => omega
  case qc2 =>
    intro j u hj
    refine Lib.cell?_alloc_some _ ?_
    exact A.out j u hj
  case qc3 => exact A1.out
  case qc4 => unfold maxLen; omega
  case qc5 => omega
  case qc6 => simp
  intro v' w1 hown hgrow hnil
  go_wp2
  go_ret
  refine ⟨v', rfl, by simpa using hown, ?_⟩
  exact ((Below.refl _ w).alloc (Nat.le_refl _) _).grown hgrow (by simp) (by intro k hk; simp [Value.ownBlock] at hk; omega)

set_option maxHeartbeats 1000000 in
theorem clone_nil (n c : Nat) (w : World) : Calls Try.prog 44 #[.slice none n c] w fun e w' => e = .returned (.slice none 0 0) ∧ w' = w := by
  have q25 : ∀ (w : World) (a : Option Addr) (n c n' c' : Nat), (Go.binOp .eql 25 (.slice a n c) (.slice none n' c')).run Try.prog w = .ok (.bool a.isNone) w := fun w a n c n' c' => Lib.run_eql_slice_nil w _ _ a n c n' c' Try.underlying25
  go_enter Try.func44, Try.ntmps44
  go_wp2
  go_ret
  exact ⟨rfl, rfl⟩

theorem one_flat {w : World} {S : Nat → Prop} {c : FV} {v : Value} (h : FRep w S c v) (hf : c.flat = true) : v.oneCell' = true := by
  cases h with
  | int _ _ => rfl
  | bool _ => rfl
  | str _ => rfl
  | raw v => exact hf
  | agg _ _ _ _ => simp [FV.flat] at hf
  | list _ _ _ _ _ _ _ _ _ _ _ => rfl

/-- what a fresh row of single cells reads as -/
theorem row_own {w : World} {S : Nat → Prop} {base e n : Nat} {v : Value} {news : List Value} {xs : List FV} (h : w.ownsRow base e 1 v n news) (hx : ∀ x, x ∈ xs → El 1 x) (hl : xs.length = n)
    (hr : ∀ (i : Nat) (x c : FV), xs[i]? = some x → x.cells[0]? = some c → ∃ u, news[i]? = some u ∧ FRep w S c u) : FRep w (fun b => S b ∨ v.ownBlock = some b) (.list 1 xs) v := by
  subst hl
  rcases h.2 with ⟨rfl, h0⟩ | ⟨g, cap, cur, rfl, hb, hh, hc, hm, hcs, ht⟩
  · have : xs = [] := List.eq_nil_of_length_eq_zero h0
    subst this
    exact nil_list
  · refine FRep.list_iff.2 ⟨_, _, g, 0, rfl, hc, fun _ => ⟨rfl, .inr rfl⟩, hx, fun i j x c hi hj => ?_⟩
    have hlen := (hx x (List.mem_of_getElem? hi)).1
    have hj0 : j = 0 := by have := (List.getElem?_eq_some_iff.1 hj).1; omega
    subst hj0
    obtain ⟨u, hu, hf⟩ := hr i x c hi hj
    refine ⟨u, ?_, hf.mono (fun _ _ => rfl) fun _ h => .inl h⟩
    rw [cellAt_eq hh]
    have hil := (List.getElem?_eq_some_iff.1 hi).1
    rw [← ht, List.getElem?_take, if_pos (by omega)] at hu
    simpa using hu

theorem clone_ok {E : Env} (hP : E.P = Try.prog) {L L' : List FV} (hL : cloneExt L = some L') : Enters E.P 44 ∧ CSpec E.P 44 ⟨[.lst 1], [.skip, .lst 1], []⟩ L L' := by
  rw [hP]
  refine ⟨⟨Try.f44, Try.func44, rfl, by kernel_rfl⟩, fun w S V G hS hT hgo => ?_⟩
  obtain ⟨v, V', x, L0, rfl, rfl, hlf, hfr, h0⟩ := hT
  obtain ⟨rfl, rfl, rfl⟩ := h0
  unfold cloneExt at hL
  split at hL
  · rename_i xs heq
    cases heq
    split at hL
    · rename_i hlen
      cases hL
      obtain ⟨a, cap, b, o, rfl, hc, ha, hel, hrow⟩ := FRep.list_iff.1 hfr
      have back : ∀ {v' : Value} {w' : World}, Below w.heap.size w w' → FRep w' (fun b => S b ∨ v'.ownBlock = some b) (.list 1 xs) v' → (∀ b, v'.ownBlock = some b → w.heap.size ≤ b ∧ b < w'.heap.size) →
          ∃ S' fin' R, Ending.returned v' = .returned (resV R) ∧ TRep w' S' [.skip, .lst 1] ([.slice a xs.length cap] ++ R) [.list 1 xs] [] fin' ∧ Keep ⟨w, S, Given [], 0, fun _ => none⟩ w' S' ∧ GOk ⟨w, S, Given [], 0, fun _ => none⟩ w' S' fin' := fun {v' w'} hB hf hb => by
        refine ⟨fun b => S b ∨ v'.ownBlock = some b, [], [v'], rfl, ⟨_, [v'], rfl, v', [], .list 1 xs, [], rfl, rfl, rfl, hf, rfl, rfl, rfl⟩, ⟨hB.size, fun b h _ => hB.block b h, hB.os, hB.tape, hB.output, fun b h => ?_, fun b h => .inl h, fun b h => ?_⟩, ⟨fun i g sh h => by simp at h, fun i j g g' s s' h => by simp at h⟩⟩
        · rcases h with h | h
          · exact Nat.lt_of_lt_of_le (hS b h) hB.size
          · exact (hb b h).2
        · rcases h with h | h
          · exact .inl h
          · exact .inr (.inr (hb b h).1)
      cases a with
      | none =>
        have hx : xs = [] := by
          cases xs with
          | nil => rfl
          | cons y l => exact absurd (ha (by simp)).1 (by simp)
        subst hx
        refine (clone_nil 0 cap w).mono ?_
        rintro e w' ⟨rfl, rfl⟩
        exact back (Below.refl _ _) nil_list (fun b h => by simp [Value.ownBlock] at h)
      | some ad =>
        by_cases hne : xs = []
        · subst hne
          refine (clone_walk ad 0 cap [] w rfl (fun u h => by simp at h) (by omega) (fun j u h => by simp at h)).mono ?_
          rintro e w' ⟨v', rfl, hown, hB⟩
          exact back hB (row_own hown hel rfl fun i x c hi => by simp at hi) (fun b hb => hown.lt b hb)
        · obtain ⟨hab, hSb⟩ := ha hne
          cases hab
          have cell : ∀ i x, xs[i]? = some x → ∃ c u, x.cells = [c] ∧ cellAt w b (o + i) = some u ∧ FRep w S c u ∧ u.oneCell' = true := fun i x hi => by
            have he := hel x (List.mem_of_getElem? hi)
            obtain ⟨c, hcs⟩ : ∃ c, x.cells = [c] := List.length_eq_one_iff.1 he.1
            obtain ⟨u, h1, h2⟩ := hrow i 0 x c hi (by rw [hcs]; rfl)
            exact ⟨c, u, hcs, by simpa using h1, h2, one_flat h2 (he.2 c (by rw [hcs]; simp))⟩
          have hnews : ∀ j u, ((List.range xs.length).map fun j => (cellAt w b (o + j)).getD undef)[j]? = some u → j < xs.length ∧ cellAt w b (o + j) = some u := fun j u hj => by
            rw [List.getElem?_map] at hj
            have hjl : j < xs.length := by
              cases hr : (List.range xs.length)[j]? with
              | none => rw [hr] at hj; simp at hj
              | some k => have := (List.getElem?_eq_some_iff.1 hr).1; simpa using this
            rw [List.getElem?_range hjl] at hj
            obtain ⟨c, u', _, h2, _⟩ := cell j xs[j] (List.getElem?_eq_getElem hjl)
            simp only [Option.map_some, h2, Option.getD_some, Option.some.injEq] at hj
            rw [hj] at h2
            exact ⟨hjl, h2⟩
          refine (clone_walk ⟨b, o, none⟩ xs.length cap ((List.range xs.length).map fun j => (cellAt w b (o + j)).getD undef) w (by simp) (fun u hu => ?_) (by omega) (fun j u hj => ?_)).mono ?_
          · obtain ⟨j, hj⟩ := List.mem_iff_getElem?.1 hu
            obtain ⟨hjl, h2⟩ := hnews j u hj
            obtain ⟨c, u', _, h3, _, h4⟩ := cell j xs[j] (List.getElem?_eq_getElem hjl)
            rw [h2] at h3; cases h3; exact h4
          · rw [addr_add]; exact (hnews j u hj).2
          · rintro e w' ⟨v', rfl, hown, hB⟩
            refine back hB (row_own hown hel rfl fun i x c hi hc => ?_) (fun b hb => hown.lt b hb)
            obtain ⟨c', u, hcs, h2, h3, _⟩ := cell i x hi
            rw [hcs] at hc
            simp at hc
            subst hc
            refine ⟨u, ?_, h3.mono (fun b hb => hB.block b (hS b hb)) fun _ h => h⟩
            have hil := (List.getElem?_eq_some_iff.1 hi).1
            rw [List.getElem?_map, List.getElem?_range hil]
            simp [h2]
    · cases hL
  · cases hL

end Rf
