/- slices.SortFunc at steps, at whatever length: by the kit's contract; the closure that compares. -/
import Derived.Shelf.SlSortCmp.WholeK
import Derived.Ground.SlsfProg
import Derived.StillTailTactics
import Derived.Laws.Cover1
import Derived.Test.YtlenaaghkiedbaaIt2
import Derived.Test.YtlenaaghkiedbaaSortL
import Derived.Test.YtlenaaghkiedbaaProg
set_option linter.unusedSimpArgs false
set_option linter.unusedVariables false
namespace Rf
open Go Go.RowKit Go.Shelf Go.Proofs Go.Lib Go.Sort

/-- how two strings compare -/
def cmpZ (s t : ByteArray) : Int := if Op.bytesLess s.toList t.toList then -1 else if Op.bytesLess s.toList t.toList || s.toList == t.toList then 0 else 1

theorem nan_str (s : ByteArray) (w : World) : Calls Try.prog 67 #[.string s] w fun e w' => e = .returned (.bool false) ∧ w' = w := by
  go_enter Try.func67, Try.ntmps67
  go_wp2
  go_ret
  exact ⟨by simp, rfl⟩

theorem nan_int (s : Int) (w : World) : Calls Try.prog 68 #[.int .i64 s] w fun e w' => e = .returned (.bool false) ∧ w' = w := by
  go_enter Try.func68, Try.ntmps68
  go_wp2
  go_ret
  exact ⟨by simp, rfl⟩

set_option maxHeartbeats 1000000 in
theorem cmpI_calls (x y : Int) (w : World) : Calls Try.prog 51 #[.int .i64 x, .int .i64 y] w fun e w' => e = .returned (.int .i64 (Lib.compareInt x y)) ∧ w' = w := by
  go_enter Try.func51, Try.ntmps51
  go_wp2_with (go_at_call 68; refine (nan_int _ _).mono ?_; rintro e w' ⟨rfl, hw⟩; rw [hw])
  all_goals (go_ret; refine ⟨?_, rfl⟩; unfold Lib.compareInt; (repeat' split) <;> first | rfl | (exfalso; omega))

set_option maxHeartbeats 1000000 in
theorem cmpB_calls (x y : ByteArray) (w : World) : Calls Try.prog 50 #[.string x, .string y] w fun e w' => e = .returned (.int .i64 (cmpZ x y)) ∧ w' = w := by
  go_enter Try.func50, Try.ntmps50
  go_wp2_with (go_at_call 67; refine (nan_str _ _).mono ?_; rintro e w' ⟨rfl, hw⟩; rw [hw])
  all_goals (go_ret; refine ⟨?_, rfl⟩; unfold cmpZ; simp_all)

/-- what cmp.Or gives of two -/
def orI (a b : Int) : Int := if a = 0 then b else a

set_option maxHeartbeats 1000000 in
theorem orI_calls (g c : Nat) (a b : Int) (w : World) (h0 : w.cell? ⟨g, 0, none⟩ = some (.int .i64 a)) (h1 : w.cell? ⟨g, 1, none⟩ = some (.int .i64 b)) :
    Calls Try.prog 49 #[.slice (some ⟨g, 0, none⟩) 2 c] w fun e w' => e = .returned (.int .i64 (orI a b)) ∧ w' = w := by
  go_enter Try.func49, Try.ntmps49
  go_wp2
  go_loop [8] (fun i => (i = .int .i64 0) ∨ (i = .int .i64 1 ∧ a = 0) ∨ (i = .int .i64 2 ∧ a = 0 ∧ b = 0)) (fun i => 3 - (RowKit.intOf i).toNat)
  case atStart => exact .inl rfl
  case round =>
    rcases hrel with rfl | ⟨rfl, ha⟩ | ⟨rfl, ha, hb⟩
    · go_wp2
      · go_ret
        exact ⟨by simp_all [orI], rfl⟩
      · go_round
        case rel => exact .inr (.inl ⟨by go_num, by simp_all⟩)
        case measure => simp [RowKit.intOf]
    · go_wp2
      · go_ret
        exact ⟨by simp_all [orI], rfl⟩
      · go_round
        case rel => exact .inr (.inr ⟨by go_num, ha, by simp_all⟩)
        case measure => simp [RowKit.intOf]
    · go_wp2
      go_ret
      exact ⟨by simp_all [orI], rfl⟩

/-- how two steps compare -/
def cfS (x y : StV) : Int := orI (cmpZ x.s y.s) (Lib.compareInt x.a y.a)

theorem two1 (W : World) (o1 o2 : Obj) : ((W.alloc o1).alloc o2).heap[W.heap.size]? = some o1 := by
  have h := World.alloc_heap_new W o1
  have : ((W.alloc o1).alloc o2).heap[W.heap.size]? = (W.alloc o1).heap[W.heap.size]? := by
    show ((W.heap.push o1).push o2)[W.heap.size]? = (W.heap.push o1)[W.heap.size]?
    rw [Array.getElem?_push, if_neg (by simp)]
  rw [this, h]
theorem two2 (W : World) (o1 o2 : Obj) : ((W.alloc o1).alloc o2).heap[W.heap.size + 1]? = some o2 := by
  have := World.alloc_heap_new (W.alloc o1) o2
  simpa using this
theorem two3 (W : World) (o1 o2 : Obj) : (W.alloc o1).alloc o2 = grow W #[o1, o2] := by
  rw [alloc_eq_grow, alloc_eq_grow, grow_grow]; rfl

theorem _root_.Go.World.cell?_drew' (w : World) (a : Addr) : w.drew.cell? a = w.cell? a := rfl

theorem new_cell (w : World) (vals : Array Value) (e : TypeId) (j : Nat) : (w.alloc (.cells vals e)).cell? ⟨w.heap.size, j, none⟩ = vals[j]? := by
  have h := World.alloc_heap_new w (.cells vals e)
  unfold World.cell?
  rw [h]
  rfl

abbrev boxS (x : StV) : Obj := .cells #[.string x.s, .int .i64 x.a, .int .i64 x.b, .int .i64 x.c, .bool x.d, .int .i64 x.e, .int .i64 x.f] 51

set_option maxRecDepth 100000 in
set_option maxHeartbeats 4000000 in
theorem closure48 (x y : StV) (W : World) : Calls Try.prog 48 #[x.v, y.v] W fun e w' => e = .returned (.int .i64 (cfS x y)) ∧ ∃ q os', w' = grow (W.drewN q) os' := by
  go_enter Try.func48, Try.ntmps48
  go_wp2
  refine wp_region_still_tail 10 (by kernel_rfl) (by kernel_rfl) ?_
  simp only [List.take_succ_cons, List.take_zero, List.drop_succ_cons, List.drop_zero]
  have f1 := two1 W (boxS x) (boxS y)
  have f2 := two2 W (boxS x) (boxS y)
  have f3 := two3 W (boxS x) (boxS y)
  generalize (W.alloc (boxS x)).alloc (boxS y) = w2 at f1 f2 f3 ⊢
  change wpStill _ _ w2.drew (fun a' => wpList _ _ _ _ a' w2.drew) _ _
  have c0 : w2.drew.cell? ⟨W.heap.size, 0, none⟩ = some (.string x.s) := by rw [World.cell?_drew']; simp [World.cell?, f1]
  have c1 : w2.drew.cell? ⟨W.heap.size, 1, none⟩ = some (.int .i64 x.a) := by rw [World.cell?_drew']; simp [World.cell?, f1]
  have d0 : w2.drew.cell? ⟨W.heap.size + 1, 0, none⟩ = some (.string y.s) := by rw [World.cell?_drew']; simp [World.cell?, f2]
  have d1 : w2.drew.cell? ⟨W.heap.size + 1, 1, none⟩ = some (.int .i64 y.a) := by rw [World.cell?_drew']; simp [World.cell?, f2]
  have hg0 : w2.drew = grow W.drew #[boxS x, boxS y] := by rw [f3]; rfl
  have hg : Aside (w2.drew = grow W.drew #[boxS x, boxS y]) := hg0
  clear f1 f2 f3 hg0
  generalize w2.drew = w3 at c0 c1 d0 d1 hg ⊢
  still_step
  still_step
  still_step
  still_step
  still_call (cmpB_calls _ _ _)
  still_step
  still_step
  still_step
  still_step
  still_call (cmpI_calls _ _ _)
  refine wpStill_nil ?_
  go_wp2_with (go_at_call 49; refine (orI_calls _ _ _ _ _ (new_cell _ _ _ 0) (new_cell _ _ _ 1)).mono ?_; rintro e w' ⟨rfl, hw⟩; rw [hw])
  go_ret
  have e3 := hg.out
  refine ⟨rfl, 1, #[boxS x, boxS y] ++ #[Obj.cells #[Value.int IntKind.i64 (cmpZ x.s y.s), Value.int IntKind.i64 (compareInt x.a y.a)] 3], ?_⟩
  rw [alloc_eq_grow, e3, grow_grow]
  rfl


/-! ### the kit's sort, laid here -/
end Rf
namespace Go.Proofs
open Go.Shelf
def Try.sortSt_ren : Go.Shelf.Ren := ⟨fun | 6 => 65 | 15 => 83 | 14 => 82 | 28 => 100 | 29 => 101 | 20 => 92 | 21 => 93 | 22 => 94 | 23 => 95 | 24 => 96 | 25 => 97 | 26 => 98 | 27 => 99 | 46 => 119 | 47 => 120 | 48 => 121 | 49 => 122 | 50 => 123 | 57 => 130 | n => n, fun | 22 => 32 | 24 => 51 | 25 => 113 | 3 => 3 | 39 => 146 | 0 => 0 | 53 => 160 | 55 => 162 | 4 => 4 | 46 => 153 | 45 => 152 | 50 => 157 | 5 => 5 | 9 => 9 | 66 => 174 | 70 => 178 | 76 => 184 | 77 => 185 | n => n, fun | n => n⟩
theorem Try.sortSt : Go.Proofs.SlLaysF0.n6 Try.prog Try.sortSt_ren := {
  mixed := by kernel_rfl
  f6 := ⟨Try.f65.name, by decide, Try.func65.trans (congrArg some (by kernel_rfl))⟩
  f14 := ⟨Try.f82.name, by decide, Try.func82.trans (congrArg some (by kernel_rfl))⟩
  f15 := Try.func83.trans (congrArg some (by kernel_rfl))
  f20 := ⟨Try.f92.name, by decide, Try.func92.trans (congrArg some (by kernel_rfl))⟩
  f21 := ⟨Try.f93.name, by decide, Try.func93.trans (congrArg some (by kernel_rfl))⟩
  f22 := ⟨Try.f94.name, by decide, Try.func94.trans (congrArg some (by kernel_rfl))⟩
  f23 := ⟨Try.f95.name, by decide, Try.func95.trans (congrArg some (by kernel_rfl))⟩
  f24 := ⟨Try.f96.name, by decide, Try.func96.trans (congrArg some (by kernel_rfl))⟩
  f25 := ⟨Try.f97.name, by decide, Try.func97.trans (congrArg some (by kernel_rfl))⟩
  f26 := ⟨Try.f98.name, by decide, Try.func98.trans (congrArg some (by kernel_rfl))⟩
  f27 := ⟨Try.f99.name, by decide, Try.func99.trans (congrArg some (by kernel_rfl))⟩
  f28 := Try.func100.trans (congrArg some (by kernel_rfl))
  f29 := Try.func101.trans (congrArg some (by kernel_rfl))
  f46 := ⟨Try.f119.name, by decide, Try.func119.trans (congrArg some (by kernel_rfl))⟩
  f47 := Try.func120.trans (congrArg some (by kernel_rfl))
  f48 := Try.func121.trans (congrArg some (by kernel_rfl))
  f49 := ⟨Try.f122.name, by decide, Try.func122.trans (congrArg some (by kernel_rfl))⟩
  f50 := ⟨Try.f123.name, by decide, Try.func123.trans (congrArg some (by kernel_rfl))⟩
  f57 := ⟨Try.f130.name, by decide, Try.func130.trans (congrArg some (by kernel_rfl))⟩
  t0 := Try.underlying0
  a0 := Try.isAgg0
  z0 := Try.sizeOf0
  v0 := Try.zeroValue0
  t3 := Try.underlying3
  a3 := Try.isAgg3
  z3 := Try.sizeOf3
  v3 := Try.zeroValue3
  t4 := Try.underlying4
  a4 := Try.isAgg4
  z4 := Try.sizeOf4
  v4 := Try.zeroValue4
  t5 := Try.underlying5
  a5 := Try.isAgg5
  z5 := Try.sizeOf5
  v5 := Try.zeroValue5
  t9 := Try.underlying9
  a9 := Try.isAgg9
  z9 := Try.sizeOf9
  v9 := Try.zeroValue9
  t22 := Try.underlying32
  a22 := Try.isAgg32
  z22 := Try.sizeOf32
  v22 := Try.zeroValue32
  t25 := Try.underlying113
  a25 := Try.isAgg113
  z25 := Try.sizeOf113
  v25 := Try.zeroValue113
  t39 := Try.underlying146
  a39 := Try.isAgg146
  z39 := Try.sizeOf146
  v39 := Try.zeroValue146
  t45 := Try.underlying152
  a45 := Try.isAgg152
  z45 := Try.sizeOf152
  v45 := Try.zeroValue152
  t46 := Try.underlying153
  a46 := Try.isAgg153
  z46 := Try.sizeOf153
  v46 := Try.zeroValue153
  t50 := Try.underlying157
  a50 := Try.isAgg157
  z50 := Try.sizeOf157
  v50 := Try.zeroValue157
  t53 := Try.underlying160
  a53 := Try.isAgg160
  z53 := Try.sizeOf160
  v53 := Try.zeroValue160
  t55 := Try.underlying162
  a55 := Try.isAgg162
  z55 := Try.sizeOf162
  v55 := Try.zeroValue162
  t66 := Try.underlying174
  a66 := Try.isAgg174
  z66 := Try.sizeOf174
  v66 := Try.zeroValue174
  t70 := Try.underlying178
  a70 := Try.isAgg178
  z70 := Try.sizeOf178
  v70 := Try.zeroValue178
  t76 := Try.underlying184
  a76 := Try.isAgg184
  z76 := Try.sizeOf184
  v76 := Try.zeroValue184
  t77 := Try.underlying185
  a77 := Try.isAgg185
  z77 := Try.sizeOf185
  v77 := Try.zeroValue185 }

end Go.Proofs
namespace Rf
open Go Go.RowKit Go.Shelf Go.Proofs Go.Lib Go.Sort

instance : Inhabited StV := ⟨⟨⟨#[]⟩, 0, 0, 0, false, 0, 0⟩⟩

theorem bl_iff (a b : ByteArray) : Op.bytesLess a.toList b.toList = true ↔ a.toList < b.toList := by
  rw [Go.Proofs.bytesLess_eq]; simp

theorem cfS_neg (x y : StV) : ltOf cfS x y = kless (x.s, x.a) (y.s, y.a) := by
  rw [Bool.eq_iff_iff, kless_iff]
  unfold ltOf cfS orI cmpZ Lib.compareInt
  have hb := bl_iff x.s y.s
  by_cases h1 : Op.bytesLess x.s.toList y.s.toList = true
  · simp only [h1, if_true]
    simp [hb.1 h1]
  · have h1' : Op.bytesLess x.s.toList y.s.toList = false := by simpa using h1
    have h1n : ¬ x.s.toList < y.s.toList := fun h => h1 (hb.2 h)
    by_cases h2 : x.s.toList = y.s.toList
    · have e : x.s = y.s := list_inj h2
      rw [e] at h1'
      simp only [e, h1', Bool.false_eq_true, if_false, beq_self_eq_true, Bool.or_true, if_true]
      by_cases h3 : x.a < y.a
      · simp [h3, e]
      · by_cases h4 : y.a < x.a
        · simp [h3, h4, e, List.lt_irrefl]
        · simp [h3, h4, e, List.lt_irrefl]
    · have e : x.s ≠ y.s := fun h => h2 (by rw [h])
      have h2' : (x.s.toList == y.s.toList) = false := beq_eq_false_iff_ne.2 h2
      simp [h1', h2', e, h1n]

theorem cfS_swo : SWO (ltOf cfS) where
  irrefl x := by
    rw [cfS_neg]
    cases h : kless (x.s, x.a) (x.s, x.a) with
    | false => rfl
    | true => exact absurd (kless_ok.to _ _ h) (by simp [h])
  trans x y z h1 h2 := by
    rw [cfS_neg] at *
    rw [kless_iff] at *
    simp only at *
    rcases h1 with h1 | ⟨e1, h1⟩ <;> rcases h2 with h2 | ⟨e2, h2⟩
    · exact .inl (List.lt_trans h1 h2)
    · rw [← e2]; exact .inl h1
    · rw [e1]; exact .inl h2
    · exact .inr ⟨e1.trans e2, by omega⟩
  ntrans x y z h1 h2 := by
    rw [cfS_neg] at *
    exact kless_ok.tr _ _ _ h2 h1

/-- a row's cells, behind what the sort leaves -/
theorem onCells_row (F : Array Value) {c : Array Value} (h : F.size ≤ c.size) : (putCells id 0 F c).size = c.size ∧ (putCells id 0 F c).toList.take F.size = F.toList := by
  refine ⟨by simp [putCells], ?_⟩
  apply List.ext_getElem?
  intro i
  rw [List.getElem?_take]
  by_cases hi : i < F.size
  · rw [if_pos hi]
    simp [putCells, hi, Nat.lt_of_lt_of_le hi h]
  · rw [if_neg hi]
    simp [hi]

theorem sortWorld_blk (w : World) (blk n : Nat) (d : Array StV) (os : Array Obj) {c : Array Value} {e : TypeId} {f : Nat × Nat} (h : w.heap[blk]? = some (.cells c e f)) :
    (sortWorldK StV.l 7 w blk 0 n d os).heap[blk]? = some (.cells (putCells id 0 (flatK StV.l 7 d) c) e f) := by
  have hb : blk < w.heap.size := (Array.getElem?_eq_some_iff.1 h).1
  show ((w.heap.modify blk (onCells (putCells id 0 (flatK StV.l 7 d)))) ++ os)[blk]? = _
  rw [Array.getElem?_append_left (by simpa using hb), Array.getElem?_modify, if_pos rfl, h]
  rfl

theorem sortWorld_other (w : World) (blk n k : Nat) (d : Array StV) (os : Array Obj) (hk : k < w.heap.size) (hne : k ≠ blk) :
    (sortWorldK StV.l 7 w blk 0 n d os).heap[k]? = w.heap[k]? := by
  show ((w.heap.modify blk (onCells (putCells id 0 (flatK StV.l 7 d)))) ++ os)[k]? = _
  rw [Array.getElem?_append_left (by simpa using hk), Array.getElem?_modify, if_neg (fun h => hne h.symm)]

theorem flat_get {α β : Type} (f : α → List β) (k : Nat) (hk : ∀ x, (f x).length = k) : ∀ (xs : List α) (i j : Nat), j < k → (xs.flatMap f)[i * k + j]? = (xs[i]?).bind fun x => (f x)[j]?
  | [], i, j, _ => by simp
  | x :: xs, 0, j, h => by
    simp only [List.flatMap_cons, Nat.zero_mul, Nat.zero_add, List.getElem?_cons_zero, Option.bind_some]
    rw [List.getElem?_append_left (by rw [hk]; exact h)]
  | x :: xs, i + 1, j, h => by
    have ih := flat_get f k hk xs i j h
    simp only [List.flatMap_cons, List.getElem?_cons_succ]
    rw [List.getElem?_append_right (by rw [hk, Nat.succ_mul]; omega), hk, ← ih]
    congr 1
    rw [Nat.succ_mul]; omega

theorem flat_len {α β : Type} (f : α → List β) (k : Nat) (hk : ∀ x, (f x).length = k) : ∀ (xs : List α), (xs.flatMap f).length = xs.length * k
  | [] => by simp
  | x :: xs => by rw [List.flatMap_cons, List.length_append, flat_len f k hk xs, hk, List.length_cons, Nat.succ_mul]; omega

theorem flatK_list (d : Array StV) : (flatK StV.l 7 d).toList = d.toList.flatMap StV.l := by
  apply List.ext_getElem?
  intro t
  by_cases ht : t < d.size * 7
  · have hi : t / 7 < d.size := by omega
    have h1 := flat_get StV.l 7 (fun _ => rfl) d.toList (t / 7) (t % 7) (by omega)
    rw [show t / 7 * 7 + t % 7 = t by omega] at h1
    rw [h1]
    have hg := get_flatK StV.l 7 d t ht
    have hs : t < (flatK StV.l 7 d).size := by rw [size_flatK]; exact ht
    rw [getElem!_pos _ t hs, getElem!_pos d _ hi] at hg
    rw [Array.getElem?_toList, Array.getElem?_eq_getElem hs, hg, Array.getElem?_toList, Array.getElem?_eq_getElem hi, Option.bind_some]
    have hj : t % 7 < (StV.l d[t / 7]).length := by show _ < 7; omega
    rw [getElem!_pos (StV.l d[t / 7]) (t % 7) hj, List.getElem?_eq_getElem hj]
  · rw [List.getElem?_eq_none (by rw [Array.length_toList, size_flatK]; omega), List.getElem?_eq_none (by rw [flat_len StV.l 7 (fun _ => rfl), Array.length_toList]; omega)]

end Rf
