/- Texts of this work put together: It1, Stp, Ps1, Ps2. -/
import Derived.Sort.MapsRangeIn
import Derived.MapKept
import Derived.Maps.OwnIn
import Derived.Test.YtebaohjeodeaoaaGreatDoorMK
import Derived.Test.YtebaohjeodeaoaaGreatDoorMF
import Derived.KernelRfl
import Derived.RangeFuncNested
import Derived.Shelf.Abstract
import Derived.WalkKit
import Derived.OwnWalkIn
import Derived.TacticsInMore
import Derived.LoopNIn
import Derived.LoopIn

section
/- A range over a map, entry by entry as they lie: the operations inside a fence, and what has come. -/
namespace Rf
open Go
open Go.ChangeMaps (setBlock)

/-- A range over the map in block b, its iterator in block r, under way. -/
structure Rg (w : World) (b r : Nat) (es : Array MapEntry) (clock : Nat) (seen : Array Nat) : Prop where
  m : w.heap[b]? = some (.map es clock)
  i : w.heap[r]? = some (.mapIter (some b) clock seen clock)
  s : MapKept.Stamped es clock

theorem Rg.ne {w : World} {b r : Nat} {es : Array MapEntry} {clock : Nat} {seen : Array Nat} (h : Rg w b r es clock seen) : r ≠ b := by
  intro e
  have := h.i
  rw [e, h.m] at this
  cases this

/-- What has come, and what is to come. -/
def Got (es : Array MapEntry) (seen : Array Nat) (xs : List Value) : Prop := (xs ++ (leftOf es seen).toList.map (·.val)).Perm (es.toList.map (·.val))

theorem Got.start (es : Array MapEntry) : Got es #[] [] := by
  have : (leftOf es #[]).toList = es.toList := by
    unfold leftOf
    rw [Array.toList_filter]
    exact List.filter_eq_self.2 fun _ _ => by simp
  rw [Got, this]
  exact List.Perm.refl _

theorem Got.stop {es : Array MapEntry} {seen : Array Nat} {xs : List Value} (h : Got es seen xs) (h0 : (leftOf es seen).size = 0) : xs.Perm (es.toList.map (·.val)) := by
  have : leftOf es seen = #[] := Array.eq_empty_of_size_eq_zero h0
  unfold Got at h
  rw [this] at h
  simpa using h

theorem left_push {es : Array MapEntry} {seen : Array Nat} {e : MapEntry} (hn : (es.toList.map (·.born)).Nodup) (he : e ∈ (leftOf es seen).toList) : (leftOf es seen).toList.Perm (e :: (leftOf es (seen.push e.born)).toList) := by
  unfold leftOf at he ⊢
  rw [Array.toList_filter] at he ⊢
  rw [Array.toList_filter]
  generalize es.toList = l at hn he ⊢
  induction l with
  | nil => simp at he
  | cons x l ih =>
    rw [List.map_cons, List.nodup_cons] at hn
    obtain ⟨hx, hn⟩ := hn
    simp only [List.filter_cons] at he ⊢
    by_cases hxe : x = e
    · subst hxe
      have hnot : seen.contains x.born = false := by
        cases hc : seen.contains x.born with
        | false => rfl
        | true =>
          rw [hc] at he
          simp only [Bool.not_true, Bool.false_eq_true, if_false] at he
          exact absurd (List.mem_map.2 ⟨x, (List.mem_filter.1 he).1, rfl⟩) hx
      rw [hnot]
      have hp : (seen.push x.born).contains x.born = true := by simp
      rw [hp]
      simp only [Bool.not_false, if_true, Bool.not_true, Bool.false_eq_true, if_false]
      have : l.filter (fun e => !(seen.push x.born).contains e.born) = l.filter (fun e => !seen.contains e.born) := by
        refine List.filter_congr fun y hy => ?_
        have hne' : ¬ y.born = x.born := fun q => hx (by rw [← q]; exact List.mem_map.2 ⟨y, hy, rfl⟩)
        simp [hne']
      rw [this]
    · have hel : e ∈ l.filter (fun e => !seen.contains e.born) := by
        split at he
        · rcases List.mem_cons.1 he with h | h
          · exact absurd h.symm hxe
          · exact h
        · exact he
      have hne : ¬ x.born = e.born := fun q => hx (by rw [q]; exact List.mem_map.2 ⟨e, (List.mem_filter.1 hel).1, rfl⟩)
      have hc : (seen.push e.born).contains x.born = seen.contains x.born := by simp [hne]
      rw [hc]
      have := ih hn hel
      cases hs : seen.contains x.born with
      | true => simpa using this
      | false =>
        simp only [Bool.not_false, if_true]
        exact (this.cons x).trans (List.Perm.swap _ _ _)

theorem Got.step {es : Array MapEntry} {seen : Array Nat} {xs : List Value} {e : MapEntry} (h : Got es seen xs) (hn : (es.toList.map (·.born)).Nodup) (he : e ∈ (leftOf es seen).toList) : Got es (seen.push e.born) (xs ++ [e.val]) := by
  have := (left_push hn he).map (·.val)
  unfold Got at h ⊢
  refine List.Perm.trans ?_ h
  rw [List.append_assoc]
  exact (List.Perm.append_left xs (by simpa using this.symm))

theorem Got.more {es : Array MapEntry} {seen : Array Nat} {xs : List Value} {e : MapEntry} (h : Got es seen xs) (he : e ∈ (leftOf es seen).toList) : xs.length < es.size := by
  have h1 := h.length_eq
  have h2 := List.length_pos_of_mem he
  simp at h1 h2
  omega

section
variable {F : Fence} {n : Nat} {P : Program} (w : World) {ops : Array Oper} {rest : List Oper} {o : Oper} {a : Act} {Q : Exit → Act → World → Prop}

/-- 'range m'. -/
theorem wpListIn_range_rg (hg : o.guard = none) (m : Operand) (t : TypeId) (hop : o.op = Op.range t m) (k e : TypeId) (ht : P.underlying t = some (.map k e)) (b : Nat) (es : Array MapEntry) (clock : Nat)
    (hm : a.eval m = .map (some b)) (hb : w.heap[b]? = some (.map es clock)) (hs : MapKept.Stamped es clock)
    (hK : ∀ w', Rg w' b w.heap.size es clock #[] → w.grownBy w' none → w'.heap.size = w.heap.size + 1 → wpListIn F n P ops Q rest (a.put o.dst (.pointer (some ⟨w.heap.size, 0, none⟩))) w') :
    wpListIn F n P ops Q (o :: rest) a w := by
  refine wpListIn_plain hg fun K' hK' => ?_
  have hlt : b < w.heap.size := (Array.getElem?_eq_some_iff.1 hb).1
  have hrun := run_range_map (P := P) w t k e b es clock ht hb
  unfold Oper.wpIn
  refine ⟨?_, ?_⟩
  · simp [Oper.about, hop]
  · rw [Oper.semAt_plain F _ _ (by rw [hop]; intro c hc'; cases hc')]
    simp [execOp, hop, hm, hrun, Result.andThen]
    exact hK' _ _ (hK _ ⟨((MapKept.heap_alloc w _).2 b hlt).trans hb, (MapKept.heap_alloc w _).1, hs⟩ (World.grownBy_alloc w _ none) (by simp))

/-- The step. -/
theorem wpListIn_next_rg (hg : o.guard = none) (it : Operand) (hop : o.op = Op.next it false) (b r : Nat) (es : Array MapEntry) (clock : Nat) (seen : Array Nat)
    (hit : a.eval it = .pointer (some ⟨r, 0, none⟩)) (h : Rg w b r es clock seen)
    (hDone : (leftOf es seen).size = 0 → wpListIn F n P ops Q rest (a.put o.dst (.tuple #[.bool false])) w)
    (hMore : ∀ (key val : Value) (e : MapEntry) (w' : World), e ∈ (leftOf es seen).toList → e.key = key → e.val = val → Rg w' b r es clock (seen.push e.born) → w.grownBy w' (some r) → w'.heap.size = w.heap.size →
      (Instr.entry (.pointer (some ⟨r, 0, none⟩))).run P w' = .ok (.tuple #[key, val]) w' → wpListIn F n P ops Q rest (a.put o.dst (.tuple #[.bool true, key, val])) w') :
    wpListIn F n P ops Q (o :: rest) a w := by
  refine wpListIn_plain hg fun K' hK' => ?_
  unfold Oper.wpIn
  refine ⟨by simp [Oper.about, hop], ?_⟩
  rw [Oper.semAt_plain F _ _ (by rw [hop]; intro c hc'; cases hc')]
  have hst := (MapKept.stamped_iff es clock).1 h.s
  rcases run_next_at (P := P) w o.type r b clock clock seen es clock h.i h.m hst.1 (Nat.le_refl _) with ⟨h0, hrun⟩ | ⟨e, he, w1, hal, hrun⟩
  · simp [execOp, hop, hit, hrun, Result.andThen]
    exact hK' _ _ (hDone h0)
  · have hr1 : w1.heap[r]? = some (.mapIter (some b) clock seen clock) := by rcases hal with rfl | rfl <;> exact h.i
    have hb1 : w1.heap[b]? = some (.map es clock) := by rcases hal with rfl | rfl <;> exact h.m
    have hlt : r < w1.heap.size := (Array.getElem?_eq_some_iff.1 hr1).1
    have hs1 : (setBlock w1 r (.mapIter (some b) clock (seen.push e.born) clock)).heap[r]? = some (.mapIter (some b) clock (seen.push e.born) clock) := by simp [setBlock, hlt]
    have hs2 : ∀ k, k ≠ r → (setBlock w1 r (.mapIter (some b) clock (seen.push e.born) clock)).heap[k]? = w1.heap[k]? := fun k hk => by
      simp only [setBlock]
      rw [Array.getElem?_setIfInBounds_ne (Ne.symm hk)]
    have hb2 := (hs2 b (fun q => h.ne q.symm)).trans hb1
    simp [execOp, hop, hit, hrun, Result.andThen]
    refine hK' _ _ (hMore e.key e.val e _ he rfl rfl ⟨hb2, hs1, h.s⟩ ?_ ?_ (run_entry_at _ r b clock seen es clock e hs1 hb2 (mem_left he).1 hst.2.1))
    · rcases hal with rfl | rfl <;> exact ⟨rfl, rfl, rfl, by simp [setBlock], fun i _ hi => hs2 i (fun e1 => hi (by rw [e1]))⟩
    · rcases hal with rfl | rfl <;> simp [setBlock]

end

/-- how many are to come, read off the world -/
def rgLeft (w : World) (b r : Nat) : Nat :=
  match w.heap[b]?, w.heap[r]? with
  | some (.map es _), some (.mapIter _ _ seen _) => (leftOf es seen).size
  | _, _ => 0

theorem Rg.left {w : World} {b r : Nat} {es : Array MapEntry} {clock : Nat} {seen : Array Nat} (h : Rg w b r es clock seen) : rgLeft w b r = (leftOf es seen).size := by
  simp [rgLeft, h.m, h.i]

theorem Rg.walks {w w' : World} {b r : Nat} {es : Array MapEntry} {clock : Nat} {seen : Array Nat} (h : Rg w b r es clock seen) (hm : w'.heap[b]? = w.heap[b]?) (hi : w'.heap[r]? = w.heap[r]?) : Rg w' b r es clock seen :=
  ⟨hm.trans h.m, hi.trans h.i, h.s⟩

end Rf
end

section
/- Operations on maps in a walk, by what they run to; a range over a map; that all has come. -/
namespace Rf
open Go

section
variable {F : Fence} {n : Nat} {P : Program} {w w' : World} {ops : Array Oper} {rest : List Oper} {o : Oper} {a : Act} {Q : Exit → Act → World → Prop}

theorem wpListIn_lookup_rf (hg : o.guard = none) (t : TypeId) (m k : Operand) (hop : o.op = Op.lookup t m k false) {mv kv v : Value} (hm : a.eval m = mv) (hk : a.eval k = kv) (hrun : (Instr.lookup t mv kv false).run P w = .ok v w)
    (hK : wpListIn F n P ops Q rest (a.put o.dst v) w) : wpListIn F n P ops Q (o :: rest) a w := by
  refine wpListIn_plain hg fun K' hK' => ?_
  unfold Oper.wpIn
  refine ⟨by simp [Oper.about, hop], ?_⟩
  rw [Oper.semAt_plain F _ _ (by rw [hop]; intro c hc'; cases hc')]
  simp [execOp, hop, hm, hk, hrun, Result.andThen]
  exact hK' _ _ hK

theorem wpListIn_update_rf (hg : o.guard = none) (t : TypeId) (m k x : Operand) (hop : o.op = Op.mapUpdate t m k x) {mv kv xv : Value} (hm : a.eval m = mv) (hk : a.eval k = kv) (hx : a.eval x = xv) (hrun : (Instr.mapUpdate t mv kv xv).run P w = .ok () w')
    (hK : wpListIn F n P ops Q rest (a.put o.dst undef) w') : wpListIn F n P ops Q (o :: rest) a w := by
  refine wpListIn_plain hg fun K' hK' => ?_
  unfold Oper.wpIn
  refine ⟨by simp [Oper.about, hop], ?_⟩
  rw [Oper.semAt_plain F _ _ (by rw [hop]; intro c hc'; cases hc')]
  simp [execOp, hop, hm, hk, hx, hrun, Result.andThen]
  exact hK' _ _ hK

end
end Rf
end

section
/- Ledger.Post: the round's work, and what is behind the range, by leaves. -/
set_option linter.unusedSimpArgs false
set_option linter.unusedVariables false
namespace Rf
open Go

abbrev zz : FV := .agg [.list 1 [], .bool false]
/-- a ledger, by tokens -/
abbrev ledT : List Tok := [.obj 2, .mapt false [.str] zz, .int .i64]
abbrev rndT : List Tok := [.obj 2, .mapt false [.str] zz, .int .i64, .str, .obj 2, .lst 1, .bool]
noncomputable def pR7 : Code := sub ((Go.Proofs.Tryz.f22).body.getD .skip) [1, 1, 1, 0, 1, 0, 0, 1, 1, 0, 1]
noncomputable def pZ : Code := sub ((Go.Proofs.Tryz.f22).body.getD .skip) [1, 1, 1, 1]
def postI : FnI := ⟨ledT ++ [.lst 2], ledT ++ [.skip, .int .i64], []⟩
theorem postI_is : fnT 22 = some postI := by kernel_rfl
def postPs : List SV := [.ptr 1000 0, .dead]

theorem r7_ev {n : Nat} {es : List FV} {c k : Int} {q : ByteArray} {l : List FV} {b : Bool} : evC EnB (evF EnB n) [] n pR7 (kMid [0] ledT) (memOf [0, 7, 8] rndT [.list 3 es, .int .i64 c, .int .i64 k, .str q, .list 1 l, .bool b]) =
    (asLst 1 (at' [mgetD es (.str q) zz] 0 0)).bind fun v9 => (asBool (at' [mgetD es (.str q) zz] 0 1)).bind fun c10 => (evF EnB n 67 [.list 1 v9, .bool c10, .list 1 l, .bool b]).bind fun r11 => (asLst 1 (r11[0]?)).bind fun v12 => (asBool (r11[1]?)).bind fun c13 =>
      bif decide (0 ≤ c) then some [.list 3 (mput es (.str q) (.agg [.list 1 v12, .bool c13]) c), .int .i64 (mclk es (.str q) c), .int .i64 k] else none := by kernel_rfl

theorem pZ_ev {n : Nat} {es : List FV} {c k : Int} : evC EnB (evF EnB n) [] n pZ (kRet EnB Go.Proofs.Tryz.f22 postI postPs) (memOf [0] ledT [.list 3 es, .int .i64 c, .int .i64 k]) =
    some [.list 3 es, .int .i64 c, .int .i64 (IntKind.wrap .i64 (k + 1)), .int .i64 0] := by kernel_rfl

theorem pR7_ok : codeOk 44 ((List.range 24) ++ [37, 38, 39, 40, 41, 42, 43]) pR7 = true := by kernel_rfl
theorem pZ_ok : codeOk 44 (pinsOf 0 postPs) pZ = true := by kernel_rfl

end Rf
end

section
/- Ledger.Post: the walk up to the range. -/
set_option linter.unusedSimpArgs false
set_option linter.unusedVariables false
namespace Rf
open Go Go.RowKit Go.Shelf Go.Proofs
attribute [local go_sem] Oper.semAt_some

/-- a fact that the walk does not look at -/
structure Asd (p : Prop) : Prop where
  out : p

noncomputable abbrev pC (l : List Nat) : Code := sub ((Tryz.f22).body.getD .skip) l

set_option maxHeartbeats 2000000 in
set_option maxRecDepth 100000 in
theorem post_pre (B : Nat) (v : Value) (w : World) {R : Value → Int → World → Prop}
    (rd : CallsIn Fence.wide 5 Tryz.prog 66 #[v] w fun e w1 => ∃ x err, e = .returned (.tuple #[x, .int .i64 err]) ∧ R x err w1) {ct : Code} {Q : Exit → Act → World → Prop}
    (hE : ∀ x err w1 a, R x err w1 → err ≠ 0 → a.tmps.getD 4 undef = .int .i64 err → a.defers = [] → Q .ret a w1)
    (hK : ∀ x w1 t9 t13 t14 t15, R x 0 w1 →
      ct.wpIn Fence.wide 6 Tryz.prog Q { tmps := #[.pointer (some ⟨B, 0, none⟩), v, undef, undef, .int .i64 0, x, .int .i64 0, undef, undef, t9, v, t9, x, t13, t14, t15, undef, undef, undef, undef, undef, undef, undef, undef, undef, undef, undef, undef, undef, undef, undef, undef, undef, undef, undef, undef, undef, undef, undef, undef, undef, undef, undef, undef], defers := [] } w1) :
    Code.wpIn Fence.wide 6 Tryz.prog ((pC [0]).seq ((pC [1, 0]).seq ((pC [1, 1, 0]).seq ct))) Q
      { tmps := #[.pointer (some ⟨B, 0, none⟩), v, undef, undef, undef, undef, undef, undef, undef, undef, undef, undef, undef, undef, undef, undef, undef, undef, undef, undef, undef, undef, undef, undef, undef, undef, undef, undef, undef, undef, undef, undef, undef, undef, undef, undef, undef, undef, undef, undef, undef, undef, undef, undef], defers := [] } w := by
  dsimp only [pC, Tryz.f22, Option.getD_some, sub, Nat.beq, cond_true, cond_false, cond]
  have t66 : Fence.wide.fn 66 := trivial
  have h1 : 1 ≤ 6 := by omega
  gi_wp2_with (first
    | (gi_at_call 66; refine rd.mono ?_; rintro e w1 ⟨x, err, rfl, hR⟩))
  · rename_i hb
    exact hE x err w1 _ hR (by simpa using hb) rfl rfl
  · rename_i hb
    obtain rfl : err = 0 := by simpa using hb
    exact hK x w1 _ _ _ _ hR

theorem arr44 {l : Array Value} (h : l.size = 44) : l = #[l.getD 0 undef, l.getD 1 undef, l.getD 2 undef, l.getD 3 undef, l.getD 4 undef, l.getD 5 undef, l.getD 6 undef, l.getD 7 undef, l.getD 8 undef, l.getD 9 undef, l.getD 10 undef, l.getD 11 undef, l.getD 12 undef, l.getD 13 undef, l.getD 14 undef, l.getD 15 undef, l.getD 16 undef, l.getD 17 undef, l.getD 18 undef, l.getD 19 undef, l.getD 20 undef, l.getD 21 undef, l.getD 22 undef, l.getD 23 undef, l.getD 24 undef, l.getD 25 undef, l.getD 26 undef, l.getD 27 undef, l.getD 28 undef, l.getD 29 undef, l.getD 30 undef, l.getD 31 undef, l.getD 32 undef, l.getD 33 undef, l.getD 34 undef, l.getD 35 undef, l.getD 36 undef, l.getD 37 undef, l.getD 38 undef, l.getD 39 undef, l.getD 40 undef, l.getD 41 undef, l.getD 42 undef, l.getD 43 undef] := by
  obtain ⟨l⟩ := l
  simp only [List.size_toArray] at h
  match l, h with
  | a0 :: a1 :: a2 :: a3 :: a4 :: a5 :: a6 :: a7 :: a8 :: a9 :: a10 :: a11 :: a12 :: a13 :: a14 :: a15 :: a16 :: a17 :: a18 :: a19 :: a20 :: a21 :: a22 :: a23 :: a24 :: a25 :: a26 :: a27 :: a28 :: a29 :: a30 :: a31 :: a32 :: a33 :: a34 :: a35 :: a36 :: a37 :: a38 :: a39 :: a40 :: a41 :: a42 :: a43 :: [], _ => rfl

set_option maxHeartbeats 4000000 in
set_option maxRecDepth 100000 in
theorem post_rng (B bc : Nat) (v t9 t13 t14 t15 : Value) (es : Array MapEntry) (clock : Nat) (w : World) (J : Array Nat → World → Prop) (hb : w.heap[bc]? = some (.map es clock)) (hs : MapKept.Stamped es clock)
    (hel : ∀ e, e ∈ es.toList → ∃ (q : ByteArray) (p : Option Addr) (k c : Nat) (b : Bool), e.key = .string q ∧ e.val = .agg #[.slice p k c, .bool b])
    (hJ0 : ∀ w0, w.grownBy w0 none → w0.heap.size = w.heap.size + 1 → J #[] w0) {c7 ct : Code} {Q : Exit → Act → World → Prop}
    (h7 : ∀ (seen : Array Nat) (wr w2 : World) (e : MapEntry) (q : ByteArray) (p : Option Addr) (k c : Nat) (b : Bool) (a0 : Act) (Q7 : Exit → Act → World → Prop), Rg wr bc w.heap.size es clock seen → J seen wr → e ∈ (leftOf es seen).toList → e.key = .string q → e.val = .agg #[.slice p k c, .bool b] →
      Rg w2 bc w.heap.size es clock (seen.push e.born) → wr.grownBy w2 (some w.heap.size) → w2.heap.size = wr.heap.size → a0.tmps.size = 44 → a0.defers = [] → a0.tmps.getD 0 undef = .pointer (some ⟨B, 0, none⟩) → a0.tmps.getD 7 undef = .string q → a0.tmps.getD 8 undef = .pointer (some ⟨w2.heap.size, 0, none⟩) →
      (∀ a' w', a'.tmps.size = 44 → a'.defers = [] → (∀ t, t < 24 ∨ (36 < t ∧ t < 44) → a'.tmps.getD t undef = a0.tmps.getD t undef) → Rg w' bc w.heap.size es clock (seen.push e.born) → J (seen.push e.born) w' → Q7 .normal a' w') →
      c7.wpIn Fence.wide 6 Tryz.prog Q7 a0 (w2.alloc (.cells #[.slice p k c, .bool b] 94)))
    (hK : ∀ (a' : Act) (w' : World) (seen : Array Nat), (leftOf es seen).size = 0 → J seen w' → a'.tmps.size = 44 → a'.defers = [] → a'.tmps.getD 0 undef = .pointer (some ⟨B, 0, none⟩) → a'.tmps.getD 1 undef = v → ct.wpIn Fence.wide 6 Tryz.prog Q a' w') :
    Code.wpIn Fence.wide 6 Tryz.prog ((Code.seq (pC [1, 1, 1, 0, 0]) (.block 0 (.loop (Code.seq (pC [1, 1, 1, 0, 1, 0, 0, 0]) (Code.seq (.cond (.tmp 20) .skip (.exit 0)) (.block 1 (Code.seq (pC [1, 1, 1, 0, 1, 0, 0, 1, 1, 0, 0]) c7))))))).seq ct) Q
      { tmps := #[.pointer (some ⟨B, 0, none⟩), v, undef, undef, .int .i64 0, .map (some bc), .int .i64 0, undef, undef, t9, v, t9, .map (some bc), t13, t14, t15, undef, undef, undef, undef, undef, undef, undef, undef, undef, undef, undef, undef, undef, undef, undef, undef, undef, undef, undef, undef, undef, undef, undef, undef, undef, undef, undef, undef], defers := [] } w := by
  dsimp only [pC, Tryz.f22, Option.getD_some, sub, Nat.beq, cond_true, cond_false, cond]
  gi_wp2_with (first
    | (gi_at_range; refine wpListIn_range_rg _ rfl _ 122 rfl 9 94 Tryz.underlying122 bc es clock rfl hb hs ?_; intro w0 hrg0 hg0 hs0)
    | gi_in)
  go_frame
  refine wpIn_loop (fun a' wr => ∃ (u : Nat → Value), a' = { tmps := #[.pointer (some ⟨B, 0, none⟩), v, undef, undef, .int .i64 0, .map (some bc), .int .i64 0, u 7, u 8, t9, v, t9, .map (some bc), t13, t14, t15, undef, .map (some bc), .pointer (some ⟨w.heap.size, 0, none⟩), u 19, u 20, u 21, u 22, u 23, u 24, u 25, u 26, u 27, u 28, u 29, u 30, u 31, u 32, u 33, u 34, u 35, u 36, undef, undef, undef, undef, undef, undef, undef], defers := [] } ∧ ∃ (seen : Array Nat), Rg wr bc w.heap.size es clock seen ∧ J seen wr) (fun _ wr => rgLeft wr bc w.heap.size) ⟨fun _ => undef, rfl, #[], hrg0, hJ0 w0 hg0 hs0⟩ ?_
  rintro _ wr ⟨u, rfl, seen, hrg, hJ⟩
  gi_wp2_with (first
    | (gi_at_next; refine wpListIn_next_rg _ rfl _ rfl bc w.heap.size es clock seen rfl hrg ?_ ?_)
    | gi_in)
  · intro hd0
    gi_wp2
    exact hK _ wr seen (by simpa using hd0) hJ rfl rfl rfl rfl
  · intro key val e_1 w2 he hek hev hrg2 hg2 hs2 hen
    replace he : e_1 ∈ (leftOf es seen).toList := by simpa using he
    obtain ⟨q, p, k, c, b, hq, hv⟩ := hel e_1 (mem_left he).1
    have hek' := hek
    have hev' := hev
    rw [hq] at hek
    rw [hv] at hev
    subst hek hev
    have A2 : Asd (w2.heap.size = wr.heap.size) := ⟨hs2⟩
    clear hs2
    gi_wp2
    · refine h7 seen wr w2 e_1 q p k c b _ _ hrg hJ he hq hv hrg2 hg2 A2.out ?_ ?_ ?_ ?_ ?_ ?_
      iterate 5 (exact rfl)
      intro a' w' hsz hdf hpin hrg' hJ'
      refine ⟨⟨fun t => a'.tmps.getD t undef, ?_, _, hrg', hJ'⟩, ?_⟩
      · obtain ⟨tm, df⟩ := a'
        simp only at hsz hdf hpin ⊢
        subst hdf
        have e0 : tm.getD 0 undef = Value.pointer (some ⟨B, 0, none⟩) := hpin 0 (by omega)
        have e1 : tm.getD 1 undef = v := hpin 1 (by omega)
        have e2 : tm.getD 2 undef = undef := hpin 2 (by omega)
        have e3 : tm.getD 3 undef = undef := hpin 3 (by omega)
        have e4 : tm.getD 4 undef = Value.int .i64 0 := hpin 4 (by omega)
        have e5 : tm.getD 5 undef = Value.map (some bc) := hpin 5 (by omega)
        have e6 : tm.getD 6 undef = Value.int .i64 0 := hpin 6 (by omega)
        have e9 : tm.getD 9 undef = t9 := hpin 9 (by omega)
        have e10 : tm.getD 10 undef = v := hpin 10 (by omega)
        have e11 : tm.getD 11 undef = t9 := hpin 11 (by omega)
        have e12 : tm.getD 12 undef = Value.map (some bc) := hpin 12 (by omega)
        have e13 : tm.getD 13 undef = t13 := hpin 13 (by omega)
        have e14 : tm.getD 14 undef = t14 := hpin 14 (by omega)
        have e15 : tm.getD 15 undef = t15 := hpin 15 (by omega)
        have e16 : tm.getD 16 undef = undef := hpin 16 (by omega)
        have e17 : tm.getD 17 undef = Value.map (some bc) := hpin 17 (by omega)
        have e18 : tm.getD 18 undef = Value.pointer (some ⟨w.heap.size, 0, none⟩) := hpin 18 (by omega)
        have e37 : tm.getD 37 undef = undef := hpin 37 (by omega)
        have e38 : tm.getD 38 undef = undef := hpin 38 (by omega)
        have e39 : tm.getD 39 undef = undef := hpin 39 (by omega)
        have e40 : tm.getD 40 undef = undef := hpin 40 (by omega)
        have e41 : tm.getD 41 undef = undef := hpin 41 (by omega)
        have e42 : tm.getD 42 undef = undef := hpin 42 (by omega)
        have e43 : tm.getD 43 undef = undef := hpin 43 (by omega)
        conv => lhs; rw [arr44 hsz]
        rw [e0, e1, e2, e3, e4, e5, e6, e9, e10, e11, e12, e13, e14, e15, e16, e17, e18, e37, e38, e39, e40, e41, e42, e43]
      · rw [hrg'.left, hrg.left]; exact left_shrinks es seen e_1 he

end Rf
end
