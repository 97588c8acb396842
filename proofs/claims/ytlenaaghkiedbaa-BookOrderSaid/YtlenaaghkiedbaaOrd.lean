import Derived.Test.YtlenaaghkiedbaaOwes
import Derived.Test.YtlenaaghkiedbaaEqOrd
import Derived.Test.YtlenaaghkiedbaaExtOk3

section
/- Two participants: what a book is to each of them; what each asks changes nothing for the other. -/
set_option linter.unusedSimpArgs false
set_option linter.unusedVariables false
set_option maxHeartbeats 1000000
namespace Rf
open Go

/-! ### what a map has under a key -/
def mfind : List FV → FV → Option FV
  | [], _ => none
  | e :: es, k => bif keq k (entKey e) then some (entVal e) else mfind es k

theorem mhas_find (k : FV) : ∀ es : List FV, mhas es k = (mfind es k).isSome
  | [] => rfl
  | e :: es => by
    have ih := mhas_find k es
    simp only [mhas, List.any_cons, mfind] at ih ⊢
    cases keq k (entKey e) with
    | true => rfl
    | false => simpa using ih

theorem mgetD_find (k z : FV) : ∀ es : List FV, mgetD es k z = (mfind es k).getD z
  | [] => rfl
  | e :: es => by
    simp only [mgetD, mfind]
    cases keq k (entKey e) with
    | true => rfl
    | false => exact mgetD_find k z es

theorem mfind_mput (k v : FV) (c : Int) (k' : FV) (es : List FV) : mfind (mput es k v c) k' = bif keq k' k then some v else mfind es k' := by
  have h1 := mhas_mput k v c k' es
  rw [mhas_find, mhas_find] at h1
  cases hk : keq k' k with
  | true =>
    rw [hk, Bool.true_or] at h1
    obtain ⟨x, hx⟩ := Option.isSome_iff_exists.1 h1
    have h2 := mgetD_mput k v c k' x es
    rw [mgetD_find, hx, hk] at h2
    rw [hx, cond_true]
    exact congrArg some h2
  | false =>
    rw [hk, Bool.false_or] at h1
    rw [cond_false]
    cases hf : mfind es k' with
    | none =>
      rw [hf] at h1
      cases hg : mfind (mput es k v c) k' with
      | none => rfl
      | some x => rw [hg] at h1; cases h1
    | some y =>
      rw [hf] at h1
      obtain ⟨x, hx⟩ := Option.isSome_iff_exists.1 h1
      have h2 := mgetD_mput k v c k' x es
      rw [mgetD_find, hx, hk, cond_false, mgetD_find, hf] at h2
      rw [hx]
      exact congrArg some h2

/-- entries by names: each stands under its own name, names differ, and each value fits -/
structure NmA (P : FV → Prop) (es : List FV) : Prop where
  ent : ∀ e, e ∈ es → ∃ w k v b, e = .agg [nm w k, v, .int .i64 b] ∧ fkey v = (w, k) ∧ P v
  nod : (es.map fun e => fkey (entVal e)).Nodup

section
variable {P : FV → Prop} {es : List FV}

theorem NmA.nil : NmA P [] := ⟨fun e h => (by cases h), .nil⟩

theorem NmA.keq (h : NmA P es) {e : FV} (he : e ∈ es) (w : ByteArray) (k : Int) : keq (nm w k) (entKey e) = decide ((w, k) = fkey (entVal e)) := by
  obtain ⟨w', k', v, b, rfl, hv, _⟩ := h.ent e he
  show Rf.keq (nm w k) (nm w' k') = decide ((w, k) = fkey v)
  rw [keq_nm, hv, Bool.eq_iff_iff]; simp

theorem NmA.tail {e : FV} (h : NmA P (e :: es)) : NmA P es :=
  ⟨fun x hx => h.ent x (List.mem_cons_of_mem _ hx), (List.nodup_cons.1 (by simpa using h.nod)).2⟩

theorem NmA.val (h : NmA P es) {e : FV} (he : e ∈ es) : P (entVal e) := by
  obtain ⟨w', k', v, b, rfl, hv, hp⟩ := h.ent e he
  exact hp

theorem NmA.find {es : List FV} (h : NmA P es) {w : ByteArray} {k : Int} {v : FV} (hf : mfind es (nm w k) = some v) : (∃ e, e ∈ es ∧ entVal e = v) ∧ fkey v = (w, k) ∧ P v := by
  induction es with
  | nil => simp [mfind] at hf
  | cons e es ih =>
    simp only [mfind] at hf
    rw [h.keq (List.mem_cons_self)] at hf
    by_cases hk : (w, k) = fkey (entVal e)
    · rw [decide_eq_true hk, cond_true] at hf
      cases hf
      exact ⟨⟨e, List.mem_cons_self, rfl⟩, hk.symm, h.val List.mem_cons_self⟩
    · rw [decide_eq_false hk, cond_false] at hf
      obtain ⟨⟨x, h1, h2⟩, h3⟩ := ih h.tail hf
      exact ⟨⟨x, List.mem_cons_of_mem _ h1, h2⟩, h3⟩

theorem NmA.mem {es : List FV} (h : NmA P es) {e : FV} (he : e ∈ es) : mfind es (nm (fkey (entVal e)).1 (fkey (entVal e)).2) = some (entVal e) := by
  induction es with
  | nil => cases he
  | cons x es ih =>
    simp only [mfind]
    rw [h.keq List.mem_cons_self]
    rcases List.mem_cons.1 he with rfl | he'
    · rw [decide_eq_true rfl, cond_true]
    · have hn := h.nod
      rw [List.map_cons, List.nodup_cons] at hn
      have hne : ¬ ((fkey (entVal e)).1, (fkey (entVal e)).2) = fkey (entVal x) := fun hh => hn.1 (by
        rw [← hh]; exact List.mem_map.2 ⟨e, he', rfl⟩)
      rw [decide_eq_false hne, cond_false]
      exact ih h.tail he'

theorem NmA.put (h : NmA P es) {w : ByteArray} {k : Int} {v : FV} (c : Int) (hn : mfind es (nm w k) = none) (hv : fkey v = (w, k)) (hP : P v) :
    mput es (nm w k) v c = es ++ [.agg [nm w k, v, .int .i64 c]] ∧ NmA P (mput es (nm w k) v c) := by
  have hn' : mhas es (nm w k) = false := by rw [mhas_find, hn]; rfl
  have hne : ∀ e, e ∈ es → Rf.keq (nm w k) (entKey e) = false := fun e he => by
    have := List.any_eq_false.1 hn' e he
    simpa using this
  have he := (mput_new hne v c).1
  refine ⟨he, ?_⟩
  rw [he]
  refine ⟨fun e hm => ?_, ?_⟩
  · rcases List.mem_append.1 hm with hm | hm
    · exact h.ent e hm
    · rw [List.mem_singleton] at hm
      exact ⟨w, k, v, c, hm, hv, hP⟩
  · rw [List.map_append, List.nodup_append]
    refine ⟨h.nod, by simp, fun a ha b hb hab => ?_⟩
    rw [List.mem_map] at ha
    obtain ⟨e, hm, rfl⟩ := ha
    simp only [List.map_cons, List.map_nil, List.mem_singleton, entVal] at hb
    rw [hb, hv] at hab
    have h1 := hne e hm
    rw [h.keq hm, hab] at h1
    simp at h1

theorem NmA.del (h : NmA P es) (k : FV) : NmA P (mdel es k) :=
  ⟨fun e he => h.ent e ((mdel_sub k es).subset he), h.nod.sublist ((mdel_sub k es).map _)⟩

theorem NmA.find_del {es : List FV} (h : NmA P es) (w : ByteArray) (k : Int) (v : ByteArray) (j : Int) :
    mfind (mdel es (nm w k)) (nm v j) = if v = w ∧ j = k then none else mfind es (nm v j) := by
  induction es with
  | nil => simp [mdel, mfind]
  | cons e es ih =>
    have ih := ih h.tail
    simp only [mdel]
    rw [h.keq List.mem_cons_self]
    by_cases hk : (w, k) = fkey (entVal e)
    · rw [decide_eq_true hk, cond_true]
      by_cases hv : v = w ∧ j = k
      · rw [if_pos hv]
        obtain ⟨rfl, rfl⟩ := hv
        cases hf : mfind es (nm v j) with
        | none => rfl
        | some x =>
          obtain ⟨⟨y, h1, h2⟩, h3, _⟩ := h.tail.find hf
          have hn := h.nod
          rw [List.map_cons, List.nodup_cons] at hn
          exact absurd (List.mem_map.2 ⟨y, h1, by rw [h2, h3, hk]⟩) hn.1
      · rw [if_neg hv]
        simp only [mfind]
        rw [h.keq List.mem_cons_self, decide_eq_false (fun hh => hv (by rw [← hk] at hh; exact Prod.ext_iff.1 hh)), cond_false]
    · rw [decide_eq_false hk, cond_false]
      simp only [mfind]
      rw [h.keq List.mem_cons_self, ih]
      by_cases hv : v = w ∧ j = k
      · rw [if_pos hv, if_pos hv]
        obtain ⟨rfl, rfl⟩ := hv
        rw [decide_eq_false hk, cond_false]
      · rw [if_neg hv, if_neg hv]

/-- the same under each name: the same values, in whatever order -/
theorem NmA.perm {es' : List FV} (h : NmA P es) (h' : NmA P es') (hf : ∀ w k, mfind es (nm w k) = mfind es' (nm w k)) : (es.map entVal).Perm (es'.map entVal) := by
  have hn : ∀ {l : List FV}, NmA P l → (l.map entVal).Nodup := fun {l} hl => by
    have := hl.nod
    rw [show (fun e => fkey (entVal e)) = fkey ∘ entVal from rfl, ← List.map_map] at this
    exact (List.pairwise_map.1 this).imp fun hab e => hab (by rw [e])
  have one : ∀ {l l' : List FV}, NmA P l → NmA P l' → (∀ w k, mfind l (nm w k) = mfind l' (nm w k)) → ∀ v, v ∈ l.map entVal → v ∈ l'.map entVal := fun {l l'} hl hl' hh v hv => by
    obtain ⟨e, he, rfl⟩ := List.mem_map.1 hv
    have := hl.mem he
    rw [hh] at this
    obtain ⟨⟨x, h1, h2⟩, _⟩ := hl'.find this
    exact List.mem_map.2 ⟨x, h1, h2⟩
  exact (List.perm_ext_iff_of_nodup (hn h) (hn h')).2 fun v => ⟨one h h' hf v, one h' h (fun w k => (hf w k).symm) v⟩

/-- how many are a participant's -/
def cntW (w : ByteArray) (es : List FV) : Nat := es.countP fun e => decide ((fkey (entVal e)).1 = w)

theorem NmA.cnt_del {es : List FV} (h : NmA P es) {w : ByteArray} {k : Int} (v : ByteArray) {x : FV} (hf : mfind es (nm w k) = some x) : cntW v es = cntW v (mdel es (nm w k)) + if v = w then 1 else 0 := by
  induction es with
  | nil => simp [mfind] at hf
  | cons e es ih =>
    simp only [mfind] at hf
    simp only [mdel]
    rw [h.keq List.mem_cons_self] at hf ⊢
    by_cases hk : (w, k) = fkey (entVal e)
    · rw [decide_eq_true hk, cond_true]
      unfold cntW
      rw [List.countP_cons, ← hk]
      by_cases hv : v = w
      · rw [if_pos hv, if_pos (by simp [hv])]
      · rw [if_neg hv, if_neg (by simp; exact fun h => hv h.symm)]
    · rw [decide_eq_false hk, cond_false] at hf ⊢
      have ih := ih h.tail hf
      unfold cntW at ih ⊢
      rw [List.countP_cons, List.countP_cons, ih]
      omega

theorem cnt_app (v : ByteArray) (es : List FV) (w : ByteArray) (k : Int) (x : FV) (c : Int) (hx : fkey x = (w, k)) : cntW v (es ++ [.agg [nm w k, x, .int .i64 c]]) = cntW v es + if v = w then 1 else 0 := by
  unfold cntW
  rw [List.countP_append, List.countP_cons, List.countP_nil]
  congr 1
  show 0 + (if decide ((fkey x).1 = v) = true then 1 else 0) = _
  rw [hx]
  by_cases hv : v = w
  · rw [if_pos hv, if_pos (by simp [hv])]
  · rw [if_neg hv, if_neg (by simp; exact fun h => hv h.symm)]

theorem cnt_two {f s : ByteArray} (hfs : f ≠ s) : ∀ (es : List FV), (∀ e, e ∈ es → (fkey (entVal e)).1 = f ∨ (fkey (entVal e)).1 = s) → es.length = cntW f es + cntW s es
  | [], _ => rfl
  | e :: es, h => by
    have ih := cnt_two hfs es fun x hx => h x (List.mem_cons_of_mem _ hx)
    unfold cntW at ih ⊢
    rw [List.countP_cons, List.countP_cons, List.length_cons, ih]
    rcases h e List.mem_cons_self with q | q
    · rw [if_pos (by simp [q]), if_neg (by simp [q, hfs])]; omega
    · rw [if_neg (by simp [q]; exact fun h => hfs h.symm), if_pos (by simp [q])]; omega

end

/-! ### a participant, and what it asks -/

structure PS where
  acc : Acc
  st : Int → Option StF
  bl : Int → Option (BlF × List Int)
  us : Int → Int
  hs : Bool

def PS.zero : PS := ⟨⟨0, 0, 0, 0, 0⟩, fun _ => none, fun _ => none, fun _ => 0, false⟩

def updF {α : Type} (f : Int → α) (k : Int) (x : α) : Int → α := fun j => if j = k then x else f j

def PS.child (p : PS) (m : Int) : Prop := ∃ k x, p.bl k = some x ∧ x.1.e = m ∧ 0 < m

open Classical in
/-- what a participant's ask is answered -/
noncomputable def pmay (p : PS) (a : Ask) (qs : List Int) : Int :=
  if a.kind < 1 ∨ a.kind > 4 then 1
  else if p.acc.ak ≥ 24 then 101
  else if a.kind = 1 then (if a.cents < 1 ∨ a.cents > 1000000000 then 1 else 0)
  else if a.kind = 2 then (if p.us a.s1 > 0 then 100 else if p.acc.st ≥ 8 then 101 else if IntKind.wrap .i64 (p.acc.ow + a.owes) > p.acc.lk then 221 else 0)
  else if a.kind = 3 then (if p.us a.b1 > 0 then 100 else if p.acc.bl ≥ 3 then 101 else if a.b6 > 0 ∧ p.bl a.b6 = none then 103 else if IntKind.wrap .i64 (p.acc.ow + a.owesB qs) > p.acc.lk then 221 else 0)
  else (if p.st a.seq = none ∧ p.bl a.seq = none then 102 else if p.bl a.seq ≠ none ∧ p.child a.seq then 103 else 0)

def stepOf (w : ByteArray) (a : Ask) : StF := ⟨w, a.s1, a.s2, a.s3, a.sb, a.s5, a.s6⟩
def blockOf (w : ByteArray) (a : Ask) (qs : List Int) : BlF := ⟨w, a.b1, a.b2, a.bb, a.b4, qs.map (FV.int .i64), a.b6, a.b7⟩

/-- what a participant is behind an ask that is taken -/
def ptake (w : ByteArray) (p : PS) (a : Ask) (qs : List Int) : PS :=
  if a.kind = 1 then ⟨{ p.acc with lk := IntKind.wrap .i64 (p.acc.lk + a.cents), ak := IntKind.wrap .i64 (p.acc.ak + 1) }, p.st, p.bl, p.us, true⟩
  else if a.kind = 2 then ⟨{ p.acc with ow := IntKind.wrap .i64 (p.acc.ow + a.owes), ak := IntKind.wrap .i64 (p.acc.ak + 1), st := IntKind.wrap .i64 (p.acc.st + 1) },
    updF p.st a.s1 (some (stepOf w a)), p.bl, updF p.us a.s1 (IntKind.wrap .i64 (p.us a.s1 + 1)), true⟩
  else if a.kind = 3 then ⟨{ p.acc with ow := IntKind.wrap .i64 (p.acc.ow + a.owesB qs), ak := IntKind.wrap .i64 (p.acc.ak + 1), bl := IntKind.wrap .i64 (p.acc.bl + 1) },
    p.st, updF p.bl a.b1 (some (blockOf w a qs, qs)), updF p.us a.b1 (IntKind.wrap .i64 (p.us a.b1 + 1)), true⟩
  else match p.st a.seq with
    | some x => ⟨{ p.acc with ow := IntKind.wrap .i64 (p.acc.ow - x.ask.owes), ak := IntKind.wrap .i64 (p.acc.ak + 1), st := IntKind.wrap .i64 (p.acc.st - 1) }, updF p.st a.seq none, p.bl, p.us, true⟩
    | none => match p.bl a.seq with
      | some x => ⟨{ p.acc with ow := IntKind.wrap .i64 (p.acc.ow - x.1.ask.owesB x.2), ak := IntKind.wrap .i64 (p.acc.ak + 1), bl := IntKind.wrap .i64 (p.acc.bl - 1) }, p.st, updF p.bl a.seq none, p.us, true⟩
      | none => p

noncomputable def padd (w : ByteArray) (p : PS) (a : Ask) (qs : List Int) : PS := if pmay p a qs = 0 then ptake w p a qs else p

/-- what a book is to a participant -/
structure Abs (B : Bk) (w : ByteArray) (p : PS) : Prop where
  acc : B.acc w = p.acc
  st : ∀ k, mfind B.e0 (nm w k) = (p.st k).map StF.fv
  bl : ∀ k, mfind B.e1 (nm w k) = (p.bl k).map fun x => x.1.fv
  us : ∀ k, B.used w k = p.us k
  hs : mhas B.e3 (.str w) = p.hs
  bq : ∀ k x, p.bl k = some x → x.1.q = x.2.map (FV.int .i64) ∧ x.2.length ≤ 16

def stepQ (v : FV) : Prop := ∃ x : StF, v = x.fv
def blockQ (v : FV) : Prop := ∃ (x : BlF) (qs : List Int), v = x.fv ∧ x.q = qs.map (FV.int .i64) ∧ qs.length ≤ 16

/-- what a book of two participants keeps; behind so many asks -/
structure Two (f s : ByteArray) (B : Bk) (m : Nat) : Prop where
  ok : B.Ok
  st : NmA stepQ B.e0
  bl : NmA blockQ B.e1
  us : ∀ w k, 0 ≤ B.used w k
  use1 : ∀ w k, (mfind B.e0 (nm w k)).isSome = true ∨ (mfind B.e1 (nm w k)).isSome = true → B.used w k > 0
  use2 : ∀ w k, B.used w k ≤ 1
  ak : ∀ w, 0 ≤ (B.acc w).ak ∧ (B.acc w).ak ≤ 24
  bln : ∀ w, (B.acc w).bl = cntW w B.e1 ∧ cntW w B.e1 ≤ 3
  bw : ∀ e, e ∈ B.e1 → (fkey (entVal e)).1 = f ∨ (fkey (entVal e)).1 = s
  sw : ∀ e, e ∈ B.e0 → (fkey (entVal e)).1 = f ∨ (fkey (entVal e)).1 = s
  sz : B.e0.length ≤ m
  who : ∀ e, e ∈ B.e3 → entKey e = .str f ∨ entKey e = .str s
  whn : (B.e3.map fun e => strOf (entKey e)).Nodup

theorem two_empty (f s : ByteArray) : Two f s Bk.empty 0 :=
  ⟨empty_ok, NmA.nil, NmA.nil, fun w k => show (0 : Int) ≤ 0 by decide, fun w k h => by simp [Bk.empty, mfind] at h, fun w k => show (0 : Int) ≤ 1 by decide, fun w => show (0 : Int) ≤ 0 ∧ (0 : Int) ≤ 24 by decide,
    fun w => ⟨rfl, Nat.zero_le _⟩, fun e h => (by cases h), fun e h => (by cases h), Nat.le_refl _, fun e h => (by cases h), .nil⟩

theorem abs_empty (w : ByteArray) : Abs Bk.empty w PS.zero := ⟨rfl, fun _ => rfl, fun _ => rfl, fun _ => rfl, rfl, fun k x h => by cases h⟩


theorem keys_put {f s w : ByteArray} (v : FV) (c : Int) : ∀ {es : List FV}, (∀ e, e ∈ es → entKey e = .str f ∨ entKey e = .str s) →
    (mput es (.str w) v c).map (fun e => strOf (entKey e)) = bif mhas es (.str w) then es.map (fun e => strOf (entKey e)) else es.map (fun e => strOf (entKey e)) ++ [w]
  | [], _ => by simp [mput, mhas, entKey, strOf]
  | e :: es, h => by
    have ih := keys_put (w := w) v c fun x hx => h x (List.mem_cons_of_mem _ hx)
    obtain ⟨t, ht⟩ : ∃ t, entKey e = .str t := by rcases h e List.mem_cons_self with q | q <;> exact ⟨_, q⟩
    simp only [mput, mhas, List.any_cons]
    rw [ht, keq_str]
    by_cases hk : w = t
    · rw [decide_eq_true hk, cond_true, Bool.true_or, cond_true, List.map_cons, List.map_cons, ht]
      simp only [entKey, strOf, hk]
    · rw [decide_eq_false hk, cond_false, Bool.false_or, List.map_cons, ih]
      unfold mhas
      cases (es.any fun e => keq (.str w) (entKey e)) <;> simp

theorem who_put2 {f s w : ByteArray} (hw : w = f ∨ w = s) (v : FV) (c : Int) {es : List FV} (h : ∀ e, e ∈ es → entKey e = .str f ∨ entKey e = .str s) (hn : (es.map fun e => strOf (entKey e)).Nodup) :
    (∀ e, e ∈ mput es (.str w) v c → entKey e = .str f ∨ entKey e = .str s) ∧ ((mput es (.str w) v c).map fun e => strOf (entKey e)).Nodup := by
  constructor
  · intro e he
    have sub : ∀ {es : List FV}, (∀ e, e ∈ es → entKey e = .str f ∨ entKey e = .str s) → e ∈ mput es (.str w) v c → entKey e = .str f ∨ entKey e = .str s := by
      intro es
      induction es with
      | nil =>
        intro _ he
        simp only [mput, List.mem_singleton] at he
        rw [he]
        exact hw.imp (fun h => by rw [h]; rfl) (fun h => by rw [h]; rfl)
      | cons x es ih =>
        intro hx he
        simp only [mput] at he
        cases hk : keq (.str w) (entKey x) with
        | true =>
          rw [hk, cond_true] at he
          rcases List.mem_cons.1 he with rfl | he
          · exact hw.imp (fun h => by rw [h]; rfl) (fun h => by rw [h]; rfl)
          · exact hx e (List.mem_cons_of_mem _ he)
        | false =>
          rw [hk, cond_false] at he
          rcases List.mem_cons.1 he with rfl | he
          · exact hx _ List.mem_cons_self
          · exact ih (fun y hy => hx y (List.mem_cons_of_mem _ hy)) he
    exact sub h he
  · rw [keys_put v c h]
    by_cases hm : mhas es (.str w) = true
    · rw [hm]; exact hn
    · rw [show mhas es (.str w) = false by simpa using hm, cond_false, List.nodup_append]
      refine ⟨hn, by simp, fun a ha b hb hab => hm ?_⟩
      rw [List.mem_singleton] at hb
      obtain ⟨e, he, rfl⟩ := List.mem_map.1 ha
      unfold mhas
      rw [List.any_eq_true]
      refine ⟨e, he, ?_⟩
      obtain ⟨t, ht⟩ : ∃ t, entKey e = .str t := by rcases h e he with q | q <;> exact ⟨_, q⟩
      simp only [ht, strOf] at hab
      rw [ht, keq_str]
      exact decide_eq_true (by rw [hab, hb])

section
variable {n m : Nat} {f s : ByteArray} {B : Bk} {w : ByteArray} {a : Ask} {p : PS}

theorem stOf_fv (x : StF) : stOf x.fv = x := rfl
theorem blOf_fv (x : BlF) : blOf x.fv = x := rfl

theorem hs_put (c : Acc) (v : ByteArray) : mhas (B.setAcc w c).e3 (.str v) = (decide (v = w) || mhas B.e3 (.str v)) := by
  show mhas (mput B.e3 (.str w) c.fv B.c3) (.str v) = _
  rw [mhas_mput, keq_str]

/-- to somebody else nothing has changed -/
theorem Abs.other {B' : Bk} {v : ByteArray} {q : PS} (h : Abs B v q) (h0 : B'.acc v = B.acc v) (h1 : ∀ k, mfind B'.e0 (nm v k) = mfind B.e0 (nm v k)) (h2 : ∀ k, mfind B'.e1 (nm v k) = mfind B.e1 (nm v k))
    (h3 : ∀ k, B'.used v k = B.used v k) (h4 : mhas B'.e3 (.str v) = mhas B.e3 (.str v)) : Abs B' v q :=
  ⟨h0.trans h.acc, fun k => (h1 k).trans (h.st k), fun k => (h2 k).trans (h.bl k), fun k => (h3 k).trans (h.us k), h4.trans h.hs, h.bq⟩

theorem find_put (es : List FV) (k : Int) (x : FV) (c : Int) (v : ByteArray) (j : Int) : mfind (mput es (nm w k) x c) (nm v j) = if v = w ∧ j = k then some x else mfind es (nm v j) := by
  rw [mfind_mput, keq_nm]
  by_cases h1 : v = w
  · by_cases h2 : j = k
    · rw [if_pos ⟨h1, h2⟩, decide_eq_true h1, decide_eq_true h2]; rfl
    · rw [if_neg (fun h => h2 h.2), decide_eq_true h1, decide_eq_false h2]; rfl
  · rw [if_neg (fun h => h1 h.1), decide_eq_false h1]; rfl

theorem used_put2 (e2 : List FV) (k x c : Int) (v : ByteArray) (j : Int) : inOf (mgetD (mput e2 (nm w k) (.int .i64 x) c) (nm v j) (.int .i64 0)) = if v = w ∧ j = k then x else inOf (mgetD e2 (nm v j) (.int .i64 0)) := by
  rw [mgetD_find, find_put]
  by_cases h : v = w ∧ j = k
  · rw [if_pos h, if_pos h]; rfl
  · rw [if_neg h, if_neg h, mgetD_find]

theorem two_lock (h : Two f s B m) (hA : Abs B w p) (hw : w = f ∨ w = s) (hk : a.kind = 1) (ha : ¬ p.acc.ak ≥ 24) (qs : List Int) :
    let B' := B.setAcc w { B.acc w with lk := IntKind.wrap .i64 ((B.acc w).lk + a.cents), ak := IntKind.wrap .i64 ((B.acc w).ak + 1) }
    Two f s B' (m + 1) ∧ Abs B' w (ptake w p a qs) ∧ ∀ v q, v ≠ w → Abs B v q → Abs B' v q := by
  have h24 := h.ak w
  have ha' : ¬ (B.acc w).ak ≥ 24 := by rw [hA.acc]; exact ha
  have hwr : IntKind.wrap .i64 ((B.acc w).ak + 1) = (B.acc w).ak + 1 := wrap64_id (by omega) (by omega)
  obtain ⟨q1, q2⟩ := who_put2 hw ({ B.acc w with lk := IntKind.wrap .i64 ((B.acc w).lk + a.cents), ak := IntKind.wrap .i64 ((B.acc w).ak + 1) } : Acc).fv B.c3 h.who h.whn
  have hp : ptake w p a qs = ⟨{ p.acc with lk := IntKind.wrap .i64 (p.acc.lk + a.cents), ak := IntKind.wrap .i64 (p.acc.ak + 1) }, p.st, p.bl, p.us, true⟩ := by unfold ptake; rw [if_pos hk]
  rw [hp]
  refine ⟨⟨h.ok.setAcc _, h.st, h.bl, h.us, h.use1, h.use2, fun v => ?_, fun v => ?_, h.bw, h.sw, by have := h.sz; show B.e0.length ≤ _; omega, q1, q2⟩, ⟨?_, hA.st, hA.bl, hA.us, ?_, hA.bq⟩, fun v q hv hq => ?_⟩
  · rw [acc_setAcc]
    split
    · simp only [hwr]; omega
    · exact h.ak v
  · rw [acc_setAcc]
    split
    · rename_i e; rw [e]; exact h.bln w
    · exact h.bln v
  · rw [acc_setAcc, if_pos rfl, hA.acc]
  · rw [hs_put, decide_eq_true rfl, Bool.true_or]
  · refine hq.other (by rw [acc_setAcc, if_neg hv]) (fun _ => rfl) (fun _ => rfl) (fun _ => rfl) (by rw [hs_put, decide_eq_false hv, Bool.false_or])


theorem two_step (h : Two f s B m) (hA : Abs B w p) (hw : w = f ∨ w = s) (hk : a.kind = 2) (ha : ¬ p.acc.ak ≥ 24) (hu : ¬ p.us a.s1 > 0) (qs : List Int) :
    Two f s (B.addStep w a) (m + 1) ∧ Abs (B.addStep w a) w (ptake w p a qs) ∧ ∀ v q, v ≠ w → Abs B v q → Abs (B.addStep w a) v q := by
  have h24 := h.ak w
  have ha' : ¬ (B.acc w).ak ≥ 24 := by rw [hA.acc]; exact ha
  have hu' : ¬ B.used w a.s1 > 0 := by rw [hA.us]; exact hu
  have hu0 : B.used w a.s1 = 0 := by have := h.us w a.s1; omega
  have hwr : IntKind.wrap .i64 ((B.acc w).ak + 1) = (B.acc w).ak + 1 := wrap64_id (by omega) (by omega)
  have n0 : mfind B.e0 (nm w a.s1) = none := by
    cases hf : mfind B.e0 (nm w a.s1) with
    | none => rfl
    | some x => exact absurd (h.use1 w a.s1 (.inl (by rw [hf]; rfl))) hu'
  have hp : ptake w p a qs = ⟨{ p.acc with ow := IntKind.wrap .i64 (p.acc.ow + a.owes), ak := IntKind.wrap .i64 (p.acc.ak + 1), st := IntKind.wrap .i64 (p.acc.st + 1) },
    updF p.st a.s1 (some (stepOf w a)), p.bl, updF p.us a.s1 (IntKind.wrap .i64 (p.us a.s1 + 1)), true⟩ := by unfold ptake; rw [if_neg (by omega), if_pos hk]
  rw [hp]
  obtain ⟨p1, p2⟩ := h.st.put (v := (stepOf w a).fv) B.c0 n0 rfl ⟨_, rfl⟩
  obtain ⟨q1, q2⟩ := who_put2 hw ({ B.acc w with ow := IntKind.wrap .i64 ((B.acc w).ow + a.owes), ak := IntKind.wrap .i64 ((B.acc w).ak + 1), st := IntKind.wrap .i64 ((B.acc w).st + 1) } : Acc).fv B.c3 h.who h.whn
  have hacc : ∀ v, (B.addStep w a).acc v = if v = w then { B.acc w with ow := IntKind.wrap .i64 ((B.acc w).ow + a.owes), ak := IntKind.wrap .i64 ((B.acc w).ak + 1), st := IntKind.wrap .i64 ((B.acc w).st + 1) } else B.acc v := fun v => by
    unfold Bk.addStep; rw [acc_setAcc]; rfl
  have hus : ∀ v k, (B.addStep w a).used v k = if v = w ∧ k = a.s1 then 1 else B.used v k := fun v k => by
    have := used_put2 (w := w) B.e2 a.s1 (IntKind.wrap .i64 (B.used w a.s1 + 1)) B.c2 v k
    rw [hu0] at this
    unfold Bk.addStep
    rw [hu0]
    exact this
  have hf0 : ∀ v k, mfind (B.addStep w a).e0 (nm v k) = if v = w ∧ k = a.s1 then some (stepOf w a).fv else mfind B.e0 (nm v k) := fun v k => find_put _ _ _ _ _ _
  have hhs : ∀ v, mhas (B.addStep w a).e3 (.str v) = (decide (v = w) || mhas B.e3 (.str v)) := fun v => by unfold Bk.addStep; rw [hs_put]
  refine ⟨⟨h.ok.addStep, p2, h.bl, fun v k => ?_, fun v k hk => ?_, fun v k => ?_, fun v => ?_, fun v => ?_, h.bw, fun e he => ?_, ?_, q1, q2⟩, ⟨?_, fun k => ?_, hA.bl, fun k => ?_, ?_, hA.bq⟩, fun v q hv hq => hq.other ?_ (fun k => ?_) (fun _ => rfl) (fun k => ?_) ?_⟩
  · rw [hus]; split
    · omega
    · exact h.us v k
  · rw [hus]; split
    · omega
    · rename_i hne
      refine h.use1 v k (hk.imp_left fun hk => ?_)
      rw [hf0, if_neg hne] at hk
      exact hk
  · rw [hus]; split
    · omega
    · exact h.use2 v k
  · rw [hacc]; split
    · simp only [hwr]; omega
    · exact h.ak v
  · rw [hacc]; split
    · rename_i e; rw [e]; exact h.bln w
    · exact h.bln v
  · have he' : e ∈ mput B.e0 (nm w a.s1) (stepOf w a).fv B.c0 := he
    rw [p1] at he'
    rcases List.mem_append.1 he' with he | he
    · exact h.sw e he
    · rw [List.mem_singleton] at he
      rw [he]
      exact hw
  · show (mput B.e0 (nm w a.s1) (stepOf w a).fv B.c0).length ≤ _
    rw [p1, List.length_append]
    have := h.sz
    simp; omega
  · rw [hacc, if_pos rfl, hA.acc]
  · rw [hf0]
    simp only [updF]
    by_cases hk : k = a.s1
    · rw [if_pos (by simp [hk]), if_pos hk]; rfl
    · rw [if_neg (fun h => hk h.2), if_neg hk]; exact hA.st k
  · rw [hus]
    simp only [updF]
    rw [← hA.us a.s1, hu0, ← hA.us k]
    by_cases hk : k = a.s1
    · rw [if_pos (by simp [hk]), if_pos hk]; rfl
    · rw [if_neg (fun h => hk h.2), if_neg hk]
  · rw [hhs, decide_eq_true rfl, Bool.true_or]
  · rw [hacc, if_neg hv]
  · rw [hf0, if_neg (fun h => hv h.1)]
  · rw [hus, if_neg (fun h => hv h.1)]
  · rw [hhs, decide_eq_false hv, Bool.false_or]

theorem two_block {qs : List Int} (h : Two f s B m) (hA : Abs B w p) (hw : w = f ∨ w = s) (hk : a.kind = 3) (ha : ¬ p.acc.ak ≥ 24) (hu : ¬ p.us a.b1 > 0) (hb : ¬ p.acc.bl ≥ 3) (hl : qs.length ≤ 16) :
    Two f s (B.addBlock w a qs) (m + 1) ∧ Abs (B.addBlock w a qs) w (ptake w p a qs) ∧ ∀ v q, v ≠ w → Abs B v q → Abs (B.addBlock w a qs) v q := by
  have h24 := h.ak w
  have hbl := h.bln w
  have ha' : ¬ (B.acc w).ak ≥ 24 := by rw [hA.acc]; exact ha
  have hb' : ¬ (B.acc w).bl ≥ 3 := by rw [hA.acc]; exact hb
  have hu' : ¬ B.used w a.b1 > 0 := by rw [hA.us]; exact hu
  have hu0 : B.used w a.b1 = 0 := by have := h.us w a.b1; omega
  have hwr : IntKind.wrap .i64 ((B.acc w).ak + 1) = (B.acc w).ak + 1 := wrap64_id (by omega) (by omega)
  have hwb : IntKind.wrap .i64 ((B.acc w).bl + 1) = (B.acc w).bl + 1 := wrap64_id (by omega) (by omega)
  have n0 : mfind B.e1 (nm w a.b1) = none := by
    cases hf : mfind B.e1 (nm w a.b1) with
    | none => rfl
    | some x => exact absurd (h.use1 w a.b1 (.inr (by rw [hf]; rfl))) hu'
  have hp : ptake w p a qs = ⟨{ p.acc with ow := IntKind.wrap .i64 (p.acc.ow + a.owesB qs), ak := IntKind.wrap .i64 (p.acc.ak + 1), bl := IntKind.wrap .i64 (p.acc.bl + 1) },
    p.st, updF p.bl a.b1 (some (blockOf w a qs, qs)), updF p.us a.b1 (IntKind.wrap .i64 (p.us a.b1 + 1)), true⟩ := by unfold ptake; rw [if_neg (by omega), if_neg (by omega), if_pos hk]
  rw [hp]
  obtain ⟨p1, p2⟩ := h.bl.put (v := (blockOf w a qs).fv) B.c1 n0 rfl ⟨_, qs, rfl, rfl, hl⟩
  obtain ⟨q1, q2⟩ := who_put2 hw ({ B.acc w with ow := IntKind.wrap .i64 ((B.acc w).ow + a.owesB qs), ak := IntKind.wrap .i64 ((B.acc w).ak + 1), bl := IntKind.wrap .i64 ((B.acc w).bl + 1) } : Acc).fv B.c3 h.who h.whn
  have hacc : ∀ v, (B.addBlock w a qs).acc v = if v = w then { B.acc w with ow := IntKind.wrap .i64 ((B.acc w).ow + a.owesB qs), ak := IntKind.wrap .i64 ((B.acc w).ak + 1), bl := IntKind.wrap .i64 ((B.acc w).bl + 1) } else B.acc v := fun v => by
    unfold Bk.addBlock; rw [acc_setAcc]; rfl
  have hus : ∀ v k, (B.addBlock w a qs).used v k = if v = w ∧ k = a.b1 then 1 else B.used v k := fun v k => by
    have := used_put2 (w := w) B.e2 a.b1 (IntKind.wrap .i64 (B.used w a.b1 + 1)) B.c2 v k
    rw [hu0] at this
    unfold Bk.addBlock
    rw [hu0]
    exact this
  have hf0 : ∀ v k, mfind (B.addBlock w a qs).e1 (nm v k) = if v = w ∧ k = a.b1 then some (blockOf w a qs).fv else mfind B.e1 (nm v k) := fun v k => find_put _ _ _ _ _ _
  have hhs : ∀ v, mhas (B.addBlock w a qs).e3 (.str v) = (decide (v = w) || mhas B.e3 (.str v)) := fun v => by unfold Bk.addBlock; rw [hs_put]
  have he1 : (B.addBlock w a qs).e1 = B.e1 ++ [.agg [nm w a.b1, (blockOf w a qs).fv, .int .i64 B.c1]] := p1
  have hcnt : ∀ v, cntW v (B.addBlock w a qs).e1 = cntW v B.e1 + if v = w then 1 else 0 := fun v => by
    rw [he1]; exact cnt_app v B.e1 w a.b1 _ B.c1 rfl
  refine ⟨⟨h.ok.addBlock, h.st, p2, fun v k => ?_, fun v k hk => ?_, fun v k => ?_, fun v => ?_, fun v => ?_, fun e he => ?_, h.sw, ?_, q1, q2⟩, ⟨?_, hA.st, fun k => ?_, fun k => ?_, ?_, fun k x hx => ?_⟩, fun v q hv hq => hq.other ?_ (fun _ => rfl) (fun k => ?_) (fun k => ?_) ?_⟩
  · rw [hus]; split
    · omega
    · exact h.us v k
  · rw [hus]; split
    · omega
    · rename_i hne
      refine h.use1 v k (hk.imp_right fun hk => ?_)
      rw [hf0, if_neg hne] at hk
      exact hk
  · rw [hus]; split
    · omega
    · exact h.use2 v k
  · rw [hacc]; split
    · simp only [hwr]; omega
    · exact h.ak v
  · rw [hacc, hcnt]; split
    · rename_i e; rw [e]; simp only [hwb]; omega
    · exact h.bln v
  · rw [he1] at he
    rcases List.mem_append.1 he with he | he
    · exact h.bw e he
    · rw [List.mem_singleton] at he
      rw [he]
      exact hw
  · show B.e0.length ≤ _
    have := h.sz
    omega
  · rw [hacc, if_pos rfl, hA.acc]
  · rw [hf0]
    simp only [updF]
    by_cases hk : k = a.b1
    · rw [if_pos (by simp [hk]), if_pos hk]; rfl
    · rw [if_neg (fun h => hk h.2), if_neg hk]; exact hA.bl k
  · rw [hus]
    simp only [updF]
    rw [← hA.us a.b1, hu0, ← hA.us k]
    by_cases hk : k = a.b1
    · rw [if_pos (by simp [hk]), if_pos hk]; rfl
    · rw [if_neg (fun h => hk h.2), if_neg hk]
  · rw [hhs, decide_eq_true rfl, Bool.true_or]
  · simp only [updF] at hx
    by_cases hk : k = a.b1
    · rw [if_pos hk] at hx
      cases hx
      exact ⟨rfl, hl⟩
    · rw [if_neg hk] at hx
      exact hA.bq k x hx
  · rw [hacc, if_neg hv]
  · rw [hf0, if_neg (fun h => hv h.1)]
  · rw [hus, if_neg (fun h => hv h.1)]
  · rw [hhs, decide_eq_false hv, Bool.false_or]

theorem two_delStep {x : StF} (h : Two f s B m) (hA : Abs B w p) (hw : w = f ∨ w = s) (hk : a.kind = 4) (ha : ¬ p.acc.ak ≥ 24) (hx : p.st a.seq = some x) (qs : List Int) :
    Two f s (B.delStep w a.seq) (m + 1) ∧ Abs (B.delStep w a.seq) w (ptake w p a qs) ∧ ∀ v q, v ≠ w → Abs B v q → Abs (B.delStep w a.seq) v q := by
  have h24 := h.ak w
  have ha' : ¬ (B.acc w).ak ≥ 24 := by rw [hA.acc]; exact ha
  have hwr : IntKind.wrap .i64 ((B.acc w).ak + 1) = (B.acc w).ak + 1 := wrap64_id (by omega) (by omega)
  have hf : mfind B.e0 (nm w a.seq) = some x.fv := by rw [hA.st, hx]; rfl
  have hsx : B.step w a.seq = x := by unfold Bk.step; rw [mgetD_find, hf]; rfl
  have hp : ptake w p a qs = ⟨{ p.acc with ow := IntKind.wrap .i64 (p.acc.ow - x.ask.owes), ak := IntKind.wrap .i64 (p.acc.ak + 1), st := IntKind.wrap .i64 (p.acc.st - 1) }, updF p.st a.seq none, p.bl, p.us, true⟩ := by
    unfold ptake; rw [if_neg (by omega), if_neg (by omega), if_neg (by omega), hx]
  rw [hp]
  obtain ⟨q1, q2⟩ := who_put2 hw ({ B.acc w with ow := IntKind.wrap .i64 ((B.acc w).ow - (B.step w a.seq).ask.owes), ak := IntKind.wrap .i64 ((B.acc w).ak + 1), st := IntKind.wrap .i64 ((B.acc w).st - 1) } : Acc).fv B.c3 h.who h.whn
  have hacc : ∀ v, (B.delStep w a.seq).acc v = if v = w then { B.acc w with ow := IntKind.wrap .i64 ((B.acc w).ow - x.ask.owes), ak := IntKind.wrap .i64 ((B.acc w).ak + 1), st := IntKind.wrap .i64 ((B.acc w).st - 1) } else B.acc v := fun v => by
    unfold Bk.delStep; rw [acc_setAcc, hsx]; rfl
  have hf0 : ∀ v k, mfind (B.delStep w a.seq).e0 (nm v k) = if v = w ∧ k = a.seq then none else mfind B.e0 (nm v k) := fun v k => h.st.find_del _ _ _ _
  have hhs : ∀ v, mhas (B.delStep w a.seq).e3 (.str v) = (decide (v = w) || mhas B.e3 (.str v)) := fun v => by unfold Bk.delStep; rw [hs_put]
  refine ⟨⟨h.ok.delStep, h.st.del _, h.bl, h.us, fun v k hk => ?_, h.use2, fun v => ?_, fun v => ?_, h.bw, fun e he => h.sw e ((mdel_sub _ _).subset he), ?_, q1, q2⟩, ⟨?_, fun k => ?_, hA.bl, hA.us, ?_, hA.bq⟩, fun v q hv hq => hq.other ?_ (fun k => ?_) (fun _ => rfl) (fun _ => rfl) ?_⟩
  · refine h.use1 v k (hk.imp_left fun hk => ?_)
    rw [hf0] at hk
    split at hk
    · cases hk
    · exact hk
  · rw [hacc]; split
    · simp only [hwr]; omega
    · exact h.ak v
  · rw [hacc]; split
    · rename_i e; rw [e]; exact h.bln w
    · exact h.bln v
  · show (mdel B.e0 (nm w a.seq)).length ≤ _
    have := (mdel_sub (nm w a.seq) B.e0).length_le
    have := h.sz
    omega
  · rw [hacc, if_pos rfl, hA.acc]
  · rw [hf0]
    simp only [updF]
    by_cases hk : k = a.seq
    · rw [if_pos (by simp [hk]), if_pos hk]; rfl
    · rw [if_neg (fun h => hk h.2), if_neg hk]; exact hA.st k
  · rw [hhs, decide_eq_true rfl, Bool.true_or]
  · rw [hacc, if_neg hv]
  · rw [hf0, if_neg (fun h => hv h.1)]
  · rw [hhs, decide_eq_false hv, Bool.false_or]

theorem two_delBlock {x : BlF × List Int} (h : Two f s B m) (hA : Abs B w p) (hw : w = f ∨ w = s) (hk : a.kind = 4) (ha : ¬ p.acc.ak ≥ 24) (hx0 : p.st a.seq = none) (hx : p.bl a.seq = some x) (qs : List Int) :
    Two f s (B.delBlock w a.seq x.2) (m + 1) ∧ Abs (B.delBlock w a.seq x.2) w (ptake w p a qs) ∧ ∀ v q, v ≠ w → Abs B v q → Abs (B.delBlock w a.seq x.2) v q := by
  have h24 := h.ak w
  have hbl := h.bln w
  have ha' : ¬ (B.acc w).ak ≥ 24 := by rw [hA.acc]; exact ha
  have hwr : IntKind.wrap .i64 ((B.acc w).ak + 1) = (B.acc w).ak + 1 := wrap64_id (by omega) (by omega)
  have hf : mfind B.e1 (nm w a.seq) = some x.1.fv := by rw [hA.bl, hx]; rfl
  have hsx : B.block w a.seq = x.1 := by unfold Bk.block; rw [mgetD_find, hf]; rfl
  have hp : ptake w p a qs = ⟨{ p.acc with ow := IntKind.wrap .i64 (p.acc.ow - x.1.ask.owesB x.2), ak := IntKind.wrap .i64 (p.acc.ak + 1), bl := IntKind.wrap .i64 (p.acc.bl - 1) }, p.st, updF p.bl a.seq none, p.us, true⟩ := by
    unfold ptake; rw [if_neg (by omega), if_neg (by omega), if_neg (by omega), hx0]; simp only [hx]
  rw [hp]
  obtain ⟨q1, q2⟩ := who_put2 hw ({ B.acc w with ow := IntKind.wrap .i64 ((B.acc w).ow - (B.block w a.seq).ask.owesB x.2), ak := IntKind.wrap .i64 ((B.acc w).ak + 1), bl := IntKind.wrap .i64 ((B.acc w).bl - 1) } : Acc).fv B.c3 h.who h.whn
  have hacc : ∀ v, (B.delBlock w a.seq x.2).acc v = if v = w then { B.acc w with ow := IntKind.wrap .i64 ((B.acc w).ow - x.1.ask.owesB x.2), ak := IntKind.wrap .i64 ((B.acc w).ak + 1), bl := IntKind.wrap .i64 ((B.acc w).bl - 1) } else B.acc v := fun v => by
    unfold Bk.delBlock; rw [acc_setAcc, hsx]; rfl
  have hf0 : ∀ v k, mfind (B.delBlock w a.seq x.2).e1 (nm v k) = if v = w ∧ k = a.seq then none else mfind B.e1 (nm v k) := fun v k => h.bl.find_del _ _ _ _
  have hhs : ∀ v, mhas (B.delBlock w a.seq x.2).e3 (.str v) = (decide (v = w) || mhas B.e3 (.str v)) := fun v => by unfold Bk.delBlock; rw [hs_put]
  have hcnt : ∀ v, cntW v B.e1 = cntW v (B.delBlock w a.seq x.2).e1 + if v = w then 1 else 0 := fun v => h.bl.cnt_del v hf
  have hcw := hcnt w
  rw [if_pos rfl] at hcw
  have hwb : IntKind.wrap .i64 ((B.acc w).bl - 1) = (B.acc w).bl - 1 := wrap64_id (by omega) (by omega)
  refine ⟨⟨h.ok.delBlock, h.st, h.bl.del _, h.us, fun v k hk => ?_, h.use2, fun v => ?_, fun v => ?_, fun e he => h.bw e ((mdel_sub _ _).subset he), h.sw, ?_, q1, q2⟩, ⟨?_, hA.st, fun k => ?_, hA.us, ?_, fun k y hy => ?_⟩, fun v q hv hq => hq.other ?_ (fun _ => rfl) (fun k => ?_) (fun _ => rfl) ?_⟩
  · refine h.use1 v k (hk.imp_right fun hk => ?_)
    rw [hf0] at hk
    split at hk
    · cases hk
    · exact hk
  · rw [hacc]; split
    · simp only [hwr]; omega
    · exact h.ak v
  · have hc := hcnt v
    have hb2 := h.bln v
    rw [hacc]; split
    · rename_i e; rw [if_pos e] at hc; rw [e] at hc hb2 ⊢; simp only [hwb]; omega
    · rename_i e; rw [if_neg e] at hc; omega
  · show B.e0.length ≤ _
    have := h.sz
    omega
  · rw [hacc, if_pos rfl, hA.acc]
  · rw [hf0]
    simp only [updF]
    by_cases hk : k = a.seq
    · rw [if_pos (by simp [hk]), if_pos hk]; rfl
    · rw [if_neg (fun h => hk h.2), if_neg hk]; exact hA.bl k
  · rw [hhs, decide_eq_true rfl, Bool.true_or]
  · simp only [updF] at hy
    split at hy
    · cases hy
    · exact hA.bq k y hy
  · rw [hacc, if_neg hv]
  · rw [hf0, if_neg (fun h => hv h.1)]
  · rw [hhs, decide_eq_false hv, Bool.false_or]


theorem Two.okN (h : Two f s B m) : B.OkN := by
  refine ⟨List.all_eq_true.2 fun x hx => ?_, List.all_eq_true.2 fun x hx => ?_⟩
  · obtain ⟨e, he, rfl⟩ := List.mem_map.1 hx
    obtain ⟨w, k, v, b, rfl, _, _⟩ := h.bl.ent e he
    rfl
  · obtain ⟨e, he, rfl⟩ := List.mem_map.1 hx
    obtain ⟨y, qy, hy, _⟩ := h.bl.val he
    rw [hy]; rfl

theorem Two.mono (h : Two f s B m) : Two f s B (m + 1) := ⟨h.ok, h.st, h.bl, h.us, h.use1, h.use2, h.ak, h.bln, h.bw, h.sw, Nat.le_succ_of_le h.sz, h.who, h.whn⟩

theorem fv_inj {x y : BlF} (h : x.fv = y.fv) : x = y := by
  have := congrArg blOf h
  exact this

theorem child_iff (h : Two f s B m) (hA : Abs B w p) (k : Int) : B.e1.any (childB w k) = true ↔ p.child k := by
  rw [List.any_eq_true]
  constructor
  · rintro ⟨e, he, hc⟩
    have hm := h.bl.mem he
    obtain ⟨w', k', v, b, rfl, hv, ⟨x, qx, rfl, _⟩⟩ := h.bl.ent e he
    have hc' : (decide (w' = w) && decide (x.e = k) && decide (0 < k)) = true := hc
    simp only [Bool.and_eq_true, decide_eq_true_eq] at hc'
    obtain ⟨⟨rfl, h2⟩, h3⟩ := hc'
    rw [show entVal (FV.agg [nm w' k', x.fv, .int .i64 b]) = x.fv from rfl, hv] at hm
    rw [hA.bl] at hm
    obtain ⟨y, hy, hyx⟩ := Option.map_eq_some_iff.1 hm
    exact ⟨k', y, hy, by rw [fv_inj hyx]; exact h2, h3⟩
  · rintro ⟨k', y, hy, h2, h3⟩
    have hf : mfind B.e1 (nm w k') = some y.1.fv := by rw [hA.bl, hy]; rfl
    obtain ⟨⟨e, he, hev⟩, hk, _⟩ := h.bl.find hf
    refine ⟨e, he, ?_⟩
    obtain ⟨w', k'', v, b, rfl, hv, ⟨x, qx, rfl, _⟩⟩ := h.bl.ent e he
    have hx : x = y.1 := fv_inj hev
    rw [← hev] at hk
    rw [show entVal (FV.agg [nm w' k'', x.fv, .int .i64 b]) = x.fv from rfl, hv] at hk
    cases hk
    show (decide (w = w) && decide (x.e = k) && decide (0 < k)) = true
    rw [hx]
    simp [h2, h3]

open Classical in
/-- an ask: what is answered hangs on the participant alone; to the other one nothing changes -/
theorem add_abs {qs : List Int} (h : Two f s B m) (hA : Abs B w p) (hw : w = f ∨ w = s) (hq : a.bq = qs.map (FV.int .i64)) (hl : qs.length ≤ 16) :
    ∃ B' : Bk, evF En (n + 20) 20 (B.L ++ .str w :: a.L) = some (B'.L ++ [.int .i64 (pmay p a qs)]) ∧ Two f s B' (m + 1) ∧ Abs B' w (padd w p a qs) ∧ ∀ v q, v ≠ w → Abs B v q → Abs B' v q := by
  have no : ∀ {e : Int}, pmay p a qs = e → e ≠ 0 → evF En (n + 20) 20 (B.L ++ .str w :: a.L) = some (B.L ++ [.int .i64 e]) →
      ∃ B' : Bk, evF En (n + 20) 20 (B.L ++ .str w :: a.L) = some (B'.L ++ [.int .i64 (pmay p a qs)]) ∧ Two f s B' (m + 1) ∧ Abs B' w (padd w p a qs) ∧ ∀ v q, v ≠ w → Abs B v q → Abs B' v q := fun {e} h1 h2 h3 =>
    ⟨B, by rw [h1]; exact h3, h.mono, by unfold padd; rw [h1, if_neg h2]; exact hA, fun _ _ _ hh => hh⟩
  have yes : ∀ {B' : Bk}, pmay p a qs = 0 → evF En (n + 20) 20 (B.L ++ .str w :: a.L) = some (B'.L ++ [.int .i64 0]) → (Two f s B' (m + 1) ∧ Abs B' w (ptake w p a qs) ∧ ∀ v q, v ≠ w → Abs B v q → Abs B' v q) →
      ∃ B' : Bk, evF En (n + 20) 20 (B.L ++ .str w :: a.L) = some (B'.L ++ [.int .i64 (pmay p a qs)]) ∧ Two f s B' (m + 1) ∧ Abs B' w (padd w p a qs) ∧ ∀ v q, v ≠ w → Abs B v q → Abs B' v q := fun {B'} h1 h2 h3 =>
    ⟨B', by rw [h1]; exact h2, h3.1, by unfold padd; rw [if_pos h1]; exact h3.2.1, h3.2.2⟩
  by_cases hbad : a.kind < 1 ∨ a.kind > 4
  · exact no (e := 1) (by unfold pmay; rw [if_pos hbad]) (by decide) (add_no (by decide) (may_bad (n := n + 17) h.ok hbad))
  by_cases k1 : a.kind = 1
  · have hm := may_lock (n := n + 17) (w := w) h.ok k1
    rw [hA.acc] at hm
    by_cases g1 : p.acc.ak ≥ 24
    · rw [if_pos g1] at hm
      exact no (by unfold pmay; rw [if_neg hbad, if_pos g1]) (by decide) (add_no (by decide) hm)
    rw [if_neg g1] at hm
    by_cases g2 : a.cents < 1 ∨ a.cents > 1000000000
    · rw [if_pos g2] at hm
      exact no (by unfold pmay; rw [if_neg hbad, if_neg g1, if_pos k1, if_pos g2]) (by decide) (add_no (by decide) hm)
    rw [if_neg g2] at hm
    exact yes (by unfold pmay; rw [if_neg hbad, if_neg g1, if_pos k1, if_neg g2]) (add_lock (n := n + 18) h.ok k1 hm) (two_lock h hA hw k1 g1 qs)
  by_cases k2 : a.kind = 2
  · have hm := may_step (n := n + 17) (w := w) h.ok k2
    rw [hA.acc, hA.us] at hm
    by_cases g1 : p.acc.ak ≥ 24
    · rw [if_pos g1] at hm
      exact no (by unfold pmay; rw [if_neg hbad, if_pos g1]) (by decide) (add_no (by decide) hm)
    rw [if_neg g1] at hm
    have e0 : pmay p a qs = if p.us a.s1 > 0 then 100 else if p.acc.st ≥ 8 then 101 else if IntKind.wrap .i64 (p.acc.ow + a.owes) > p.acc.lk then 221 else 0 := by
      unfold pmay; rw [if_neg hbad, if_neg g1, if_neg k1, if_pos k2]
    by_cases g2 : p.us a.s1 > 0
    · rw [if_pos g2] at hm e0
      exact no e0 (by decide) (add_no (by decide) hm)
    rw [if_neg g2] at hm e0
    by_cases g3 : p.acc.st ≥ 8
    · rw [if_pos g3] at hm e0
      exact no e0 (by decide) (add_no (by decide) hm)
    rw [if_neg g3] at hm e0
    by_cases g4 : IntKind.wrap .i64 (p.acc.ow + a.owes) > p.acc.lk
    · rw [if_pos g4] at hm e0
      exact no e0 (by decide) (add_no (by decide) hm)
    rw [if_neg g4] at hm e0
    exact yes e0 (add_step (n := n + 18) h.ok k2 hm) (two_step h hA hw k2 g1 g2 qs)
  by_cases k3 : a.kind = 3
  · have hm := may_block (n := n + 17) (w := w) h.ok k3 hq (by omega) (by omega)
    have hpb : (mhas B.e1 (nm w a.b6) = false) = (p.bl a.b6 = none) := by
      rw [mhas_find, hA.bl]
      cases p.bl a.b6 <;> simp
    rw [hA.acc, hA.us] at hm
    by_cases g1 : p.acc.ak ≥ 24
    · rw [if_pos g1] at hm
      exact no (by unfold pmay; rw [if_neg hbad, if_pos g1]) (by decide) (add_no (by decide) hm)
    rw [if_neg g1] at hm
    have e0 : pmay p a qs = if p.us a.b1 > 0 then 100 else if p.acc.bl ≥ 3 then 101 else if a.b6 > 0 ∧ p.bl a.b6 = none then 103 else if IntKind.wrap .i64 (p.acc.ow + a.owesB qs) > p.acc.lk then 221 else 0 := by
      unfold pmay; rw [if_neg hbad, if_neg g1, if_neg k1, if_neg k2, if_pos k3]
    by_cases g2 : p.us a.b1 > 0
    · rw [if_pos g2] at hm e0
      exact no e0 (by decide) (add_no (by decide) hm)
    rw [if_neg g2] at hm e0
    by_cases g3 : p.acc.bl ≥ 3
    · rw [if_pos g3] at hm e0
      exact no e0 (by decide) (add_no (by decide) hm)
    rw [if_neg g3] at hm e0
    by_cases g5 : a.b6 > 0 ∧ p.bl a.b6 = none
    · rw [if_pos (by rw [hpb]; exact g5)] at hm
      rw [if_pos g5] at e0
      exact no e0 (by decide) (add_no (by decide) hm)
    rw [if_neg (by rw [hpb]; exact g5)] at hm
    rw [if_neg g5] at e0
    by_cases g4 : IntKind.wrap .i64 (p.acc.ow + a.owesB qs) > p.acc.lk
    · rw [if_pos g4] at hm e0
      exact no e0 (by decide) (add_no (by decide) hm)
    rw [if_neg g4] at hm e0
    exact yes e0 (add_block (n := n + 18) h.ok k3 hq (by omega) (by omega) hm) (two_block h hA hw k3 g1 g2 g3 hl)
  have k4 : a.kind = 4 := by omega
  have hm := may_cancel (n := n + 16) (w := w) h.ok h.okN k4
  have hps : (mhas B.e0 (nm w a.seq) = false) = (p.st a.seq = none) := by
    rw [mhas_find, hA.st]
    cases p.st a.seq <;> simp
  have hpb : (mhas B.e1 (nm w a.seq) = false) = (p.bl a.seq = none) := by
    rw [mhas_find, hA.bl]
    cases p.bl a.seq <;> simp
  have hpb' : (mhas B.e1 (nm w a.seq) = true) = (p.bl a.seq ≠ none) := by
    rw [mhas_find, hA.bl]
    cases p.bl a.seq <;> simp
  have hch : (B.e1.any (childB w a.seq) = true) = p.child a.seq := propext (child_iff h hA a.seq)
  by_cases g1 : p.acc.ak ≥ 24
  · rw [hA.acc, if_pos g1] at hm
    exact no (by unfold pmay; rw [if_neg hbad, if_pos g1]) (by decide) (add_no (by decide) hm)
  rw [hA.acc, if_neg g1] at hm
  have e0 : pmay p a qs = if p.st a.seq = none ∧ p.bl a.seq = none then 102 else if p.bl a.seq ≠ none ∧ p.child a.seq then 103 else 0 := by
    unfold pmay; rw [if_neg hbad, if_neg g1, if_neg k1, if_neg k2, if_neg k3]
  by_cases g2 : p.st a.seq = none ∧ p.bl a.seq = none
  · rw [if_pos (by rw [hps, hpb]; exact g2)] at hm
    rw [if_pos g2] at e0
    exact no e0 (by decide) (add_no (by decide) hm)
  rw [if_neg (by rw [hps, hpb]; exact g2)] at hm
  rw [if_neg g2] at e0
  by_cases g3 : p.bl a.seq ≠ none ∧ p.child a.seq
  · rw [if_pos (by rw [hpb', hch]; exact g3)] at hm
    rw [if_pos g3] at e0
    exact no e0 (by decide) (add_no (by decide) hm)
  rw [if_neg (by rw [hpb', hch]; exact g3)] at hm
  rw [if_neg g3] at e0
  cases h0 : p.st a.seq with
  | some x =>
    have hs : mhas B.e0 (nm w a.seq) = true := by rw [mhas_find, hA.st, h0]; rfl
    exact yes e0 (add_cancel_step (n := n + 18) h.ok k4 hs hm) (two_delStep h hA hw k4 g1 h0 qs)
  | none =>
    have hs : mhas B.e0 (nm w a.seq) = false := by rw [mhas_find, hA.st, h0]; rfl
    cases h1 : p.bl a.seq with
    | none => exact absurd ⟨h0, h1⟩ g2
    | some x =>
      obtain ⟨b1, b2⟩ := hA.bq _ _ h1
      have hb : (B.block w a.seq).q = x.2.map (FV.int .i64) := by
        have : B.block w a.seq = x.1 := by unfold Bk.block; rw [mgetD_find, hA.bl, h1]; rfl
        rw [this]; exact b1
      exact yes e0 (add_cancel_block (n := n + 18) h.ok k4 hs hb (by omega) (by omega) hm) (two_delBlock h hA hw k4 g1 h0 h1 qs)

end
end Rf
end

section
/- The document's book, of one participant alone: what it answers. -/
set_option linter.unusedSimpArgs false
set_option linter.unusedVariables false
set_option maxHeartbeats 1000000
namespace Rf
open Go

theorem wrap_emod (x : Int) : IntKind.wrap .i64 x % 18446744073709551616 = x % 18446744073709551616 := by
  unfold IntKind.wrap
  simp [IntKind.bits, IntKind.signed]
  split <;> omega
theorem wrap_congr {x y : Int} (h : x % 18446744073709551616 = y % 18446744073709551616) : IntKind.wrap .i64 x = IntKind.wrap .i64 y := by
  unfold IntKind.wrap
  simp [IntKind.bits, IntKind.signed, h]
theorem wrap_addl (x y : Int) : IntKind.wrap .i64 (IntKind.wrap .i64 x + y) = IntKind.wrap .i64 (x + y) := by
  refine wrap_congr ?_
  have := wrap_emod x
  omega
theorem wrap_subl (x y : Int) : IntKind.wrap .i64 (IntKind.wrap .i64 x - y) = IntKind.wrap .i64 (x - y) := by
  refine wrap_congr ?_
  have := wrap_emod x
  omega

/-- an ask that was taken -/
structure Rc where
  a : Ask
  qs : List Int
  g : Bool

def Rc.fv (w : ByteArray) (r : Rc) : FV := .agg [.str w, .int .i64 r.a.kind, .int .i64 r.a.cents, .int .i64 r.a.seq, .str r.a.sw, .int .i64 r.a.s1, .int .i64 r.a.s2, .int .i64 r.a.s3, .bool r.a.sb, .int .i64 r.a.s5, .int .i64 r.a.s6,
  .str r.a.bw, .int .i64 r.a.b1, .int .i64 r.a.b2, .bool r.a.bb, .int .i64 r.a.b4, .list 1 (r.qs.map (FV.int .i64)), .int .i64 r.a.b6, .int .i64 r.a.b7, .bool r.g]

abbrev natF (o : Nat) : FV := .int .i64 (o : Int)

def isOrd (r : Rc) : Bool := decide (r.a.kind = 2) || decide (r.a.kind = 3)
def sqOf (r : Rc) : Int := if r.a.kind = 2 then r.a.s1 else r.a.b1
def Rc.z : Rc := ⟨⟨0, 0, 0, { data := #[] }, 0, 0, 0, false, 0, 0, { data := #[] }, 0, 0, false, 0, [], 0, 0⟩, [], false⟩

section
variable {n : Nat} {w : ByteArray} {rs : List Rc}

theorem rc_at {i : Nat} (c : Nat) (h : i < rs.length) : at' (rs.map (Rc.fv w)) i c = (Rc.fv w (rs.getD i Rc.z)).cells[c]? := by
  rw [at_map, List.getElem?_eq_getElem h, List.getD_eq_getElem?_getD, List.getElem?_eq_getElem h]; rfl

theorem nat_at {os : List Nat} {i : Nat} (h : i < os.length) : at' (os.map natF) i 0 = some (.int .i64 ((os.getD i 0 : Nat) : Int)) := by
  rw [at_map, List.getElem?_eq_getElem h, List.getD_eq_getElem?_getD, List.getElem?_eq_getElem h]; rfl

theorem asks_loop (h24 : rs.length ≤ 1000) : ∀ (d i m : Nat), i + d = rs.length → d < m →
    noonbellref10_Book_Asks.l3 n [] m [.list 20 (rs.map (Rc.fv w)), .str w, .int .i64 (i : Int), .int .i64 (i : Int)] = some [.list 20 (rs.map (Rc.fv w)), .int .i64 (rs.length : Int)] := by
  intro d
  induction d with
  | zero =>
    intro i m hi hm
    obtain ⟨m, rfl⟩ : ∃ k, m = k + 1 := ⟨m - 1, by omega⟩
    rw [noonbellref10_Book_Asks.l3_eq, List.length_map, decide_eq_false (by omega), cond_false, show i = rs.length by omega]
  | succ d ih =>
    intro i m hi hm
    obtain ⟨m, rfl⟩ : ∃ k, m = k + 1 := ⟨m - 1, by omega⟩
    have hl : i < rs.length := by omega
    rw [noonbellref10_Book_Asks.l3_eq, List.length_map, decide_eq_true (by omega), cond_true]
    simp only [ix_nat hl, Option.bind_some, rc_at _ hl, Rc.fv, FV.cells, List.getElem?_cons_zero, asStr_str, toList_eq, decide_true, cond_true]
    rw [wrap_succ (by omega)]
    exact ih (i + 1) m (by omega) (by omega)

theorem asks_ref (h24 : rs.length ≤ 1000) (hn : rs.length < n) : evF En (n + 1) 69 [.list 20 (rs.map (Rc.fv w)), .str w] = some [.list 20 (rs.map (Rc.fv w)), .int .i64 (rs.length : Int)] := by
  rw [noonbellref10_Book_Asks_eq]
  exact asks_loop h24 rs.length 0 n (by simp) hn

/-- places of the orders -/
def ordsF : Nat → List Rc → List Nat
  | _, [] => []
  | i, r :: l => bif isOrd r then i :: ordsF (i + 1) l else ordsF (i + 1) l

theorem ordsF_lt : ∀ (l : List Rc) (i : Nat) {o : Nat}, o ∈ ordsF i l → i ≤ o ∧ o < i + l.length
  | [], _, _, h => by simp [ordsF] at h
  | r :: l, i, o, h => by
    simp only [ordsF] at h
    simp only [List.length_cons]
    cases hr : isOrd r with
    | true =>
      rw [hr, cond_true] at h
      rcases List.mem_cons.1 h with rfl | h
      · omega
      · have := ordsF_lt l (i + 1) h; omega
    | false =>
      rw [hr, cond_false] at h
      have := ordsF_lt l (i + 1) h; omega

theorem ordsF_map (pre : List Rc) : ∀ (l : List Rc), (ordsF pre.length l).map (fun o => (pre ++ l).getD o Rc.z) = l.filter isOrd
  | [] => rfl
  | r :: l => by
    have ih := ordsF_map (pre ++ [r]) l
    rw [List.length_append, List.length_singleton, List.append_assoc, List.singleton_append] at ih
    simp only [ordsF]
    cases hr : isOrd r with
    | true =>
      rw [cond_true, List.map_cons, ih, List.filter_cons, hr, if_pos rfl]
      congr 1
      rw [List.getD_eq_getElem?_getD, List.getElem?_append_right (Nat.le_refl _)]
      simp
    | false => rw [cond_false, ih, List.filter_cons, hr]; rfl

theorem ords_map (rs : List Rc) : (ordsF 0 rs).map (fun o => rs.getD o Rc.z) = rs.filter isOrd := ordsF_map [] rs

theorem ords_loop (h24 : rs.length ≤ 1000) : ∀ (d i m : Nat) (os : List Nat), i + d = rs.length → d < m → os.length ≤ i →
    noonbellref10_Book_orders.l3 n [] m [.list 20 (rs.map (Rc.fv w)), .str w, .list 1 (os.map natF), .int .i64 (i : Int)] =
      some [.list 20 (rs.map (Rc.fv w)), .list 1 ((os ++ ordsF i (rs.drop i)).map natF)] := by
  intro d
  induction d with
  | zero =>
    intro i m os hi hm ho
    obtain ⟨m, rfl⟩ : ∃ k, m = k + 1 := ⟨m - 1, by omega⟩
    rw [noonbellref10_Book_orders.l3_eq, List.length_map, decide_eq_false (by omega), cond_false, List.drop_of_length_le (by omega)]
    simp [ordsF]
  | succ d ih =>
    intro i m os hi hm ho
    obtain ⟨m, rfl⟩ : ∃ k, m = k + 1 := ⟨m - 1, by omega⟩
    have hl : i < rs.length := by omega
    have hd : rs.drop i = rs.getD i Rc.z :: rs.drop (i + 1) := by
      rw [List.drop_eq_getElem_cons hl, List.getD_eq_getElem?_getD, List.getElem?_eq_getElem hl]; rfl
    have happ : ∀ o : Nat, (os.map natF) ++ elemsOf 1 (.int .i64 0) [(0, .int .i64 (o : Int))] = (os ++ [o]).map natF := fun o => by
      rw [List.map_append]; rfl
    rw [noonbellref10_Book_orders.l3_eq, List.length_map, decide_eq_true (by omega), cond_true, hd]
    simp only [ix_nat hl, Option.bind_some, rc_at _ hl, Rc.fv, FV.cells, List.getElem?_cons_zero, List.getElem?_cons_succ, asStr_str, asInt_int, toList_eq, decide_true, cond_true, ordsF, isOrd]
    rw [happ, wrap_succ (by omega), show Nat.ble ((os.map natF).length + (elemsOf 1 (.int .i64 0) [(0, .int .i64 (i : Int))]).length) 17592186044416 = true from Nat.ble_eq_true_of_le (by simp [elemsOf]; omega)]
    simp only [cond_true]
    by_cases h2 : (rs.getD i Rc.z).a.kind = 2
    · rw [show ((rs.getD i Rc.z).a.kind == 2) = true from beq_iff_eq.2 h2, cond_true, decide_eq_true h2, Bool.true_or, cond_true]
      rw [ih (i + 1) m (os ++ [i]) (by omega) (by omega) (by simp; omega), List.append_assoc]
      rfl
    · rw [show ((rs.getD i Rc.z).a.kind == 2) = false from beq_eq_false_iff_ne.2 h2, cond_false, decide_eq_false h2, Bool.false_or]
      by_cases h3 : (rs.getD i Rc.z).a.kind = 3
      · rw [show ((rs.getD i Rc.z).a.kind == 3) = true from beq_iff_eq.2 h3, cond_true, decide_eq_true h3, cond_true]
        rw [ih (i + 1) m (os ++ [i]) (by omega) (by omega) (by simp; omega), List.append_assoc]
        rfl
      · rw [show ((rs.getD i Rc.z).a.kind == 3) = false from beq_eq_false_iff_ne.2 h3, cond_false, decide_eq_false h3, cond_false]
        exact ih (i + 1) m os (by omega) (by omega) (by omega)

theorem ords_ref (h24 : rs.length ≤ 1000) (hn : rs.length < n) : evF En (n + 1) 72 [.list 20 (rs.map (Rc.fv w)), .str w] = some [.list 20 (rs.map (Rc.fv w)), .list 1 ((ordsF 0 rs).map natF)] := by
  rw [noonbellref10_Book_orders_eq]
  exact ords_loop h24 rs.length 0 n [] (by simp) hn (Nat.zero_le _)


theorem drop_cons {os : List Nat} {j : Nat} (h : j < os.length) : os.drop j = os.getD j 0 :: os.drop (j + 1) := by
  rw [List.drop_eq_getElem_cons h, List.getD_eq_getElem?_getD, List.getElem?_eq_getElem h]; rfl

theorem getD_mem {os : List Nat} {j : Nat} (h : j < os.length) : os.getD j 0 ∈ os := by
  rw [List.getD_eq_getElem?_getD, List.getElem?_eq_getElem h]
  exact List.getElem_mem h

abbrev getR (rs : List Rc) (o : Nat) : Rc := rs.getD o Rc.z

def aliveB (k : Int) (r : Rc) : Bool := !r.g && decide (r.a.kind = k)

theorem alive_loop {os : List Nat} {k : Int} (ho : ∀ o, o ∈ os → o < rs.length) (hos : os.length ≤ 1000) : ∀ (d j m x : Nat), j + d = os.length → d < m → x ≤ j →
    noonbellref10_Book_alive.l4 n [] m [.list 20 (rs.map (Rc.fv w)), .int .i64 k, .int .i64 (x : Int), .list 1 (os.map natF), .int .i64 (j : Int)] =
      some [.list 20 (rs.map (Rc.fv w)), .int .i64 ((x + ((os.drop j).map (getR rs)).countP (aliveB k) : Nat) : Int)] := by
  intro d
  induction d with
  | zero =>
    intro j m x hj hm hx
    obtain ⟨m, rfl⟩ : ∃ k, m = k + 1 := ⟨m - 1, by omega⟩
    rw [noonbellref10_Book_alive.l4_eq, List.length_map, decide_eq_false (by omega), cond_false, List.drop_of_length_le (by omega)]
    simp
  | succ d ih =>
    intro j m x hj hm hx
    obtain ⟨m, rfl⟩ : ∃ k, m = k + 1 := ⟨m - 1, by omega⟩
    have hl : j < os.length := by omega
    have hr := ho _ (getD_mem hl)
    rw [noonbellref10_Book_alive.l4_eq, List.length_map, decide_eq_true (by omega), cond_true, drop_cons hl]
    simp only [ix_nat hl, Option.bind_some, nat_at hl, asInt_int, List.length_map, ix_nat hr, rc_at _ hr, Rc.fv, FV.cells, List.getElem?_cons_zero, List.getElem?_cons_succ, asBool_bool]
    rw [wrap_succ (i := j) (by omega), List.map_cons, List.countP_cons]
    have e : aliveB k (getR rs (os.getD j 0)) = (!(rs.getD (os.getD j 0) Rc.z).g && decide ((rs.getD (os.getD j 0) Rc.z).a.kind = k)) := rfl
    rw [e]
    cases (rs.getD (os.getD j 0) Rc.z).g with
    | true =>
      simp only [Bool.not_true, cond_false, Bool.false_and]
      rw [ih (j + 1) m x (by omega) (by omega) (by omega)]
      simp
    | false =>
      simp only [Bool.not_false, cond_true, Bool.true_and]
      by_cases hk : (rs.getD (os.getD j 0) Rc.z).a.kind = k
      · rw [show ((rs.getD (os.getD j 0) Rc.z).a.kind == k) = true from beq_iff_eq.2 hk, cond_true, decide_eq_true hk, wrap_succ (i := x) (by omega), ih (j + 1) m (x + 1) (by omega) (by omega) (by omega), if_pos rfl]
        rw [show x + 1 + (List.map (getR rs) (os.drop (j + 1))).countP (aliveB k) = x + ((List.map (getR rs) (os.drop (j + 1))).countP (aliveB k) + 1) by omega]
      · rw [show ((rs.getD (os.getD j 0) Rc.z).a.kind == k) = false from beq_eq_false_iff_ne.2 hk, cond_false, decide_eq_false hk, ih (j + 1) m x (by omega) (by omega) (by omega), if_neg (by simp)]
        rfl

theorem ords_ok (rs : List Rc) : (∀ o, o ∈ ordsF 0 rs → o < rs.length) ∧ (ordsF 0 rs).length ≤ rs.length := by
  refine ⟨fun o h => by have := ordsF_lt rs 0 h; omega, ?_⟩
  have := congrArg List.length (ords_map rs)
  rw [List.length_map] at this
  rw [this]
  exact List.length_filter_le _ _

theorem alive_ref {k : Int} (h24 : rs.length ≤ 1000) (hn : rs.length < n) : evF En (n + 2) 84 [.list 20 (rs.map (Rc.fv w)), .str w, .int .i64 k] =
    some [.list 20 (rs.map (Rc.fv w)), .int .i64 (((rs.filter isOrd).countP (aliveB k) : Nat) : Int)] := by
  obtain ⟨o1, o2⟩ := ords_ok rs
  rw [noonbellref10_Book_alive_eq, ords_ref h24 hn]
  simp only [Option.bind_some, List.getElem?_cons_zero, List.getElem?_cons_succ, asLst_list]
  have := alive_loop (n := n + 1) (w := w) (k := k) o1 (by omega) (ordsF 0 rs).length 0 (n + 1) 0 (by simp) (by omega) (Nat.le_refl _)
  rw [List.drop_zero, ords_map, Nat.zero_add] at this
  exact this

theorem seq_run2 (a : Ask) : evF En (n + 1) 73 a.L = some [.int .i64 (if a.kind = 2 then a.s1 else a.b1)] := by
  unfold Ask.L
  rw [noonbellref10_seq_eq]
  by_cases h : a.kind = 2
  · rw [if_pos h, show (a.kind == 2) = true from beq_iff_eq.2 h]; rfl
  · rw [if_neg h, show (a.kind == 2) = false from beq_eq_false_iff_ne.2 h]; rfl

/-- where an order of this number stands -/
def whereO (rs : List Rc) (k : Int) (os : List Nat) : Int := match os.find? (fun o => decide (sqOf (getR rs o) = k)) with | some o => o | none => -1

theorem find_loop {os : List Nat} {k : Int} (ho : ∀ o, o ∈ os → o < rs.length) (hos : os.length ≤ 1000) : ∀ (d j m : Nat), j + d = os.length → d < m →
    noonbellref10_Book_find.l3 (n + 1) [] m [.list 20 (rs.map (Rc.fv w)), .int .i64 k, .list 1 (os.map natF), .int .i64 (j : Int)] =
      some [.list 20 (rs.map (Rc.fv w)), .int .i64 (whereO rs k (os.drop j))] := by
  intro d
  induction d with
  | zero =>
    intro j m hj hm
    obtain ⟨m, rfl⟩ : ∃ k, m = k + 1 := ⟨m - 1, by omega⟩
    rw [noonbellref10_Book_find.l3_eq, List.length_map, decide_eq_false (by omega), cond_false, List.drop_of_length_le (by omega)]
    rfl
  | succ d ih =>
    intro j m hj hm
    obtain ⟨m, rfl⟩ : ∃ k, m = k + 1 := ⟨m - 1, by omega⟩
    have hl : j < os.length := by omega
    have hr := ho _ (getD_mem hl)
    have hs := seq_run2 (n := n) { (getR rs (os.getD j 0)).a with bq := (getR rs (os.getD j 0)).qs.map (FV.int .i64) }
    simp only [Ask.L] at hs
    rw [noonbellref10_Book_find.l3_eq, List.length_map, decide_eq_true (by omega), cond_true, drop_cons hl]
    simp only [ix_nat hl, Option.bind_some, nat_at hl, asInt_int, List.length_map, ix_nat hr, rc_at _ hr, Rc.fv, FV.cells, List.getElem?_cons_zero, List.getElem?_cons_succ, asBool_bool, asStr_str, asLst_list]
    rw [hs]
    simp only [Option.bind_some, List.getElem?_cons_zero, asInt_int]
    unfold whereO
    rw [List.find?_cons]
    have e : decide (sqOf (getR rs (os.getD j 0)) = k) = ((if (getR rs (os.getD j 0)).a.kind = 2 then (getR rs (os.getD j 0)).a.s1 else (getR rs (os.getD j 0)).a.b1) == k) := by
      rw [Bool.eq_iff_iff]; simp [sqOf]
    rw [e]
    cases ((if (getR rs (os.getD j 0)).a.kind = 2 then (getR rs (os.getD j 0)).a.s1 else (getR rs (os.getD j 0)).a.b1) == k) with
    | true => rfl
    | false =>
      rw [cond_false, wrap_succ (by omega)]
      exact ih (j + 1) m (by omega) (by omega)

theorem find_ref {k : Int} (h24 : rs.length ≤ 1000) (hn : rs.length < n) : evF En (n + 2) 53 [.list 20 (rs.map (Rc.fv w)), .str w, .int .i64 k] =
    some [.list 20 (rs.map (Rc.fv w)), .int .i64 (whereO rs k (ordsF 0 rs))] := by
  obtain ⟨o1, o2⟩ := ords_ok rs
  rw [noonbellref10_Book_find_eq, ords_ref h24 hn]
  simp only [Option.bind_some, List.getElem?_cons_zero, List.getElem?_cons_succ, asLst_list]
  exact find_loop (n := n) (w := w) (k := k) o1 (by omega) (ordsF 0 rs).length 0 (n + 1) (by simp) (by omega)

/-- what an ask may cost -/
def cost (a : Ask) (qs : List Int) : Int := if a.kind = 2 then a.owes else if a.kind = 3 then a.owesB qs else 0

theorem max_same (x : Int) : (if 0 < x then x else 0) = (if x < 0 then 0 else x) := by split <;> split <;> omega

theorem l13_run {qs : List Int} (hl : qs.length < 1000000) {x0 x1 x2 x4 x5 x6 x8 x9 x11 x12 x14 x16 x17 x18 : Int} {s3 s10 : ByteArray} {b7 b13 b20 : Bool} : ∀ (l : List Int) (i m : Nat) (acc : Int), qs.drop i = l → i + l.length = qs.length → l.length < m →
    noonbellref09_Owes.l13 n [] m [.int .i64 x0, .int .i64 x1, .int .i64 x2, .str s3, .int .i64 x4, .int .i64 x5, .int .i64 x6, .bool b7, .int .i64 x8, .int .i64 x9, .str s10, .int .i64 x11, .int .i64 x12, .bool b13, .int .i64 x14, .list 1 (qs.map (FV.int .i64)), .int .i64 x16, .int .i64 x17, .int .i64 x18, .int .i64 acc, .bool b20, .int .i64 (i : Int)] =
      some [.int .i64 (IntKind.wrap .i64 ((if (if b20 then x18 else IntKind.wrap .i64 (0 - x18)) < 0 then 0 else (if b20 then x18 else IntKind.wrap .i64 (0 - x18))) * sumW acc l))]
  | [], i, m, acc, hd, hi, hm => by
    obtain ⟨m, rfl⟩ : ∃ k, m = k + 1 := ⟨m - 1, by omega⟩
    simp only [List.length_nil] at hi
    rw [noonbellref09_Owes.l13_eq, List.length_map, decide_eq_false (by omega), cond_false]
    cases b20 with
    | true => rw [Bool.not_true, cond_false, max_same]; rfl
    | false => rw [Bool.not_false, cond_true, max_same]; rfl
  | q :: l, i, m, acc, hd, hi, hm => by
    obtain ⟨m, rfl⟩ : ∃ k, m = k + 1 := ⟨m - 1, by omega⟩
    simp only [List.length_cons] at hi hm
    have hlt : i < qs.length := by omega
    have hq : qs[i] = q := by
      have := congrArg (fun l => l[0]?) hd
      simp only [List.getElem?_drop, Nat.add_zero, List.getElem?_cons_zero] at this
      rw [List.getElem?_eq_getElem hlt] at this
      simpa using this
    rw [noonbellref09_Owes.l13_eq, List.length_map, decide_eq_true (by omega), cond_true, ix_nat hlt, Option.bind_some, at_map, List.getElem?_eq_getElem hlt, hq]
    simp only [Option.bind_some, FV.cells, List.getElem?_cons_zero, asInt_int]
    rw [wrap_succ (by omega)]
    exact l13_run hl l (i + 1) m _ (by rw [← List.drop_drop, hd]; rfl) (by omega) (by omega)

theorem cost_run {a : Ask} {qs : List Int} (hq : a.bq = qs.map (FV.int .i64)) (hl : qs.length < 1000000) (hn : qs.length < n) : evF En (n + 1) 86 a.L = some [.int .i64 (cost a qs)] := by
  unfold Ask.L cost
  rw [noonbellref09_Owes_eq]
  by_cases h2 : a.kind = 2
  · rw [if_pos h2, show (a.kind == 2) = true from beq_iff_eq.2 h2, cond_true]
    unfold Ask.owes
    cases a.sb with
    | true => rw [Bool.not_true, cond_false, max_same]; rfl
    | false => rw [Bool.not_false, cond_true, max_same]; rfl
  · rw [if_neg h2, show (a.kind == 2) = false from beq_eq_false_iff_ne.2 h2, cond_false]
    by_cases h3 : a.kind = 3
    · rw [if_pos h3, show (a.kind == 3) = true from beq_iff_eq.2 h3, cond_true, hq]
      exact l13_run hl qs 0 n 0 rfl (by simp) hn
    · rw [if_neg h3, show (a.kind == 3) = false from beq_eq_false_iff_ne.2 h3, cond_false]


/-- what the orders that live may cost, one after another -/
def sumO : Int → List Rc → Int
  | x, [] => x
  | x, r :: l => sumO (if r.g then x else IntKind.wrap .i64 (x + cost r.a r.qs)) l

theorem cost_run' (r : Rc) (hl : r.qs.length < 1000000) (hn : r.qs.length < n) : evF En (n + 1) 86 ({ r.a with bq := r.qs.map (FV.int .i64) } : Ask).L = some [.int .i64 (cost r.a r.qs)] :=
  cost_run (a := { r.a with bq := r.qs.map (FV.int .i64) }) rfl hl hn

theorem owes_loop {os : List Nat} (ho : ∀ o, o ∈ os → o < rs.length) (hos : os.length ≤ 1000) (hq : ∀ r, r ∈ rs → r.qs.length ≤ 16) (hn : 16 < n) : ∀ (d j m : Nat) (x : Int), j + d = os.length → d < m →
    noonbellref10_Book_Owes.l4 (n + 1) [] m [.list 20 (rs.map (Rc.fv w)), .int .i64 x, .list 1 (os.map natF), .int .i64 (j : Int)] =
      some [.list 20 (rs.map (Rc.fv w)), .int .i64 (sumO x ((os.drop j).map (getR rs)))] := by
  intro d
  induction d with
  | zero =>
    intro j m x hj hm
    obtain ⟨m, rfl⟩ : ∃ k, m = k + 1 := ⟨m - 1, by omega⟩
    rw [noonbellref10_Book_Owes.l4_eq, List.length_map, decide_eq_false (by omega), cond_false, List.drop_of_length_le (by omega)]
    rfl
  | succ d ih =>
    intro j m x hj hm
    obtain ⟨m, rfl⟩ : ∃ k, m = k + 1 := ⟨m - 1, by omega⟩
    have hl : j < os.length := by omega
    have hr := ho _ (getD_mem hl)
    have hmem : getR rs (os.getD j 0) ∈ rs := by
      show rs.getD _ _ ∈ rs
      rw [List.getD_eq_getElem?_getD, List.getElem?_eq_getElem hr]
      exact List.getElem_mem hr
    have hs := cost_run' (n := n) (getR rs (os.getD j 0)) (by have := hq _ hmem; omega) (by have := hq _ hmem; omega)
    simp only [Ask.L] at hs
    rw [noonbellref10_Book_Owes.l4_eq, List.length_map, decide_eq_true (by omega), cond_true, drop_cons hl]
    simp only [ix_nat hl, Option.bind_some, nat_at hl, asInt_int, List.length_map, ix_nat hr, rc_at _ hr, Rc.fv, FV.cells, List.getElem?_cons_zero, List.getElem?_cons_succ, asBool_bool, asStr_str, asLst_list]
    rw [hs]
    simp only [Option.bind_some, List.getElem?_cons_zero, asInt_int, List.map_cons, sumO]
    rw [wrap_succ (i := j) (by omega)]
    have e : (getR rs (os.getD j 0)).g = (rs.getD (os.getD j 0) Rc.z).g := rfl
    rw [e]
    cases (rs.getD (os.getD j 0) Rc.z).g with
    | true =>
      simp only [Bool.not_true, cond_false, if_true]
      exact ih (j + 1) m x (by omega) (by omega)
    | false =>
      simp only [Bool.not_false, cond_true, Bool.false_eq_true, if_false]
      exact ih (j + 1) m _ (by omega) (by omega)

theorem owes_ref (h24 : rs.length ≤ 1000) (hn : rs.length < n) (hn' : 16 < n) (hq : ∀ r, r ∈ rs → r.qs.length ≤ 16) : evF En (n + 2) 85 [.list 20 (rs.map (Rc.fv w)), .str w] =
    some [.list 20 (rs.map (Rc.fv w)), .int .i64 (sumO 0 (rs.filter isOrd))] := by
  obtain ⟨o1, o2⟩ := ords_ok rs
  rw [noonbellref10_Book_Owes_eq, ords_ref h24 hn]
  simp only [Option.bind_some, List.getElem?_cons_zero, List.getElem?_cons_succ, asLst_list]
  have := owes_loop (n := n) (w := w) o1 (by omega) hq hn' (ordsF 0 rs).length 0 (n + 1) 0 (by simp) (by omega)
  rw [List.drop_zero, ords_map] at this
  exact this

/-- what was locked, one after another -/
def lockO : Int → List Rc → Int
  | x, [] => x
  | x, r :: l => lockO (if r.a.kind = 1 then IntKind.wrap .i64 (x + r.a.cents) else x) l

theorem lock_loop (h24 : rs.length ≤ 1000) : ∀ (d i m : Nat) (x : Int), i + d = rs.length → d < m →
    noonbellref10_Book_Locked.l3 n [] m [.list 20 (rs.map (Rc.fv w)), .str w, .int .i64 x, .int .i64 (i : Int)] = some [.list 20 (rs.map (Rc.fv w)), .int .i64 (lockO x (rs.drop i))] := by
  intro d
  induction d with
  | zero =>
    intro i m x hi hm
    obtain ⟨m, rfl⟩ : ∃ k, m = k + 1 := ⟨m - 1, by omega⟩
    rw [noonbellref10_Book_Locked.l3_eq, List.length_map, decide_eq_false (by omega), cond_false, List.drop_of_length_le (by omega)]
    rfl
  | succ d ih =>
    intro i m x hi hm
    obtain ⟨m, rfl⟩ : ∃ k, m = k + 1 := ⟨m - 1, by omega⟩
    have hl : i < rs.length := by omega
    have hd : rs.drop i = rs.getD i Rc.z :: rs.drop (i + 1) := by
      rw [List.drop_eq_getElem_cons hl, List.getD_eq_getElem?_getD, List.getElem?_eq_getElem hl]; rfl
    rw [noonbellref10_Book_Locked.l3_eq, List.length_map, decide_eq_true (by omega), cond_true, hd]
    simp only [ix_nat hl, Option.bind_some, rc_at _ hl, Rc.fv, FV.cells, List.getElem?_cons_zero, List.getElem?_cons_succ, asStr_str, asInt_int, toList_eq, decide_true, cond_true, lockO]
    rw [wrap_succ (i := i) (by omega)]
    by_cases h1 : (rs.getD i Rc.z).a.kind = 1
    · rw [show ((rs.getD i Rc.z).a.kind == 1) = true from beq_iff_eq.2 h1, cond_true, if_pos h1]
      exact ih (i + 1) m _ (by omega) (by omega)
    · rw [show ((rs.getD i Rc.z).a.kind == 1) = false from beq_eq_false_iff_ne.2 h1, cond_false, if_neg h1]
      exact ih (i + 1) m _ (by omega) (by omega)

theorem lock_ref (h24 : rs.length ≤ 1000) (hn : rs.length < n) : evF En (n + 1) 87 [.list 20 (rs.map (Rc.fv w)), .str w] = some [.list 20 (rs.map (Rc.fv w)), .int .i64 (lockO 0 rs)] := by
  rw [noonbellref10_Book_Locked_eq]
  exact lock_loop h24 rs.length 0 n 0 (by simp) hn

/-- a child that lives -/
def kidB (k : Int) (r : Rc) : Bool := !r.g && (decide (r.a.kind = 3) && decide (r.a.b6 = k))

theorem cancel_loop {os : List Nat} {k : Int} {at0 : Nat} (ho : ∀ o, o ∈ os → o < rs.length) (hos : os.length ≤ 1000) (hat : at0 < rs.length) : ∀ (d j m : Nat), j + d = os.length → d < m →
    noonbellref10_Book_cancel.l6 n [] m [.list 20 (rs.map (Rc.fv w)), .int .i64 k, .int .i64 (at0 : Int), .list 1 (os.map natF), .int .i64 (j : Int)] =
      some [.list 20 (rs.map (Rc.fv w)), .int .i64 (if ((os.drop j).map (getR rs)).any (kidB k) = true ∧ k > 0 ∧ (getR rs at0).a.kind = 3 then 103 else 0)] := by
  intro d
  induction d with
  | zero =>
    intro j m hj hm
    obtain ⟨m, rfl⟩ : ∃ k, m = k + 1 := ⟨m - 1, by omega⟩
    rw [noonbellref10_Book_cancel.l6_eq, List.length_map, decide_eq_false (by omega), cond_false, List.drop_of_length_le (by omega), if_neg (by simp)]
  | succ d ih =>
    intro j m hj hm
    obtain ⟨m, rfl⟩ : ∃ k, m = k + 1 := ⟨m - 1, by omega⟩
    have hl : j < os.length := by omega
    have hr := ho _ (getD_mem hl)
    have ih := ih (j + 1) m (by omega) (by omega)
    rw [noonbellref10_Book_cancel.l6_eq, List.length_map, decide_eq_true (by omega), cond_true, drop_cons hl]
    simp only [ix_nat hl, ix_nat hat, Option.bind_some, nat_at hl, asInt_int, List.length_map, ix_nat hr, rc_at _ hr, rc_at _ hat, Rc.fv, FV.cells, List.getElem?_cons_zero, List.getElem?_cons_succ, asBool_bool, asStr_str, asLst_list]
    rw [wrap_succ (i := j) (by omega), ih, List.map_cons, List.any_cons]
    have e : kidB k (getR rs (os.getD j 0)) = (!(rs.getD (os.getD j 0) Rc.z).g && (((rs.getD (os.getD j 0) Rc.z).a.kind == 3) && ((rs.getD (os.getD j 0) Rc.z).a.b6 == k))) := by
      unfold kidB getR
      rw [show decide ((rs.getD (os.getD j 0) Rc.z).a.kind = 3) = ((rs.getD (os.getD j 0) Rc.z).a.kind == 3) by rw [Bool.eq_iff_iff]; simp, show decide ((rs.getD (os.getD j 0) Rc.z).a.b6 = k) = ((rs.getD (os.getD j 0) Rc.z).a.b6 == k) by rw [Bool.eq_iff_iff]; simp]
    have ea : (getR rs at0) = rs.getD at0 Rc.z := rfl
    rw [e, ea]
    generalize ((os.drop (j + 1)).map (getR rs)).any (kidB k) = rest
    cases (rs.getD (os.getD j 0) Rc.z).g with
    | true => simp
    | false =>
      cases ((rs.getD (os.getD j 0) Rc.z).a.kind == 3) with
      | false => simp
      | true =>
        cases ((rs.getD (os.getD j 0) Rc.z).a.b6 == k) with
        | false => simp
        | true =>
          by_cases hk : k > 0
          · rw [decide_eq_true hk]
            by_cases h3 : (rs.getD at0 Rc.z).a.kind = 3
            · rw [show ((rs.getD at0 Rc.z).a.kind == 3) = true from beq_iff_eq.2 h3]
              simp only [Bool.not_false, cond_true, Bool.true_and, Bool.true_or]
              rw [if_pos ⟨trivial, hk, h3⟩]
            · rw [show ((rs.getD at0 Rc.z).a.kind == 3) = false from beq_eq_false_iff_ne.2 h3]
              simp only [Bool.not_false, cond_true, cond_false, Bool.true_and, Bool.true_or]
              rw [if_neg (fun h => h3 h.2.2), if_neg (fun h => h3 h.2.2)]
          · rw [decide_eq_false hk]
            simp only [Bool.not_false, cond_true, cond_false, Bool.true_and, Bool.true_or]
            rw [if_neg (fun h => hk h.2.1), if_neg (fun h => hk h.2.1)]


/-- the document's book and the participant -/
structure Rr (w : ByteArray) (rs : List Rc) (p : PS) : Prop where
  ak : p.acc.ak = rs.length ∧ rs.length ≤ 24
  lk : p.acc.lk = lockO 0 rs
  ow : p.acc.ow = sumO 0 (rs.filter isOrd)
  st : p.acc.st = ((rs.filter isOrd).countP (aliveB 2) : Nat)
  bl : p.acc.bl = ((rs.filter isOrd).countP (aliveB 3) : Nat)
  us0 : ∀ k, 0 ≤ p.us k
  us : ∀ k, p.us k > 0 ↔ ∃ r, r ∈ rs.filter isOrd ∧ sqOf r = k
  sts : ∀ k x, p.st k = some x ↔ ∃ r, r ∈ rs.filter isOrd ∧ r.a.kind = 2 ∧ r.g = false ∧ sqOf r = k ∧ x = stepOf w r.a
  bls : ∀ k x, p.bl k = some x ↔ ∃ r, r ∈ rs.filter isOrd ∧ r.a.kind = 3 ∧ r.g = false ∧ sqOf r = k ∧ x = (blockOf w r.a r.qs, r.qs)
  uniq : ((rs.filter isOrd).map sqOf).Nodup
  qs : ∀ r, r ∈ rs → r.qs.length ≤ 16

theorem where_none {k : Int} (h : ∀ r, r ∈ rs.filter isOrd → sqOf r ≠ k) : whereO rs k (ordsF 0 rs) = -1 := by
  unfold whereO
  have : (ordsF 0 rs).find? (fun o => decide (sqOf (getR rs o) = k)) = none := by
    rw [List.find?_eq_none]
    intro o ho
    have : getR rs o ∈ rs.filter isOrd := by rw [← ords_map]; exact List.mem_map.2 ⟨o, ho, rfl⟩
    simpa using h _ this
  rw [this]

theorem where_some {k : Int} {r : Rc} (hu : ((rs.filter isOrd).map sqOf).Nodup) (hr : r ∈ rs.filter isOrd) (hk : sqOf r = k) : ∃ o : Nat, whereO rs k (ordsF 0 rs) = (o : Int) ∧ o < rs.length ∧ getR rs o = r := by
  unfold whereO
  cases hf : (ordsF 0 rs).find? (fun o => decide (sqOf (getR rs o) = k)) with
  | none =>
    rw [List.find?_eq_none] at hf
    have hr' := hr
    rw [← ords_map] at hr'
    obtain ⟨o, ho, rfl⟩ := List.mem_map.1 hr'
    exact absurd (decide_eq_true hk) (hf o ho)
  | some o =>
    have h1 := List.find?_some hf
    have h2 := List.mem_of_find?_eq_some hf
    have h3 : getR rs o ∈ rs.filter isOrd := by rw [← ords_map]; exact List.mem_map.2 ⟨o, h2, rfl⟩
    exact ⟨o, rfl, (ords_ok rs).1 o h2, nodup_inj hu _ _ h3 hr (by rw [of_decide_eq_true h1, hk])⟩

theorem ord_kind {r : Rc} (h : r ∈ rs.filter isOrd) : r ∈ rs ∧ (r.a.kind = 2 ∨ r.a.kind = 3) := by
  obtain ⟨h1, h2⟩ := List.mem_filter.1 h
  exact ⟨h1, by simpa [isOrd] using h2⟩

theorem order2_ref {p : PS} {a : Ask} {qs : List Int} (h : Rr w rs p) (hk : a.kind = 2) (hq : a.bq = qs.map (FV.int .i64)) (hl : qs.length ≤ 16) : evF En (n + 40) 71 (.list 20 (rs.map (Rc.fv w)) :: .str w :: a.L) =
    some [.list 20 (rs.map (Rc.fv w)), .int .i64 (if p.us a.s1 > 0 then 100 else if p.acc.st ≥ 8 then 101 else if IntKind.wrap .i64 (p.acc.ow + a.owes) > p.acc.lk then 221 else 0)] := by
  have h24 := h.ak.2
  have r1 := seq_run2 (n := n + 38) a
  rw [if_pos hk] at r1
  have r2 := find_ref (n := n + 37) (w := w) (k := a.s1) (rs := rs) (by omega) (by omega)
  have r3 := alive_ref (n := n + 37) (w := w) (k := 2) (rs := rs) (by omega) (by omega)
  have r4 := owes_ref (n := n + 37) (w := w) (rs := rs) (by omega) (by omega) (by omega) h.qs
  have r5 := cost_run (n := n + 38) hq (by omega) (by omega)
  rw [show cost a qs = a.owes by unfold cost; rw [if_pos hk]] at r5
  have r6 := lock_ref (n := n + 38) (w := w) (rs := rs) (by omega) (by omega)
  rw [← h.st] at r3
  rw [← h.ow] at r4
  rw [← h.lk] at r6
  unfold Ask.L at r1 r5 ⊢
  rw [noonbellref10_Book_order_eq, r1]
  simp only [Option.bind_some, List.getElem?_cons_zero, asInt_int]
  rw [r2]
  simp only [Option.bind_some, List.getElem?_cons_zero, List.getElem?_cons_succ, asInt_int, asLst_list]
  by_cases hu : p.us a.s1 > 0
  · obtain ⟨r, hr, hrk⟩ := (h.us _).1 hu
    obtain ⟨o, ho, _⟩ := where_some h.uniq hr hrk
    rw [ho, decide_eq_true (by omega), cond_true, if_pos hu]
  · rw [where_none (fun r hr hrk => hu ((h.us _).2 ⟨r, hr, hrk⟩)), show decide ((-1 : Int) ≥ 0) = false from rfl, cond_false, if_neg hu]
    rw [hk] at r5 ⊢
    rw [show ((2 : Int) == 3) = false from rfl, cond_false, r3]
    simp only [Option.bind_some, List.getElem?_cons_zero, List.getElem?_cons_succ, asInt_int, asLst_list]
    by_cases g1 : p.acc.st ≥ 8
    · rw [decide_eq_true g1, cond_true, if_pos g1]
    · rw [decide_eq_false g1, cond_false, if_neg g1, cond_false, r4]
      simp only [Option.bind_some, List.getElem?_cons_zero, List.getElem?_cons_succ, asInt_int, asLst_list]
      rw [r5]
      simp only [Option.bind_some, List.getElem?_cons_zero, List.getElem?_cons_succ, asInt_int, asLst_list]
      rw [r6]
      simp only [Option.bind_some, List.getElem?_cons_zero, List.getElem?_cons_succ, asInt_int, asLst_list]
      by_cases g2 : IntKind.wrap .i64 (p.acc.ow + a.owes) > p.acc.lk
      · rw [decide_eq_true g2, cond_true, if_pos g2]
      · rw [decide_eq_false g2, cond_false, if_neg g2]

theorem order3_ref {p : PS} {a : Ask} {qs : List Int} (h : Rr w rs p) (hk : a.kind = 3) (hq : a.bq = qs.map (FV.int .i64)) (hl : qs.length ≤ 16) : evF En (n + 40) 71 (.list 20 (rs.map (Rc.fv w)) :: .str w :: a.L) =
    some [.list 20 (rs.map (Rc.fv w)), .int .i64 (if p.us a.b1 > 0 then 100 else if p.acc.bl ≥ 3 then 101 else if a.b6 > 0 ∧ p.bl a.b6 = none then 103 else if IntKind.wrap .i64 (p.acc.ow + a.owesB qs) > p.acc.lk then 221 else 0)] := by
  have h24 := h.ak.2
  have r1 := seq_run2 (n := n + 38) a
  rw [if_neg (by omega)] at r1
  have r2 := find_ref (n := n + 37) (w := w) (k := a.b1) (rs := rs) (by omega) (by omega)
  have r2' := find_ref (n := n + 37) (w := w) (k := a.b6) (rs := rs) (by omega) (by omega)
  have r3 := alive_ref (n := n + 37) (w := w) (k := 3) (rs := rs) (by omega) (by omega)
  have r4 := owes_ref (n := n + 37) (w := w) (rs := rs) (by omega) (by omega) (by omega) h.qs
  have r5 := cost_run (n := n + 38) hq (by omega) (by omega)
  rw [show cost a qs = a.owesB qs by unfold cost; rw [if_neg (by omega), if_pos hk]] at r5
  have r6 := lock_ref (n := n + 38) (w := w) (rs := rs) (by omega) (by omega)
  rw [← h.bl] at r3
  rw [← h.ow] at r4
  rw [← h.lk] at r6
  unfold Ask.L at r1 r5 ⊢
  rw [noonbellref10_Book_order_eq, r1]
  simp only [Option.bind_some, List.getElem?_cons_zero, asInt_int]
  rw [r2]
  simp only [Option.bind_some, List.getElem?_cons_zero, List.getElem?_cons_succ, asInt_int, asLst_list]
  by_cases hu : p.us a.b1 > 0
  · obtain ⟨r, hr, hrk⟩ := (h.us _).1 hu
    obtain ⟨o, ho, _⟩ := where_some h.uniq hr hrk
    rw [ho, decide_eq_true (by omega), cond_true, if_pos hu]
  rw [where_none (fun r hr hrk => hu ((h.us _).2 ⟨r, hr, hrk⟩)), show decide ((-1 : Int) ≥ 0) = false from rfl, cond_false, if_neg hu]
  rw [hk] at r5 ⊢
  rw [show ((3 : Int) == 3) = true from rfl, cond_true, r3]
  simp only [Option.bind_some, List.getElem?_cons_zero, List.getElem?_cons_succ, asInt_int, asLst_list]
  by_cases g1 : p.acc.bl ≥ 3
  · rw [decide_eq_true g1, cond_true, if_pos g1]
  rw [decide_eq_false g1, cond_false, if_neg g1, cond_true]
  have tail : ((evF En (n + 39) 85 [.list 20 (rs.map (Rc.fv w)), .str w]).bind fun r => (asLst 20 r[0]?).bind fun v => (asInt .i64 r[1]?).bind fun x => (evF En (n + 39) 86 [.int .i64 3, .int .i64 a.cents, .int .i64 a.seq, .str a.sw, .int .i64 a.s1, .int .i64 a.s2, .int .i64 a.s3, .bool a.sb, .int .i64 a.s5, .int .i64 a.s6, .str a.bw, .int .i64 a.b1, .int .i64 a.b2, .bool a.bb, .int .i64 a.b4, .list 1 a.bq, .int .i64 a.b6, .int .i64 a.b7]).bind fun r2 => (asInt .i64 r2[0]?).bind fun y => (evF En (n + 39) 87 [.list 20 v, .str w]).bind fun r3 => (asLst 20 r3[0]?).bind fun v2 => (asInt .i64 r3[1]?).bind fun z =>
      bif decide (IntKind.wrap .i64 (x + y) > z) then some [FV.list 20 v2, FV.int .i64 221] else some [FV.list 20 v2, FV.int .i64 0]) = some [.list 20 (rs.map (Rc.fv w)), .int .i64 (if IntKind.wrap .i64 (p.acc.ow + a.owesB qs) > p.acc.lk then 221 else 0)] := by
    rw [r4]
    simp only [Option.bind_some, List.getElem?_cons_zero, List.getElem?_cons_succ, asInt_int, asLst_list]
    rw [r5]
    simp only [Option.bind_some, List.getElem?_cons_zero, List.getElem?_cons_succ, asInt_int, asLst_list]
    rw [r6]
    simp only [Option.bind_some, List.getElem?_cons_zero, List.getElem?_cons_succ, asInt_int, asLst_list]
    by_cases g2 : IntKind.wrap .i64 (p.acc.ow + a.owesB qs) > p.acc.lk
    · rw [decide_eq_true g2, cond_true, if_pos g2]
    · rw [decide_eq_false g2, cond_false, if_neg g2]
  by_cases g6 : a.b6 > 0
  · rw [decide_eq_true g6, cond_true, r2']
    simp only [Option.bind_some, List.getElem?_cons_zero, List.getElem?_cons_succ, asInt_int, asLst_list]
    by_cases hx : ∃ r, r ∈ rs.filter isOrd ∧ sqOf r = a.b6
    · obtain ⟨r, hr, hrk⟩ := hx
      obtain ⟨o, ho, hol, hor⟩ := where_some h.uniq hr hrk
      have hor' : rs.getD o Rc.z = r := hor
      rw [ho, decide_eq_false (by omega), cond_false]
      simp only [List.length_map, ix_nat hol, Option.bind_some, rc_at _ hol, hor', Rc.fv, FV.cells, List.getElem?_cons_zero, List.getElem?_cons_succ, asBool_bool, asInt_int]
      cases hg : r.g with
      | true =>
        rw [cond_true, if_pos]
        refine ⟨g6, ?_⟩
        cases hb : p.bl a.b6 with
        | none => rfl
        | some x =>
          obtain ⟨r', hr', _, hg', hs', _⟩ := (h.bls _ _).1 hb
          rw [nodup_inj h.uniq _ _ hr hr' (by rw [hrk, hs'])] at hg
          rw [hg] at hg'; cases hg'
      | false =>
        rw [cond_false]
        by_cases h3 : r.a.kind = 3
        · have hb : p.bl a.b6 = some (blockOf w r.a r.qs, r.qs) := (h.bls _ _).2 ⟨r, hr, h3, hg, hrk, rfl⟩
          rw [show (r.a.kind != 3) = false by simp [h3], cond_false, if_neg (fun hh => by rw [hb] at hh; cases hh.2)]
          exact tail
        · rw [show (r.a.kind != 3) = true by simp [h3], cond_true, if_pos]
          refine ⟨g6, ?_⟩
          cases hb : p.bl a.b6 with
          | none => rfl
          | some x =>
            obtain ⟨r', hr', h3', _, hs', _⟩ := (h.bls _ _).1 hb
            rw [nodup_inj h.uniq _ _ hr hr' (by rw [hrk, hs'])] at h3
            exact absurd h3' h3
    · rw [where_none (fun r hr hrk => hx ⟨r, hr, hrk⟩), show decide ((-1 : Int) < 0) = true from rfl, cond_true, if_pos]
      refine ⟨g6, ?_⟩
      cases hb : p.bl a.b6 with
      | none => rfl
      | some x =>
        obtain ⟨r', hr', _, _, hs', _⟩ := (h.bls _ _).1 hb
        exact absurd ⟨r', hr', hs'⟩ hx
  · rw [decide_eq_false g6, cond_false, if_neg (fun hh => g6 hh.1)]
    exact tail


open Classical in
theorem cancel_ref {p : PS} {k : Int} (h : Rr w rs p) : evF En (n + 40) 70 [.list 20 (rs.map (Rc.fv w)), .str w, .int .i64 k] =
    some [.list 20 (rs.map (Rc.fv w)), .int .i64 (if p.st k = none ∧ p.bl k = none then 102 else if p.bl k ≠ none ∧ p.child k then 103 else 0)] := by
  have h24 := h.ak.2
  have r2 := find_ref (n := n + 37) (w := w) (k := k) (rs := rs) (by omega) (by omega)
  have r3 := ords_ref (n := n + 38) (w := w) (rs := rs) (by omega) (by omega)
  rw [noonbellref10_Book_cancel_eq, r2]
  simp only [Option.bind_some, List.getElem?_cons_zero, List.getElem?_cons_succ, asInt_int, asLst_list]
  by_cases hx : ∃ r, r ∈ rs.filter isOrd ∧ sqOf r = k
  · obtain ⟨r, hr, hrk⟩ := hx
    obtain ⟨o, ho, hol, hor⟩ := where_some h.uniq hr hrk
    have hor' : rs.getD o Rc.z = r := hor
    have same : ∀ r', r' ∈ rs.filter isOrd → sqOf r' = k → r' = r := fun r' hr' hk' => nodup_inj h.uniq _ _ hr' hr (by rw [hk', hrk])
    rw [ho, decide_eq_false (by omega), cond_false]
    simp only [List.length_map, ix_nat hol, Option.bind_some, rc_at _ hol, hor', Rc.fv, FV.cells, List.getElem?_cons_zero, List.getElem?_cons_succ, asBool_bool, asInt_int]
    cases hg : r.g with
    | true =>
      rw [cond_true, if_pos]
      constructor
      · cases hb : p.st k with
        | none => rfl
        | some x =>
          obtain ⟨r', hr', _, hg', hs', _⟩ := (h.sts _ _).1 hb
          rw [same r' hr' hs', hg] at hg'; cases hg'
      · cases hb : p.bl k with
        | none => rfl
        | some x =>
          obtain ⟨r', hr', _, hg', hs', _⟩ := (h.bls _ _).1 hb
          rw [same r' hr' hs', hg] at hg'; cases hg'
    | false =>
      rw [cond_false, r3]
      simp only [Option.bind_some, List.getElem?_cons_zero, List.getElem?_cons_succ, asInt_int, asLst_list]
      obtain ⟨o1, o2⟩ := ords_ok rs
      have hc := cancel_loop (n := n + 39) (w := w) (k := k) o1 (by omega) hol (ordsF 0 rs).length 0 (n + 39) (by simp) (by omega)
      rw [List.drop_zero, ords_map, show getR rs o = r from hor] at hc
      have hc' : noonbellref10_Book_cancel.l6 (n + 39) [] (n + 39) [.list 20 (rs.map (Rc.fv w)), .int .i64 k, .int .i64 (o : Int), .list 1 ((ordsF 0 rs).map natF), .int .i64 0] = _ := hc
      rw [hc']
      have kd := (ord_kind hr).2
      have n1 : ¬ (p.st k = none ∧ p.bl k = none) := fun ⟨a1, a2⟩ => by
        rcases kd with h2 | h3
        · rw [(h.sts k _).2 ⟨r, hr, h2, hg, hrk, rfl⟩] at a1; cases a1
        · rw [(h.bls k _).2 ⟨r, hr, h3, hg, hrk, rfl⟩] at a2; cases a2
      rw [if_neg n1]
      have he : (((rs.filter isOrd).any (kidB k) = true ∧ k > 0 ∧ r.a.kind = 3)) ↔ (p.bl k ≠ none ∧ p.child k) := by
        constructor
        · rintro ⟨h1, h2, h3⟩
          refine ⟨by rw [(h.bls k _).2 ⟨r, hr, h3, hg, hrk, rfl⟩]; simp, ?_⟩
          obtain ⟨r', hr', hb⟩ := List.any_eq_true.1 h1
          simp only [kidB, Bool.and_eq_true, Bool.not_eq_true', decide_eq_true_eq] at hb
          exact ⟨sqOf r', _, (h.bls _ _).2 ⟨r', hr', hb.2.1, hb.1, rfl, rfl⟩, hb.2.2, h2⟩
        · rintro ⟨h1, k', x, hx, hxe, hk0⟩
          refine ⟨?_, hk0, ?_⟩
          · obtain ⟨r', hr', h3', hg', hs', rfl⟩ := (h.bls _ _).1 hx
            refine List.any_eq_true.2 ⟨r', hr', ?_⟩
            simp only [kidB, Bool.and_eq_true, Bool.not_eq_true', decide_eq_true_eq]
            exact ⟨hg', h3', hxe⟩
          · cases hb : p.bl k with
            | none => exact absurd hb h1
            | some y =>
              obtain ⟨r', hr', h3', _, hs', _⟩ := (h.bls _ _).1 hb
              rw [same r' hr' hs'] at h3'; exact h3'
      by_cases hh : p.bl k ≠ none ∧ p.child k
      · rw [if_pos (he.2 hh), if_pos hh]
      · rw [if_neg (fun h => hh (he.1 h)), if_neg hh]
  · rw [where_none (fun r hr hrk => hx ⟨r, hr, hrk⟩), show decide ((-1 : Int) < 0) = true from rfl, cond_true, if_pos]
    constructor
    · cases hb : p.st k with
      | none => rfl
      | some x =>
        obtain ⟨r', hr', _, _, hs', _⟩ := (h.sts _ _).1 hb
        exact absurd ⟨r', hr', hs'⟩ hx
    · cases hb : p.bl k with
      | none => rfl
      | some x =>
        obtain ⟨r', hr', _, _, hs', _⟩ := (h.bls _ _).1 hb
        exact absurd ⟨r', hr', hs'⟩ hx

theorem may_ref {p : PS} {a : Ask} {qs : List Int} (h : Rr w rs p) (hq : a.bq = qs.map (FV.int .i64)) (hl : qs.length ≤ 16) : evF En (n + 41) 52 (.list 20 (rs.map (Rc.fv w)) :: .str w :: a.L) =
    some [.list 20 (rs.map (Rc.fv w)), .int .i64 (pmay p a qs)] := by
  have h24 := h.ak.2
  have r1 := asks_ref (n := n + 39) (w := w) (rs := rs) (by omega) (by omega)
  rw [← h.ak.1] at r1
  have r2 := fun h2 => order2_ref (n := n) (a := a) h h2 hq hl
  have r3 := fun h3 => order3_ref (n := n) (a := a) h h3 hq hl
  have r4 := cancel_ref (n := n) (k := a.seq) h
  unfold Ask.L at r2 r3 ⊢
  rw [noonbellref10_Book_May_eq]
  unfold pmay
  by_cases g1 : a.kind < 1
  · rw [decide_eq_true g1, cond_true, if_pos (.inl g1)]
  rw [decide_eq_false g1, cond_false]
  by_cases g2 : a.kind > 4
  · rw [decide_eq_true g2, cond_true, if_pos (.inr g2)]
  rw [decide_eq_false g2, cond_false, if_neg (by omega), r1]
  simp only [Option.bind_some, List.getElem?_cons_zero, List.getElem?_cons_succ, asInt_int, asLst_list]
  by_cases g3 : p.acc.ak ≥ 24
  · rw [decide_eq_true g3, cond_true, if_pos g3]
  rw [decide_eq_false g3, cond_false, if_neg g3]
  by_cases k1 : a.kind = 1
  · rw [show (a.kind == 1) = true from beq_iff_eq.2 k1, cond_true, if_pos k1]
    by_cases c1 : a.cents < 1
    · rw [decide_eq_true c1, cond_true, if_pos (.inl c1)]
    · rw [decide_eq_false c1, cond_false]
      by_cases c2 : a.cents > 1000000000
      · rw [decide_eq_true c2, cond_true, if_pos (.inr c2)]
      · rw [decide_eq_false c2, cond_false, if_neg (by omega)]
  rw [show (a.kind == 1) = false from beq_eq_false_iff_ne.2 k1, cond_false, if_neg k1]
  by_cases k2 : a.kind = 2
  · rw [show (a.kind == 4) = false from beq_eq_false_iff_ne.2 (by omega), cond_false, if_pos k2, r2 k2]
    simp only [Option.bind_some, List.getElem?_cons_zero, List.getElem?_cons_succ, asInt_int, asLst_list]
  rw [if_neg k2]
  by_cases k3 : a.kind = 3
  · rw [show (a.kind == 4) = false from beq_eq_false_iff_ne.2 (by omega), cond_false, if_pos k3, r3 k3]
    simp only [Option.bind_some, List.getElem?_cons_zero, List.getElem?_cons_succ, asInt_int, asLst_list]
  · rw [show (a.kind == 4) = true from beq_iff_eq.2 (by omega), cond_true, if_neg k3, r4]
    simp only [Option.bind_some, List.getElem?_cons_zero, List.getElem?_cons_succ, asInt_int, asLst_list]


theorem lockO_app : ∀ (l : List Rc) (x : Int) (l' : List Rc), lockO x (l ++ l') = lockO (lockO x l) l'
  | [], _, _ => rfl
  | r :: l, x, l' => by simp only [List.cons_append, lockO]; exact lockO_app l _ l'

/-- all that may be owed -/
def totO : List Rc → Int
  | [] => 0
  | r :: l => (if r.g then 0 else cost r.a r.qs) + totO l

theorem totO_app : ∀ (l l' : List Rc), totO (l ++ l') = totO l + totO l'
  | [], l' => by simp [totO]
  | r :: l, l' => by simp only [List.cons_append, totO, totO_app l l']; omega

theorem wrap_idem (x : Int) : IntKind.wrap .i64 (IntKind.wrap .i64 x) = IntKind.wrap .i64 x := wrap_congr (wrap_emod x)

theorem sumO_tot : ∀ (l : List Rc) (x : Int), IntKind.wrap .i64 x = x → sumO x l = IntKind.wrap .i64 (x + totO l)
  | [], x, h => by simp only [sumO, totO]; rw [Int.add_zero, h]
  | r :: l, x, h => by
    simp only [sumO, totO]
    cases r.g with
    | true =>
      rw [if_pos rfl, if_pos rfl, sumO_tot l x h, Int.zero_add]
    | false =>
      rw [if_neg (by simp), if_neg (by simp), sumO_tot l _ (wrap_idem _), wrap_addl, Int.add_assoc]

theorem sumO_0 (l : List Rc) : sumO 0 l = IntKind.wrap .i64 (totO l) := by rw [sumO_tot l 0 rfl, Int.zero_add]

/-- an ask, as it is kept -/
def keepA (w : ByteArray) (a : Ask) (qs : List Int) : Rc := ⟨{ a with sw := w, bw := w }, qs, false⟩

theorem filter_new (c : Rc) (h : isOrd c = false) : (rs ++ [c]).filter isOrd = rs.filter isOrd := by
  rw [List.filter_append]; simp [h]
theorem filter_ord (c : Rc) (h : isOrd c = true) : (rs ++ [c]).filter isOrd = rs.filter isOrd ++ [c] := by
  rw [List.filter_append]; simp [h]

theorem rr_lock {p : PS} {a : Ask} {qs : List Int} (h : Rr w rs p) (hk : a.kind = 1) (ha : ¬ p.acc.ak ≥ 24) (hl : qs.length ≤ 16) : Rr w (rs ++ [keepA w a qs]) (ptake w p a qs) := by
  have h24 := h.ak
  have hp : ptake w p a qs = ⟨{ p.acc with lk := IntKind.wrap .i64 (p.acc.lk + a.cents), ak := IntKind.wrap .i64 (p.acc.ak + 1) }, p.st, p.bl, p.us, true⟩ := by unfold ptake; rw [if_pos hk]
  rw [hp]
  have hf : (rs ++ [keepA w a qs]).filter isOrd = rs.filter isOrd := filter_new _ (by simp [isOrd, keepA, hk])
  refine ⟨?_, ?_, by rw [hf]; exact h.ow, by rw [hf]; exact h.st, by rw [hf]; exact h.bl, h.us0, by rw [hf]; exact h.us, by rw [hf]; exact h.sts, by rw [hf]; exact h.bls, by rw [hf]; exact h.uniq, fun r hr => ?_⟩
  · simp only [List.length_append, List.length_singleton]
    rw [wrap64_id (by omega) (by omega)]
    omega
  · rw [lockO_app, ← h.lk]
    simp only [lockO]
    rw [if_pos (show (keepA w a qs).a.kind = 1 from hk)]
    rfl
  · rcases List.mem_append.1 hr with hr | hr
    · exact h.qs r hr
    · rw [List.mem_singleton] at hr; rw [hr]; exact hl

theorem rr_step {p : PS} {a : Ask} {qs : List Int} (h : Rr w rs p) (hk : a.kind = 2) (ha : ¬ p.acc.ak ≥ 24) (hu : ¬ p.us a.s1 > 0) (hl : qs.length ≤ 16) : Rr w (rs ++ [keepA w a qs]) (ptake w p a qs) := by
  have h24 := h.ak
  have hcl := List.countP_le_length (p := aliveB 2) (l := rs.filter isOrd)
  have hfl := List.length_filter_le isOrd rs
  have hst := h.st
  have hu0 : p.us a.s1 = 0 := by have := h.us0 a.s1; omega
  have hp : ptake w p a qs = ⟨{ p.acc with ow := IntKind.wrap .i64 (p.acc.ow + a.owes), ak := IntKind.wrap .i64 (p.acc.ak + 1), st := IntKind.wrap .i64 (p.acc.st + 1) },
    updF p.st a.s1 (some (stepOf w a)), p.bl, updF p.us a.s1 (IntKind.wrap .i64 (p.us a.s1 + 1)), true⟩ := by unfold ptake; rw [if_neg (by omega), if_pos hk]
  rw [hp, hu0]
  have hf : (rs ++ [keepA w a qs]).filter isOrd = rs.filter isOrd ++ [keepA w a qs] := filter_ord _ (by simp [isOrd, keepA, hk])
  have hsq : sqOf (keepA w a qs) = a.s1 := by unfold sqOf; rw [if_pos (show (keepA w a qs).a.kind = 2 from hk)]; rfl
  have hno : ∀ r, r ∈ rs.filter isOrd → sqOf r ≠ a.s1 := fun r hr he => hu ((h.us _).2 ⟨r, hr, he⟩)
  have hco : cost (keepA w a qs).a (keepA w a qs).qs = a.owes := by unfold cost; rw [if_pos (show (keepA w a qs).a.kind = 2 from hk)]; rfl
  refine ⟨?_, ?_, ?_, ?_, ?_, fun k => ?_, fun k => ?_, fun k x => ?_, fun k x => ?_, ?_, fun r hr => ?_⟩
  · simp only [List.length_append, List.length_singleton]
    rw [wrap64_id (by omega) (by omega)]
    omega
  · rw [lockO_app, ← h.lk]
    simp only [lockO]
    rw [if_neg (show ¬ (keepA w a qs).a.kind = 1 by show ¬ a.kind = 1; omega)]
  · rw [hf, sumO_0, totO_app]
    show IntKind.wrap .i64 (p.acc.ow + a.owes) = _
    rw [h.ow, sumO_0, wrap_addl]
    simp only [totO, hco]
    rw [show (keepA w a qs).g = false from rfl, if_neg (by simp), Int.add_zero]
  · rw [hf, List.countP_append, List.countP_cons, List.countP_nil, if_pos (by simp [aliveB, keepA, hk])]
    show IntKind.wrap .i64 (p.acc.st + 1) = _
    rw [wrap64_id (by omega) (by omega)]
    omega
  · rw [hf, List.countP_append, List.countP_cons, List.countP_nil, if_neg (by simp [aliveB, keepA, hk])]
    exact h.bl
  · simp only [updF]; split
    · decide
    · exact h.us0 k
  · rw [hf]
    simp only [updF]
    by_cases hk' : k = a.s1
    · rw [if_pos hk']
      exact ⟨fun _ => ⟨keepA w a qs, by simp, by rw [hsq, hk']⟩, fun _ => by decide⟩
    · rw [if_neg hk', h.us k]
      constructor
      · rintro ⟨r, hr, he⟩; exact ⟨r, by simp [hr], he⟩
      · rintro ⟨r, hr, he⟩
        rcases List.mem_append.1 hr with hr | hr
        · exact ⟨r, hr, he⟩
        · rw [List.mem_singleton] at hr; rw [hr, hsq] at he; exact absurd he.symm hk'
  · rw [hf]
    simp only [updF]
    by_cases hk' : k = a.s1
    · rw [if_pos hk']
      constructor
      · intro hx; cases hx
        exact ⟨keepA w a qs, by simp, hk, rfl, by rw [hsq, hk'], rfl⟩
      · rintro ⟨r, hr, _, _, he, rfl⟩
        rcases List.mem_append.1 hr with hr | hr
        · exact absurd (he.trans hk') (hno r hr)
        · rw [List.mem_singleton] at hr; rw [hr]; rfl
    · rw [if_neg hk', h.sts k x]
      constructor
      · rintro ⟨r, hr, he⟩; exact ⟨r, by simp [hr], he⟩
      · rintro ⟨r, hr, he⟩
        rcases List.mem_append.1 hr with hr | hr
        · exact ⟨r, hr, he⟩
        · rw [List.mem_singleton] at hr; rw [hr, hsq] at he; exact absurd he.2.2.1.symm hk'
  · rw [hf, h.bls k x]
    constructor
    · rintro ⟨r, hr, he⟩; exact ⟨r, by simp [hr], he⟩
    · rintro ⟨r, hr, he⟩
      rcases List.mem_append.1 hr with hr | hr
      · exact ⟨r, hr, he⟩
      · rw [List.mem_singleton] at hr; rw [hr] at he
        have : a.kind = 3 := he.1
        omega
  · rw [hf, List.map_append, List.nodup_append]
    refine ⟨h.uniq, by simp, fun x hx y hy hxy => ?_⟩
    obtain ⟨r, hr, rfl⟩ := List.mem_map.1 hx
    simp only [List.map_cons, List.map_nil, List.mem_singleton] at hy
    rw [hy, hsq] at hxy
    exact hno r hr hxy
  · rcases List.mem_append.1 hr with hr | hr
    · exact h.qs r hr
    · rw [List.mem_singleton] at hr; rw [hr]; exact hl

theorem rr_block {p : PS} {a : Ask} {qs : List Int} (h : Rr w rs p) (hk : a.kind = 3) (ha : ¬ p.acc.ak ≥ 24) (hu : ¬ p.us a.b1 > 0) (hl : qs.length ≤ 16) : Rr w (rs ++ [keepA w a qs]) (ptake w p a qs) := by
  have h24 := h.ak
  have hcl := List.countP_le_length (p := aliveB 3) (l := rs.filter isOrd)
  have hfl := List.length_filter_le isOrd rs
  have hst := h.bl
  have hu0 : p.us a.b1 = 0 := by have := h.us0 a.b1; omega
  have hp : ptake w p a qs = ⟨{ p.acc with ow := IntKind.wrap .i64 (p.acc.ow + a.owesB qs), ak := IntKind.wrap .i64 (p.acc.ak + 1), bl := IntKind.wrap .i64 (p.acc.bl + 1) },
    p.st, updF p.bl a.b1 (some (blockOf w a qs, qs)), updF p.us a.b1 (IntKind.wrap .i64 (p.us a.b1 + 1)), true⟩ := by unfold ptake; rw [if_neg (by omega), if_neg (by omega), if_pos hk]
  rw [hp, hu0]
  have hf : (rs ++ [keepA w a qs]).filter isOrd = rs.filter isOrd ++ [keepA w a qs] := filter_ord _ (by simp [isOrd, keepA, hk])
  have hsq : sqOf (keepA w a qs) = a.b1 := by unfold sqOf; rw [if_neg (show ¬ (keepA w a qs).a.kind = 2 by show ¬ a.kind = 2; omega)]; rfl
  have hno : ∀ r, r ∈ rs.filter isOrd → sqOf r ≠ a.b1 := fun r hr he => hu ((h.us _).2 ⟨r, hr, he⟩)
  have hco : cost (keepA w a qs).a (keepA w a qs).qs = a.owesB qs := by unfold cost; rw [if_neg (show ¬ (keepA w a qs).a.kind = 2 by show ¬ a.kind = 2; omega), if_pos (show (keepA w a qs).a.kind = 3 from hk)]; rfl
  refine ⟨?_, ?_, ?_, ?_, ?_, fun k => ?_, fun k => ?_, fun k x => ?_, fun k x => ?_, ?_, fun r hr => ?_⟩
  · simp only [List.length_append, List.length_singleton]
    rw [wrap64_id (by omega) (by omega)]
    omega
  · rw [lockO_app, ← h.lk]
    simp only [lockO]
    rw [if_neg (show ¬ (keepA w a qs).a.kind = 1 by show ¬ a.kind = 1; omega)]
  · rw [hf, sumO_0, totO_app]
    show IntKind.wrap .i64 (p.acc.ow + a.owesB qs) = _
    rw [h.ow, sumO_0, wrap_addl]
    simp only [totO, hco]
    rw [show (keepA w a qs).g = false from rfl, if_neg (by simp), Int.add_zero]
  · rw [hf, List.countP_append, List.countP_cons, List.countP_nil, if_neg (by simp [aliveB, keepA, hk])]
    exact h.st
  · rw [hf, List.countP_append, List.countP_cons, List.countP_nil, if_pos (by simp [aliveB, keepA, hk])]
    show IntKind.wrap .i64 (p.acc.bl + 1) = _
    rw [wrap64_id (by omega) (by omega)]
    omega
  · simp only [updF]; split
    · decide
    · exact h.us0 k
  · rw [hf]
    simp only [updF]
    by_cases hk' : k = a.b1
    · rw [if_pos hk']
      exact ⟨fun _ => ⟨keepA w a qs, by simp, by rw [hsq, hk']⟩, fun _ => by decide⟩
    · rw [if_neg hk', h.us k]
      constructor
      · rintro ⟨r, hr, he⟩; exact ⟨r, by simp [hr], he⟩
      · rintro ⟨r, hr, he⟩
        rcases List.mem_append.1 hr with hr | hr
        · exact ⟨r, hr, he⟩
        · rw [List.mem_singleton] at hr; rw [hr, hsq] at he; exact absurd he.symm hk'
  · rw [hf, h.sts k x]
    constructor
    · rintro ⟨r, hr, he⟩; exact ⟨r, by simp [hr], he⟩
    · rintro ⟨r, hr, he⟩
      rcases List.mem_append.1 hr with hr | hr
      · exact ⟨r, hr, he⟩
      · rw [List.mem_singleton] at hr; rw [hr] at he
        have : a.kind = 2 := he.1
        omega
  · rw [hf]
    simp only [updF]
    by_cases hk' : k = a.b1
    · rw [if_pos hk']
      constructor
      · intro hx; cases hx
        exact ⟨keepA w a qs, by simp, hk, rfl, by rw [hsq, hk'], rfl⟩
      · rintro ⟨r, hr, _, _, he, rfl⟩
        rcases List.mem_append.1 hr with hr | hr
        · exact absurd (he.trans hk') (hno r hr)
        · rw [List.mem_singleton] at hr; rw [hr]; rfl
    · rw [if_neg hk', h.bls k x]
      constructor
      · rintro ⟨r, hr, he⟩; exact ⟨r, by simp [hr], he⟩
      · rintro ⟨r, hr, he⟩
        rcases List.mem_append.1 hr with hr | hr
        · exact ⟨r, hr, he⟩
        · rw [List.mem_singleton] at hr; rw [hr, hsq] at he; exact absurd he.2.2.1.symm hk'
  · rw [hf, List.map_append, List.nodup_append]
    refine ⟨h.uniq, by simp, fun x hx y hy hxy => ?_⟩
    obtain ⟨r, hr, rfl⟩ := List.mem_map.1 hx
    simp only [List.map_cons, List.map_nil, List.mem_singleton] at hy
    rw [hy, hsq] at hxy
    exact hno r hr hxy
  · rcases List.mem_append.1 hr with hr | hr
    · exact h.qs r hr
    · rw [List.mem_singleton] at hr; rw [hr]; exact hl


theorem ex_mid {F1 F2 : List Rc} {y : Rc} {P : Rc → Prop} : (∃ x, x ∈ F1 ++ y :: F2 ∧ P x) ↔ (P y ∨ ∃ x, (x ∈ F1 ∨ x ∈ F2) ∧ P x) := by
  constructor
  · rintro ⟨x, hx, hp⟩
    rcases List.mem_append.1 hx with h | h
    · exact .inr ⟨x, .inl h, hp⟩
    · rcases List.mem_cons.1 h with rfl | h
      · exact .inl hp
      · exact .inr ⟨x, .inr h, hp⟩
  · rintro (h | ⟨x, h | h, hp⟩)
    · exact ⟨y, by simp, h⟩
    · exact ⟨x, by simp [h], hp⟩
    · exact ⟨x, by simp [h], hp⟩

theorem rr_cancel {l1 l2 : List Rc} {r : Rc} {p : PS} {a : Ask} {qs : List Int} (h : Rr w (l1 ++ r :: l2) p) (hk : a.kind = 4) (ha : ¬ p.acc.ak ≥ 24) (ho : isOrd r = true) (hg : r.g = false) (hs : sqOf r = a.seq) (hl : qs.length ≤ 16) :
    Rr w ((l1 ++ { r with g := true } :: l2) ++ [keepA w a qs]) (ptake w p a qs) := by
  have h24 := h.ak
  have f0 : (l1 ++ r :: l2).filter isOrd = l1.filter isOrd ++ r :: l2.filter isOrd := by rw [List.filter_append, List.filter_cons, if_pos ho]
  have f1 : ((l1 ++ { r with g := true } :: l2) ++ [keepA w a qs]).filter isOrd = l1.filter isOrd ++ { r with g := true } :: l2.filter isOrd := by
    rw [filter_new _ (by simp [isOrd, keepA, hk]), List.filter_append, List.filter_cons, if_pos (show isOrd { r with g := true } = true from ho)]
  have huq := h.uniq
  have hlk := h.lk
  have how := h.ow
  have hst := h.st
  have hbl := h.bl
  have hcl2 := List.countP_le_length (p := aliveB 2) (l := (l1 ++ r :: l2).filter isOrd)
  have hcl3 := List.countP_le_length (p := aliveB 3) (l := (l1 ++ r :: l2).filter isOrd)
  have hfl := List.length_filter_le isOrd (l1 ++ r :: l2)
  have hus := h.us
  have hsts := h.sts
  have hbls := h.bls
  rw [f0] at huq how hst hbl hus hsts hbls hcl2 hcl3 hfl
  simp only [ex_mid] at hus hsts hbls
  have hne : ∀ x, (x ∈ l1.filter isOrd ∨ x ∈ l2.filter isOrd) → sqOf x ≠ a.seq := fun x hx he => by
    rw [List.map_append, List.map_cons, List.nodup_append, List.nodup_cons] at huq
    rcases hx with hx | hx
    · exact huq.2.2 _ (List.mem_map.2 ⟨x, hx, rfl⟩) _ (List.mem_cons_self) (by rw [he, hs])
    · exact huq.2.1.1 (by rw [hs, ← he]; exact List.mem_map.2 ⟨x, hx, rfl⟩)
  have lockN : lockO 0 ((l1 ++ { r with g := true } :: l2) ++ [keepA w a qs]) = lockO 0 (l1 ++ r :: l2) := by
    rw [lockO_app, lockO_app, lockO_app]
    simp only [lockO]
    rw [if_neg (show ¬ (keepA w a qs).a.kind = 1 by show ¬ a.kind = 1; omega)]
  have hlen : ((l1 ++ { r with g := true } :: l2) ++ [keepA w a qs]).length = (l1 ++ r :: l2).length + 1 := by simp; omega
  have hak : IntKind.wrap .i64 (p.acc.ak + 1) = p.acc.ak + 1 := wrap64_id (by omega) (by omega)
  have hqs : ∀ x, x ∈ (l1 ++ { r with g := true } :: l2) ++ [keepA w a qs] → x.qs.length ≤ 16 := fun x hx => by
    rcases List.mem_append.1 hx with hx | hx
    · rcases List.mem_append.1 hx with hx | hx
      · exact h.qs x (by simp [hx])
      · rcases List.mem_cons.1 hx with rfl | hx
        · exact h.qs r (by simp)
        · exact h.qs x (by simp [hx])
    · rw [List.mem_singleton] at hx; rw [hx]; exact hl
  have huq' : ((l1.filter isOrd ++ { r with g := true } :: l2.filter isOrd).map sqOf).Nodup := by
    rw [List.map_append, List.map_cons] at huq ⊢
    exact huq
  have tot1 : totO (l1.filter isOrd ++ { r with g := true } :: l2.filter isOrd) = totO (l1.filter isOrd ++ r :: l2.filter isOrd) - cost r.a r.qs := by
    rw [totO_app, totO_app]
    simp only [totO, hg]
    rw [if_pos trivial, if_neg (by simp)]
    omega
  have kd : r.a.kind = 2 ∨ r.a.kind = 3 := by simpa [isOrd] using ho
  have c2 : ∀ k, (l1.filter isOrd ++ r :: l2.filter isOrd).countP (aliveB k) = (l1.filter isOrd ++ { r with g := true } :: l2.filter isOrd).countP (aliveB k) + (if r.a.kind = k then 1 else 0) := fun k => by
    rw [List.countP_append, List.countP_append, List.countP_cons, List.countP_cons, if_neg (show ¬ aliveB k { r with g := true } = true by simp [aliveB])]
    have : aliveB k r = decide (r.a.kind = k) := by unfold aliveB; rw [hg]; simp
    rw [this]
    by_cases hkk : r.a.kind = k
    · simp only [hkk, decide_true, if_true]; omega
    · simp only [hkk, decide_false, Bool.false_eq_true, if_false]; omega
  rcases kd with k2 | k3
  · have hst0 : p.st a.seq = some (stepOf w r.a) := (hsts _ _).2 (.inl ⟨k2, hg, hs, rfl⟩)
    have hp : ptake w p a qs = ⟨{ p.acc with ow := IntKind.wrap .i64 (p.acc.ow - (stepOf w r.a).ask.owes), ak := IntKind.wrap .i64 (p.acc.ak + 1), st := IntKind.wrap .i64 (p.acc.st - 1) }, updF p.st a.seq none, p.bl, p.us, true⟩ := by
      unfold ptake; rw [if_neg (by omega), if_neg (by omega), if_neg (by omega), hst0]
    have hco : cost r.a r.qs = (stepOf w r.a).ask.owes := by unfold cost; rw [if_pos k2]; rfl
    have c22 := c2 2
    have c23 := c2 3
    rw [if_pos k2] at c22
    rw [if_neg (by omega)] at c23
    rw [hp]
    refine ⟨?_, by rw [lockN]; exact hlk, ?_, ?_, ?_, h.us0, fun k => ?_, fun k x => ?_, fun k x => ?_, by rw [f1]; exact huq', hqs⟩
    · rw [hlen]; simp only [hak]
      refine ⟨by omega, by omega⟩
    · rw [f1, sumO_0, tot1]
      show IntKind.wrap .i64 (p.acc.ow - (stepOf w r.a).ask.owes) = _
      rw [how, sumO_0, wrap_subl, hco]
    · rw [f1]
      show IntKind.wrap .i64 (p.acc.st - 1) = _
      rw [wrap64_id (by omega) (by omega)]
      omega
    · rw [f1]
      show p.acc.bl = _
      omega
    · rw [f1]
      simp only [ex_mid]
      exact hus k
    · rw [f1]
      simp only [ex_mid, updF]
      by_cases hk' : k = a.seq
      · rw [if_pos hk']
        constructor
        · intro hx; cases hx
        · rintro (⟨_, hf, _⟩ | ⟨y, hy, _, _, he, _⟩)
          · cases hf
          · exact absurd (he.trans hk') (hne y hy)
      · rw [if_neg hk', hsts k x]
        constructor
        · rintro (⟨_, _, he, _⟩ | hh)
          · exact absurd (he.symm.trans hs) hk'
          · exact .inr hh
        · rintro (⟨_, hf, _⟩ | hh)
          · cases hf
          · exact .inr hh
    · rw [f1]
      simp only [ex_mid]
      rw [hbls k x]
      constructor
      · rintro (⟨h3, _⟩ | hh)
        · omega
        · exact .inr hh
      · rintro (⟨_, hf, _⟩ | hh)
        · cases hf
        · exact .inr hh
  · have hst0 : p.st a.seq = none := by
      cases hb : p.st a.seq with
      | none => rfl
      | some x =>
        rcases (hsts _ _).1 hb with ⟨h2, _⟩ | ⟨y, hy, _, _, he, _⟩
        · omega
        · exact absurd he (hne y hy)
    have hbl0 : p.bl a.seq = some (blockOf w r.a r.qs, r.qs) := (hbls _ _).2 (.inl ⟨k3, hg, hs, rfl⟩)
    have hp : ptake w p a qs = ⟨{ p.acc with ow := IntKind.wrap .i64 (p.acc.ow - (blockOf w r.a r.qs).ask.owesB r.qs), ak := IntKind.wrap .i64 (p.acc.ak + 1), bl := IntKind.wrap .i64 (p.acc.bl - 1) }, p.st, updF p.bl a.seq none, p.us, true⟩ := by
      unfold ptake; rw [if_neg (by omega), if_neg (by omega), if_neg (by omega), hst0]; simp only [hbl0]
    have hco : cost r.a r.qs = (blockOf w r.a r.qs).ask.owesB r.qs := by unfold cost; rw [if_neg (by omega), if_pos k3]; rfl
    have c22 := c2 2
    have c23 := c2 3
    rw [if_neg (by omega)] at c22
    rw [if_pos k3] at c23
    rw [hp]
    refine ⟨?_, by rw [lockN]; exact hlk, ?_, ?_, ?_, h.us0, fun k => ?_, fun k x => ?_, fun k x => ?_, by rw [f1]; exact huq', hqs⟩
    · rw [hlen]; simp only [hak]
      refine ⟨by omega, by omega⟩
    · rw [f1, sumO_0, tot1]
      show IntKind.wrap .i64 (p.acc.ow - (blockOf w r.a r.qs).ask.owesB r.qs) = _
      rw [how, sumO_0, wrap_subl, hco]
    · rw [f1]
      show p.acc.st = _
      omega
    · rw [f1]
      show IntKind.wrap .i64 (p.acc.bl - 1) = _
      rw [wrap64_id (by omega) (by omega)]
      omega
    · rw [f1]
      simp only [ex_mid]
      exact hus k
    · rw [f1]
      simp only [ex_mid]
      rw [hsts k x]
      constructor
      · rintro (⟨h3, _⟩ | hh)
        · omega
        · exact .inr hh
      · rintro (⟨_, hf, _⟩ | hh)
        · cases hf
        · exact .inr hh
    · rw [f1]
      simp only [ex_mid, updF]
      by_cases hk' : k = a.seq
      · rw [if_pos hk']
        constructor
        · intro hx; cases hx
        · rintro (⟨_, hf, _⟩ | ⟨y, hy, _, _, he, _⟩)
          · cases hf
          · exact absurd (he.trans hk') (hne y hy)
      · rw [if_neg hk', hbls k x]
        constructor
        · rintro (⟨_, _, he, _⟩ | hh)
          · exact absurd (he.symm.trans hs) hk'
          · exact .inr hh
        · rintro (⟨_, hf, _⟩ | hh)
          · cases hf
          · exact .inr hh


theorem setC_g {o : Nat} (h : o < rs.length) : setC (rs.map (Rc.fv w)) o 19 (.bool true) = (rs.set o { rs.getD o Rc.z with g := true }).map (Rc.fv w) := by
  have e : (rs.map (Rc.fv w))[o]? = some (Rc.fv w (rs.getD o Rc.z)) := by
    rw [List.getElem?_map, List.getElem?_eq_getElem h, List.getD_eq_getElem?_getD, List.getElem?_eq_getElem h]; rfl
  unfold setC
  rw [e, List.map_set]
  rfl

theorem elems0 (z : FV) : elemsOf 0 z [] = [] := rfl
theorem elems1 (z x : FV) : elemsOf 1 z [(0, x)] = [x] := rfl

theorem mid_of {o : Nat} (h : o < rs.length) (x : Rc) : ∃ l1 l2 : List Rc, rs = l1 ++ rs.getD o Rc.z :: l2 ∧ rs.set o x = l1 ++ x :: l2 := by
  refine ⟨rs.take o, rs.drop (o + 1), ?_, ?_⟩
  · have hd : rs.drop o = rs.getD o Rc.z :: rs.drop (o + 1) := by
      rw [List.drop_eq_getElem_cons h, List.getD_eq_getElem?_getD, List.getElem?_eq_getElem h]; rfl
    rw [← hd, List.take_append_drop]
  · rw [List.set_eq_take_append_cons_drop, if_pos h]

theorem add_ref {p : PS} {a : Ask} {qs : List Int} (h : Rr w rs p) (hq : a.bq = qs.map (FV.int .i64)) (hl : qs.length ≤ 16) :
    ∃ rs' : List Rc, evF En (n + 42) 26 (.list 20 (rs.map (Rc.fv w)) :: .str w :: a.L) = some [.list 20 (rs'.map (Rc.fv w)), .int .i64 (pmay p a qs)] ∧ Rr w rs' (padd w p a qs) := by
  have h24 := h.ak
  have hm := may_ref (n := n) h hq hl
  by_cases hp : pmay p a qs = 0
  · have hbad : ¬ (a.kind < 1 ∨ a.kind > 4) := fun hb => by unfold pmay at hp; rw [if_pos hb] at hp; cases hp
    have hak : ¬ p.acc.ak ≥ 24 := fun hb => by unfold pmay at hp; rw [if_neg hbad, if_pos hb] at hp; cases hp
    have hpa : padd w p a qs = ptake w p a qs := by unfold padd; rw [if_pos hp]
    rw [hpa, hp]
    rw [hp] at hm
    unfold Ask.L at hm ⊢
    rw [noonbellref10_Book_Add_eq, hm]
    simp only [Option.bind_some, List.getElem?_cons_zero, List.getElem?_cons_succ, asInt_int, asLst_list, elems0, elems1, List.nil_append, List.length_nil, List.length_map, List.length_cons, List.length_append]
    rw [show ((0 : Int) != 0) = false from rfl, cond_false, show Nat.ble (0 + rs.length) 703687441776 = true from Nat.ble_eq_true_of_le (by omega), cond_true]
    by_cases k4 : a.kind = 4
    · rw [show (a.kind == 4) = true from beq_iff_eq.2 k4, cond_true]
      have r2 := find_ref (n := n + 39) (w := w) (k := a.seq) (rs := rs) (by omega) (by omega)
      rw [r2]
      simp only [Option.bind_some, List.getElem?_cons_zero, List.getElem?_cons_succ, asInt_int, asLst_list]
      have hx : ∃ r, r ∈ rs.filter isOrd ∧ sqOf r = a.seq ∧ r.g = false := by
        unfold pmay at hp
        rw [if_neg hbad, if_neg hak, if_neg (by omega), if_neg (by omega), if_neg (by omega)] at hp
        by_cases g2 : p.st a.seq = none ∧ p.bl a.seq = none
        · rw [if_pos g2] at hp; cases hp
        · cases h0 : p.st a.seq with
          | some x =>
            obtain ⟨r, hr, _, hg, hs, _⟩ := (h.sts _ _).1 h0
            exact ⟨r, hr, hs, hg⟩
          | none =>
            cases h1 : p.bl a.seq with
            | none => exact absurd ⟨h0, h1⟩ g2
            | some x =>
              obtain ⟨r, hr, _, hg, hs, _⟩ := (h.bls _ _).1 h1
              exact ⟨r, hr, hs, hg⟩
      obtain ⟨r, hr, hrk, hg⟩ := hx
      obtain ⟨o, ho, hol, hor⟩ := where_some h.uniq hr hrk
      have hor' : rs.getD o Rc.z = r := hor
      rw [ho]
      simp only [ix_nat hol, Option.bind_some, setC_g hol, List.length_map, List.length_set, Nat.zero_add]
      rw [hq]
      simp only [List.length_map, Nat.zero_add]
      rw [show Nat.ble qs.length 17592186044416 = true from Nat.ble_eq_true_of_le (by omega), cond_true, show Nat.ble (rs.length + 1) 703687441776 = true from Nat.ble_eq_true_of_le (by omega), cond_true, hor']
      obtain ⟨l1, l2, e1, e2⟩ := mid_of hol { r with g := true }
      rw [hor'] at e1
      refine ⟨rs.set o { r with g := true } ++ [keepA w a qs], ?_, ?_⟩
      · rw [List.map_append]; rfl
      · rw [e2]
        rw [e1] at h
        exact rr_cancel h k4 hak (List.mem_filter.1 hr).2 hg hrk hl
    · rw [show (a.kind == 4) = false from beq_eq_false_iff_ne.2 k4, cond_false, hq]
      simp only [List.length_map, Nat.zero_add]
      rw [show Nat.ble qs.length 17592186044416 = true from Nat.ble_eq_true_of_le (by omega), cond_true, show Nat.ble (rs.length + 1) 703687441776 = true from Nat.ble_eq_true_of_le (by omega), cond_true]
      refine ⟨rs ++ [keepA w a qs], ?_, ?_⟩
      · rw [List.map_append]; rfl
      · by_cases k1 : a.kind = 1
        · exact rr_lock h k1 hak hl
        by_cases k2 : a.kind = 2
        · refine rr_step h k2 hak (fun hu => ?_) hl
          unfold pmay at hp
          rw [if_neg hbad, if_neg hak, if_neg k1, if_pos k2, if_pos hu] at hp
          cases hp
        · have k3 : a.kind = 3 := by omega
          refine rr_block h k3 hak (fun hu => ?_) hl
          unfold pmay at hp
          rw [if_neg hbad, if_neg hak, if_neg k1, if_neg k2, if_pos k3, if_pos hu] at hp
          cases hp
  · have hpa : padd w p a qs = p := by unfold padd; rw [if_neg hp]
    rw [hpa]
    unfold Ask.L at hm ⊢
    rw [noonbellref10_Book_Add_eq, hm]
    simp only [Option.bind_some, List.getElem?_cons_zero, List.getElem?_cons_succ, asInt_int, asLst_list]
    rw [show (pmay p a qs != 0) = true by simp [hp], cond_true]
    exact ⟨rs, rfl, h⟩

theorem rr_empty (w : ByteArray) : Rr w [] PS.zero :=
  ⟨⟨rfl, by decide⟩, rfl, rfl, rfl, rfl, fun _ => show (0 : Int) ≤ 0 by decide, fun k => ⟨fun h => absurd h (show ¬ (0 : Int) > 0 by decide), fun ⟨r, hr, _⟩ => by simp at hr⟩,
    fun k x => ⟨fun h => (by cases h), fun ⟨r, hr, _⟩ => by simp at hr⟩, fun k x => ⟨fun h => (by cases h), fun ⟨r, hr, _⟩ => by simp at hr⟩, .nil, fun r hr => by cases hr⟩

end
end Rf
end

section
/- BookOrder: the law, over what its functions come to. -/
set_option linter.unusedSimpArgs false
set_option linter.unusedVariables false
set_option maxHeartbeats 4000000
namespace Rf
open Go

/-! ### one participant's asks, one after another -/
noncomputable def prun (w : ByteArray) : PS → List Stp → PS
  | p, [] => p
  | p, s :: l => prun w (padd w p s.a s.qs) l
noncomputable def pans (w : ByteArray) : PS → List Stp → List Int
  | _, [] => []
  | p, s :: l => pmay p s.a s.qs :: pans w (padd w p s.a s.qs) l

theorem prun_app (w : ByteArray) : ∀ (l : List Stp) (p : PS) (s : Stp), prun w p (l ++ [s]) = padd w (prun w p l) s.a s.qs
  | [], _, _ => rfl
  | _ :: l, _, s => prun_app w l _ s
theorem pans_app (w : ByteArray) : ∀ (l : List Stp) (p : PS) (s : Stp), pans w p (l ++ [s]) = pans w p l ++ [pmay (prun w p l) s.a s.qs]
  | [], _, _ => rfl
  | _ :: l, _, s => by simp only [List.cons_append, pans, prun, pans_app w l]
theorem pans_len (w : ByteArray) : ∀ (l : List Stp) (p : PS), (pans w p l).length = l.length
  | [], _ => rfl
  | _ :: l, _ => by simp only [pans, List.length_cons, pans_len w l]

theorem pans_get (w : ByteArray) : ∀ (l : List Stp) (p : PS) (i : Nat) (h : i < l.length), (pans w p l)[i]? = some (pmay (prun w p (l.take i)) l[i].a l[i].qs)
  | [], _, _, h => by simp at h
  | s :: l, p, 0, _ => rfl
  | s :: l, p, i + 1, h => by
    simp only [pans, List.getElem?_cons_succ, List.take_succ_cons, prun, List.getElem_cons_succ]
    exact pans_get w l _ i (by simpa using h)

theorem take_one {l : List Stp} {i : Nat} (h : i < l.length) : l.take (i + 1) = l.take i ++ [l[i]] := by
  rw [List.take_add_one, List.getElem?_eq_getElem h]; rfl

abbrev intF (x : Int) : FV := .int .i64 x
noncomputable abbrev ansF (w : ByteArray) (l : List Stp) : List FV := (pans w PS.zero l).map intF

theorem ansF_at {w : ByteArray} {l : List Stp} {i : Nat} (h : i < l.length) : at' (ansF w l) i 0 = some (.int .i64 (pmay (prun w PS.zero (l.take i)) l[i].a l[i].qs)) := by
  rw [at_map, pans_get w l _ i h]; rfl

theorem ansF_app {w : ByteArray} {l : List Stp} {i : Nat} (h : i < l.length) : ansF w (l.take i) ++ [.int .i64 (pmay (prun w PS.zero (l.take i)) l[i].a l[i].qs)] = ansF w (l.take (i + 1)) := by
  rw [take_one h]
  unfold ansF
  rw [pans_app, List.map_append]; rfl

theorem ansF_len {w : ByteArray} {l : List Stp} : (ansF w l).length = l.length := by rw [List.length_map, pans_len]

def SmallS (l : List Stp) : Prop := ∀ s, s ∈ l → s.qs.length ≤ 16

/-! ### two books that are the same to both -/
section
variable {n : Nat} {f s : ByteArray} {A B : Bk} {p q : PS} {m k : Nat}

theorem Two.steps (h : Two f s A m) (hm : m ≤ 1000000) : evF En (n + 1) 24 A.L = some (A.L ++ [.list 7 (isort fless (A.e0.map entVal))]) :=
  steps_run (by have := h.sz; omega) (List.all_eq_true.2 fun x hx => by
    obtain ⟨e, he, rfl⟩ := List.mem_map.1 hx
    obtain ⟨y, hy⟩ := h.st.val he
    rw [hy]; rfl) h.st.nod

theorem Two.blocks (h : Two f s A m) (hfs : f ≠ s) : evF En (n + 1) 30 A.L = some (A.L ++ [.list 8 (isort fless (A.e1.map entVal))]) :=
  blocks_run (by
    have := cnt_two hfs A.e1 h.bw
    have h1 := (h.bln f).2
    have h2 := (h.bln s).2
    omega) h.okN.v1 (List.all_eq_true.2 fun x hx => by
    obtain ⟨e, he, rfl⟩ := List.mem_map.1 hx
    obtain ⟨y, qy, hy, hq, hl⟩ := h.bl.val he
    rw [hy]
    show decide (y.q.length ≤ 1000000000) = true
    rw [hq, List.length_map]
    exact decide_eq_true (by omega)) h.bl.nod

theorem key_two {es : List FV} (hw : ∀ e, e ∈ es → entKey e = .str f ∨ entKey e = .str s) {t : ByteArray} : t ∈ es.map (fun e => strOf (entKey e)) ↔ mhas es (.str t) = true := by
  unfold mhas
  rw [List.any_eq_true, List.mem_map]
  constructor
  · rintro ⟨e, he, rfl⟩
    refine ⟨e, he, ?_⟩
    rcases hw e he with h | h <;> rw [h, keq_str] <;> exact decide_eq_true rfl
  · rintro ⟨e, he, hk⟩
    refine ⟨e, he, ?_⟩
    rcases hw e he with h | h <;> rw [h, keq_str] at hk <;> rw [h] <;> exact (of_decide_eq_true hk).symm

theorem nodup_two : ∀ {l : List ByteArray}, l.Nodup → (∀ t, t ∈ l → t = f ∨ t = s) → l.length ≤ 2
  | [], _, _ => Nat.zero_le _
  | [_], _, _ => by simp
  | [_, _], _, _ => by simp
  | a :: b :: c :: l, hn, h => by
    exfalso
    rw [List.nodup_cons, List.nodup_cons] at hn
    have ha := h a (by simp)
    have hb := h b (by simp)
    have hc := h c (by simp)
    have hab : a ≠ b := fun e => hn.1 (by simp [e])
    have hac : a ≠ c := fun e => hn.1 (by simp [e])
    have hbc : b ≠ c := fun e => hn.2.1 (by simp [e])
    rcases ha with rfl | rfl <;> rcases hb with rfl | rfl <;> rcases hc with rfl | rfl <;> first | exact hab rfl | exact hac rfl | exact hbc rfl

theorem Two.whos (h : Two f s A m) : ∃ ws : List FV, evF En (n + 1) 31 A.L = some (A.L ++ [.list 1 ws]) ∧ ws.length = A.e3.length := by
  have hlen : A.e3.length ≤ 2 := by
    have := nodup_two (f := f) (s := s) h.whn fun t ht => by
      obtain ⟨e, he, rfl⟩ := List.mem_map.1 ht
      rcases h.who e he with q | q <;> rw [q] <;> simp [strOf]
    simpa using this
  refine ⟨_, who_run (by omega) (List.all_eq_true.2 fun x hx => by
    obtain ⟨e, he, rfl⟩ := List.mem_map.1 hx
    rcases h.who e he with q | q <;> rw [q] <;> rfl) h.whn, ?_⟩
  obtain ⟨p1, _⟩ := isort_ok (less := sless) ⟨fun _ _ _ a b => kless_ok.tr _ _ _ a b, fun _ _ a => kless_ok.to _ _ a⟩ (A.e3.map entKey)
  rw [p1.length_eq, List.length_map]

theorem find_other {P : FV → Prop} {es : List FV} (h : NmA P es) (hw : ∀ e, e ∈ es → (fkey (entVal e)).1 = f ∨ (fkey (entVal e)).1 = s) {v : ByteArray} (h1 : v ≠ f) (h2 : v ≠ s) (j : Int) : mfind es (nm v j) = none := by
  cases hf : mfind es (nm v j) with
  | none => rfl
  | some x =>
    obtain ⟨⟨e, he, rfl⟩, hk, _⟩ := h.find hf
    rcases hw e he with q | q <;> rw [hk] at q <;> simp only at q
    · exact absurd q h1
    · exact absurd q h2

theorem same_steps (hA : Two f s A m) (hB : Two f s B k) (a1 : Abs A f p) (a2 : Abs A s q) (b1 : Abs B f p) (b2 : Abs B s q) : isort fless (A.e0.map entVal) = isort fless (B.e0.map entVal) := by
  refine sorted_one (hA.st.perm hB.st fun v j => ?_) (by rw [List.map_map]; exact hB.st.nod)
  by_cases h1 : v = f
  · rw [h1, a1.st, b1.st]
  by_cases h2 : v = s
  · rw [h2, a2.st, b2.st]
  rw [find_other hA.st hA.sw h1 h2, find_other hB.st hB.sw h1 h2]

theorem same_blocks (hA : Two f s A m) (hB : Two f s B k) (a1 : Abs A f p) (a2 : Abs A s q) (b1 : Abs B f p) (b2 : Abs B s q) : isort fless (A.e1.map entVal) = isort fless (B.e1.map entVal) := by
  refine sorted_one (hA.bl.perm hB.bl fun v j => ?_) (by rw [List.map_map]; exact hB.bl.nod)
  by_cases h1 : v = f
  · rw [h1, a1.bl, b1.bl]
  by_cases h2 : v = s
  · rw [h2, a2.bl, b2.bl]
  rw [find_other hA.bl hA.bw h1 h2, find_other hB.bl hB.bw h1 h2]

theorem same_who (hA : Two f s A m) (hB : Two f s B k) (a1 : Abs A f p) (a2 : Abs A s q) (b1 : Abs B f p) (b2 : Abs B s q) : A.e3.length = B.e3.length := by
  have one : ∀ {A B : Bk} {m k : Nat}, Two f s A m → Two f s B k → Abs A f p → Abs A s q → Abs B f p → Abs B s q → ∀ t, t ∈ A.e3.map (fun e => strOf (entKey e)) → t ∈ B.e3.map (fun e => strOf (entKey e)) := fun {A B m k} hA hB a1 a2 b1 b2 t ht => by
    rw [key_two hB.who]
    have h := ht
    rw [key_two hA.who] at h
    obtain ⟨e, he, rfl⟩ := List.mem_map.1 ht
    rcases hA.who e he with q | q <;> rw [q] at h ⊢ <;> simp only [strOf] at h ⊢
    · rw [b1.hs, ← a1.hs]; exact h
    · rw [b2.hs, ← a2.hs]; exact h
  have := ((List.perm_ext_iff_of_nodup hA.whn hB.whn).2 fun t => ⟨one hA hB a1 a2 b1 b2 t, one hB hA b1 b2 a1 a2 t⟩).length_eq
  simpa using this

theorem Two.stepsOk (h : Two f s A m) : (isort fless (A.e0.map entVal)).all stepOk = true := by
  obtain ⟨p1, _⟩ := isort_ok fless_ok (A.e0.map entVal)
  refine List.all_eq_true.2 fun x hx => ?_
  obtain ⟨e, he, rfl⟩ := List.mem_map.1 (p1.mem_iff.1 hx)
  obtain ⟨y, hy⟩ := h.st.val he
  rw [hy]; rfl

theorem sameS_run {xs : List FV} (h : xs.all stepOk = true) (hl : xs.length < 1000000000) : evF En (n + 1) 28 [.list 7 xs, .list 7 xs] = some [.bool true] := by
  show sameExt [.list 7 xs, .list 7 xs] = _
  unfold sameExt
  simp only
  rw [if_pos ⟨trivial, h, hl⟩]

/-! ### sameBlocks of one list -/
theorem sb11_run {m0 : Nat} {s0 s8 : ByteArray} {x1 x2 x4 x6 x7 x9 x10 x12 x14 x15 x18 : Int} {b3 b11 : Bool} {l : List FV} {qs : List Int} (hl : qs.length ≤ 16) : ∀ (d i m : Nat), i + d = qs.length → d < m →
    noonbelllaw10_sameBlocks.l11 n [m0] m [.str s0, .int .i64 x1, .int .i64 x2, .bool b3, .int .i64 x4, .list 1 (qs.map (FV.int .i64)), .int .i64 x6, .int .i64 x7, .str s8, .int .i64 x9, .int .i64 x10, .bool b11, .int .i64 x12, .list 1 (qs.map (FV.int .i64)), .int .i64 x14, .int .i64 x15, .list 8 l, .list 8 l, .int .i64 x18, .int .i64 (i : Int)] =
      noonbelllaw10_sameBlocks.l4 n [] m0 [.list 8 l, .list 8 l, .int .i64 (IntKind.wrap .i64 (x18 + 1))] := by
  intro d
  induction d with
  | zero =>
    intro i m hi hm
    obtain ⟨m, rfl⟩ : ∃ k, m = k + 1 := ⟨m - 1, by omega⟩
    rw [noonbelllaw10_sameBlocks.l11_eq, List.length_map, decide_eq_false (by omega), cond_false]
  | succ d ih =>
    intro i m hi hm
    obtain ⟨m, rfl⟩ : ∃ k, m = k + 1 := ⟨m - 1, by omega⟩
    have hlt : i < qs.length := by omega
    rw [noonbelllaw10_sameBlocks.l11_eq, List.length_map, decide_eq_true (by omega), cond_true]
    simp only [ix_nat hlt, Option.bind_some, q_at i hlt, asInt_int, bne_self_eq_false, cond_false]
    rw [wrap_succ (i := i) (by omega)]
    exact ih (i + 1) m (by omega) (by omega)

theorem sb4_run {bs : List FV} (hb : ∀ x, x ∈ bs → blockQ x) (hl : bs.length ≤ 1000) (hn : 16 < n) : ∀ (d i m : Nat), i + d = bs.length → d < m →
    noonbelllaw10_sameBlocks.l4 n [] m [.list 8 bs, .list 8 bs, .int .i64 (i : Int)] = some [.bool true] := by
  intro d
  induction d with
  | zero =>
    intro i m hi hm
    obtain ⟨m, rfl⟩ : ∃ k, m = k + 1 := ⟨m - 1, by omega⟩
    rw [noonbelllaw10_sameBlocks.l4_eq, decide_eq_false (by omega), cond_false]
  | succ d ih =>
    intro i m hi hm
    obtain ⟨m, rfl⟩ : ∃ k, m = k + 1 := ⟨m - 1, by omega⟩
    have hlt : i < bs.length := by omega
    obtain ⟨x, qs, hx, hq, hq16⟩ := hb _ (List.getElem_mem hlt)
    have hat : ∀ c, at' bs i c = (x.fv).cells[c]? := fun c => by unfold at'; rw [List.getElem?_eq_getElem hlt, hx]; rfl
    rw [noonbelllaw10_sameBlocks.l4_eq, decide_eq_true (by omega), cond_true]
    simp only [ix_nat hlt, Option.bind_some, hat, BlF.fv, FV.cells, List.getElem?_cons_zero, List.getElem?_cons_succ, asInt_int, asStr_str, asBool_bool, asLst_list, beq_self_eq_true, Bool.not_true, bne_self_eq_false, cond_false]
    rw [hq]
    have := sb11_run (n := n) (m0 := m) (s0 := x.w) (s8 := x.w) (x1 := x.a) (x2 := x.b) (x4 := x.d) (x6 := x.e) (x7 := x.f) (x9 := x.a) (x10 := x.b) (x12 := x.d) (x14 := x.e) (x15 := x.f) (x18 := (i : Int)) (b3 := x.c) (b11 := x.c) (l := bs) hq16 qs.length 0 n (by omega) (by omega)
    rw [show (((0 : Nat) : Int)) = 0 from rfl] at this
    rw [this, wrap_succ (i := i) (by omega)]
    exact ih (i + 1) m (by omega) (by omega)

theorem sameB_run {bs : List FV} (hb : ∀ x, x ∈ bs → blockQ x) (hl : bs.length ≤ 1000) (hn : 1000 < n) : evF En (n + 1) 29 [.list 8 bs, .list 8 bs] = some [.bool true] := by
  rw [noonbelllaw10_sameBlocks_eq, bne_self_eq_false, cond_false]
  exact sb4_run hb hl (by omega) bs.length 0 n (by omega) (by omega)

theorem Two.blocksOk (h : Two f s A m) (hfs : f ≠ s) : (∀ x, x ∈ isort fless (A.e1.map entVal) → blockQ x) ∧ (isort fless (A.e1.map entVal)).length ≤ 1000 := by
  obtain ⟨p1, _⟩ := isort_ok fless_ok (A.e1.map entVal)
  refine ⟨fun x hx => ?_, ?_⟩
  · obtain ⟨e, he, rfl⟩ := List.mem_map.1 (p1.mem_iff.1 hx)
    exact h.bl.val he
  · rw [p1.length_eq, List.length_map]
    have := cnt_two hfs A.e1 h.bw
    have h1 := (h.bln f).2
    have h2 := (h.bln s).2
    omega

end


def firstB : ByteArray := { data := #[102, 105, 114, 115, 116] }
def secondB : ByteArray := { data := #[115, 101, 99, 111, 110, 100] }

theorem fs_ne : firstB ≠ secondB := by decide

/-- the end: both books are the same -/
theorem end_run {N n kA kB : Nat} (hN : N = n + 1100) {A B : Bk} {p q : PS} (hA : Two firstB secondB A kA) (hB : Two firstB secondB B kB) (hkA : kA ≤ 1000000) (hkB : kB ≤ 1000000)
    (a1 : Abs A firstB p) (a2 : Abs A secondB q) (b1 : Abs B firstB p) (b2 : Abs B secondB q) {l0 l1 l2 l11 l12 : List FV} {x13 x14 x15 : Int} (h0 : decide (x13 < (l0.length : Int)) = false) (h1 : decide (x14 < (l1.length : Int)) = false) (m : Nat) :
    noonbelllaw10_BookOrder.l25 N [] (m + 1) [.list 19 l0, .list 19 l1, .list 1 l2, .list 3 A.e0, .int .i64 A.c0, .list 3 A.e1, .int .i64 A.c1, .list 3 A.e2, .int .i64 A.c2, .list 3 A.e3, .int .i64 A.c3,
      .list 3 B.e0, .int .i64 B.c0, .list 3 B.e1, .int .i64 B.c1, .list 3 B.e2, .int .i64 B.c2, .list 3 B.e3, .int .i64 B.c3, .list 1 l11, .list 1 l12, .int .i64 x13, .int .i64 x14, .int .i64 x15] = some [.bool true] := by
  have g1 := hA.steps (n := n + 1099) hkA
  have g2 := hB.steps (n := n + 1099) hkB
  rw [← same_steps hA hB a1 a2 b1 b2] at g2
  have g3 := sameS_run (n := n + 1099) hA.stepsOk (by
    obtain ⟨p1, _⟩ := isort_ok fless_ok (A.e0.map entVal)
    rw [p1.length_eq, List.length_map]; have := hA.sz; omega)
  have g4 := hA.blocks (n := n + 1099) fs_ne
  have g5 := hB.blocks (n := n + 1099) fs_ne
  rw [← same_blocks hA hB a1 a2 b1 b2] at g5
  obtain ⟨k1, k2⟩ := hA.blocksOk fs_ne
  have g6 := sameB_run (n := n + 1099) k1 k2 (by omega)
  have g7 := owes_run (n := n + 1099) (w := firstB) hA.ok
  have g8 := owes_run (n := n + 1099) (w := firstB) hB.ok
  have g9 := asks_run (n := n + 1099) (w := secondB) hA.ok
  have g10 := asks_run (n := n + 1099) (w := secondB) hB.ok
  rw [a1.acc] at g7
  rw [b1.acc] at g8
  rw [a2.acc] at g9
  rw [b2.acc] at g10
  obtain ⟨w1, g11, l1e⟩ := hA.whos (n := n + 1099)
  obtain ⟨w2, g12, l2e⟩ := hB.whos (n := n + 1099)
  have hw := same_who hA hB a1 a2 b1 b2
  generalize isort fless (A.e0.map entVal) = xs at g1 g2 g3
  generalize isort fless (A.e1.map entVal) = bs at g4 g5 g6
  generalize p.acc.ow = O at g7 g8
  generalize q.acc.ak = K at g9 g10
  rw [show n + 1099 + 1 = N by omega] at g1 g2 g3 g4 g5 g6 g7 g8 g9 g10 g11 g12
  unfold Bk.L firstB at g7 g8
  unfold Bk.L secondB at g9 g10
  unfold Bk.L at g1 g2 g4 g5 g11 g12
  simp only [List.cons_append, List.nil_append] at g1 g2 g4 g5 g7 g8 g9 g10 g11 g12
  rw [noonbelllaw10_BookOrder.l25_eq, h0, cond_false, h1, cond_false]
  simp only [g1, g2, g3, g4, g5, g6, g7, g8, g9, g10, g11, g12, Option.bind_some, List.getElem?_cons_zero, List.getElem?_cons_succ, asInt_int, asStr_str, asBool_bool, asLst_list, beq_self_eq_true, cond_true]
  rw [l1e, l2e, hw, beq_self_eq_true]

theorem l25_run {N n kA : Nat} (hN : N = n + 1100) {l mm : List Stp} {ps : List Bool} (hl : l.length ≤ 256) (hm : mm.length ≤ 256) (sl : SmallS l) (sm : SmallS mm) {A : Bk} (hA : Two firstB secondB A kA) (hkA : kA ≤ 1000000)
    (a1 : Abs A firstB (prun firstB PS.zero l)) (a2 : Abs A secondB (prun secondB PS.zero mm)) : ∀ (d x y i m : Nat) (B : Bk), x + y + d = l.length + mm.length → x ≤ l.length → y ≤ mm.length → d < m → i = x + y → Two firstB secondB B i →
    Abs B firstB (prun firstB PS.zero (l.take x)) → Abs B secondB (prun secondB PS.zero (mm.take y)) →
    noonbelllaw10_BookOrder.l25 N [] m [.list 19 (l.map Stp.fv), .list 19 (mm.map Stp.fv), .list 1 (ps.map FV.bool), .list 3 A.e0, .int .i64 A.c0, .list 3 A.e1, .int .i64 A.c1, .list 3 A.e2, .int .i64 A.c2, .list 3 A.e3, .int .i64 A.c3,
      .list 3 B.e0, .int .i64 B.c0, .list 3 B.e1, .int .i64 B.c1, .list 3 B.e2, .int .i64 B.c2, .list 3 B.e3, .int .i64 B.c3, .list 1 (ansF firstB l), .list 1 (ansF secondB mm), .int .i64 (x : Int), .int .i64 (y : Int), .int .i64 (i : Int)] = some [.bool true] := by
  intro d
  induction d with
  | zero =>
    intro x y i m B hd hxl hyl hdm hi hB b1 b2
    obtain ⟨m, rfl⟩ : ∃ k, m = k + 1 := ⟨m - 1, by omega⟩
    rw [List.take_of_length_le (by omega)] at b1 b2
    exact end_run hN hA hB hkA (by omega) a1 a2 b1 b2 (by rw [List.length_map]; exact decide_eq_false (by omega)) (by rw [List.length_map]; exact decide_eq_false (by omega)) m
  | succ d ih =>
    intro x y i m B hd hxl hyl hdm hi hB b1 b2
    obtain ⟨m, rfl⟩ : ∃ k, m = k + 1 := ⟨m - 1, by omega⟩
    by_cases hx : x < l.length
    · have t1 : decide ((x : Int) < ((l.map Stp.fv).length : Int)) = true := by rw [List.length_map]; exact decide_eq_true (by omega)
      by_cases hy : y < mm.length
      · have t2 : ((y : Int) == ((mm.map Stp.fv).length : Int)) = false := by rw [List.length_map]; exact beq_eq_false_iff_ne.2 (by omega)
        rw [noonbelllaw10_BookOrder.l25_eq, t1, cond_true, t2, cond_false, cond_true]
        by_cases hp : i < ps.length
        · have t3 : decide ((i : Int) < ((ps.map FV.bool).length : Int)) = true := by rw [List.length_map]; exact decide_eq_true (by omega)
          have t4 : at' (ps.map FV.bool) i 0 = some (.bool ps[i]) := by rw [at_map, List.getElem?_eq_getElem hp]; rfl
          rw [t3, cond_true]
          simp only [List.length_map, ix_nat hp, Option.bind_some, t4, asBool_bool]
          cases ps[i] with
          | true =>
            rw [cond_true]
            obtain ⟨B', e1, hB', c1, c2⟩ := add_abs (n := n + 1080) (a := l[x].a) (qs := l[x].qs) hB b1 (.inl rfl) l[x].hq (sl _ (List.getElem_mem hx))
            have c3 := c2 secondB _ (by decide) b2
            have hel : ∀ c, at' (l.map Stp.fv) x c = (Stp.fv l[x]).cells[c]? := fun c => by rw [at_map, List.getElem?_eq_getElem hx]; rfl
            have hans := ansF_at (w := firstB) hx
            rw [← prun_app, ← take_one hx] at c1
            obtain ⟨e, he⟩ : ∃ e, pmay (prun firstB PS.zero (l.take x)) l[x].a l[x].qs = e := ⟨_, rfl⟩
            rw [he] at e1 hans
            generalize l[x] = s at e1 hel
            rw [show n + 1080 + 20 = N by omega] at e1
            unfold Bk.L Ask.L firstB at e1
            simp only [List.cons_append, List.nil_append] at e1
            simp only [List.length_map, ix_nat hx, hel, Stp.fv, Ask.L, FV.cells, Option.bind_some, List.getElem?_cons_zero, List.getElem?_cons_succ, asInt_int, asStr_str, asBool_bool, asLst_list]
            rw [e1]
            simp only [Option.bind_some, List.getElem?_cons_zero, List.getElem?_cons_succ, asInt_int, asStr_str, asBool_bool, asLst_list, ansF_len, List.length_map, pans_len, ix_nat hx, hans, bne_self_eq_false, cond_false]
            rw [wrap_succ (i := x) (by omega), wrap_succ (i := i) (by omega)]
            exact ih (x + 1) y (i + 1) m B' (by omega) (by omega) (by omega) (by omega) (by omega) hB' c1 c3
          | false =>
            rw [cond_false]
            obtain ⟨B', e1, hB', c1, c2⟩ := add_abs (n := n + 1080) (a := mm[y].a) (qs := mm[y].qs) hB b2 (.inr rfl) mm[y].hq (sm _ (List.getElem_mem hy))
            have c3 := c2 firstB _ (by decide) b1
            have hel : ∀ c, at' (mm.map Stp.fv) y c = (Stp.fv mm[y]).cells[c]? := fun c => by rw [at_map, List.getElem?_eq_getElem hy]; rfl
            have hans := ansF_at (w := secondB) hy
            rw [← prun_app, ← take_one hy] at c1
            obtain ⟨e, he⟩ : ∃ e, pmay (prun secondB PS.zero (mm.take y)) mm[y].a mm[y].qs = e := ⟨_, rfl⟩
            rw [he] at e1 hans
            generalize mm[y] = s at e1 hel
            rw [show n + 1080 + 20 = N by omega] at e1
            unfold Bk.L Ask.L secondB at e1
            simp only [List.cons_append, List.nil_append] at e1
            simp only [List.length_map, ix_nat hy, hel, Stp.fv, Ask.L, FV.cells, Option.bind_some, List.getElem?_cons_zero, List.getElem?_cons_succ, asInt_int, asStr_str, asBool_bool, asLst_list]
            rw [e1]
            simp only [Option.bind_some, List.getElem?_cons_zero, List.getElem?_cons_succ, asInt_int, asStr_str, asBool_bool, asLst_list, ansF_len, List.length_map, pans_len, ix_nat hy, hans, bne_self_eq_false, cond_false]
            rw [wrap_succ (i := y) (by omega), wrap_succ (i := i) (by omega)]
            exact ih x (y + 1) (i + 1) m B' (by omega) (by omega) (by omega) (by omega) (by omega) hB' c3 c1
        · have t3 : decide ((i : Int) < ((ps.map FV.bool).length : Int)) = false := by rw [List.length_map]; exact decide_eq_false (by omega)
          rw [t3, cond_false]
          obtain ⟨B', e1, hB', c1, c2⟩ := add_abs (n := n + 1080) (a := mm[y].a) (qs := mm[y].qs) hB b2 (.inr rfl) mm[y].hq (sm _ (List.getElem_mem hy))
          have c3 := c2 firstB _ (by decide) b1
          have hel : ∀ c, at' (mm.map Stp.fv) y c = (Stp.fv mm[y]).cells[c]? := fun c => by rw [at_map, List.getElem?_eq_getElem hy]; rfl
          have hans := ansF_at (w := secondB) hy
          rw [← prun_app, ← take_one hy] at c1
          obtain ⟨e, he⟩ : ∃ e, pmay (prun secondB PS.zero (mm.take y)) mm[y].a mm[y].qs = e := ⟨_, rfl⟩
          rw [he] at e1 hans
          generalize mm[y] = s at e1 hel
          rw [show n + 1080 + 20 = N by omega] at e1
          unfold Bk.L Ask.L secondB at e1
          simp only [List.cons_append, List.nil_append] at e1
          simp only [List.length_map, ix_nat hy, hel, Stp.fv, Ask.L, FV.cells, Option.bind_some, List.getElem?_cons_zero, List.getElem?_cons_succ, asInt_int, asStr_str, asBool_bool, asLst_list]
          rw [e1]
          simp only [Option.bind_some, List.getElem?_cons_zero, List.getElem?_cons_succ, asInt_int, asStr_str, asBool_bool, asLst_list, ansF_len, List.length_map, pans_len, ix_nat hy, hans, bne_self_eq_false, cond_false]
          rw [wrap_succ (i := y) (by omega), wrap_succ (i := i) (by omega)]
          exact ih x (y + 1) (i + 1) m B' (by omega) (by omega) (by omega) (by omega) (by omega) hB' c3 c1
      · have t2 : ((y : Int) == ((mm.map Stp.fv).length : Int)) = true := by rw [List.length_map]; exact beq_iff_eq.2 (by omega)
        rw [noonbelllaw10_BookOrder.l25_eq, t1, cond_true, t2, cond_true]
        obtain ⟨B', e1, hB', c1, c2⟩ := add_abs (n := n + 1080) (a := l[x].a) (qs := l[x].qs) hB b1 (.inl rfl) l[x].hq (sl _ (List.getElem_mem hx))
        have c3 := c2 secondB _ (by decide) b2
        have hel : ∀ c, at' (l.map Stp.fv) x c = (Stp.fv l[x]).cells[c]? := fun c => by rw [at_map, List.getElem?_eq_getElem hx]; rfl
        have hans := ansF_at (w := firstB) hx
        rw [← prun_app, ← take_one hx] at c1
        obtain ⟨e, he⟩ : ∃ e, pmay (prun firstB PS.zero (l.take x)) l[x].a l[x].qs = e := ⟨_, rfl⟩
        rw [he] at e1 hans
        generalize l[x] = s at e1 hel
        rw [show n + 1080 + 20 = N by omega] at e1
        unfold Bk.L Ask.L firstB at e1
        simp only [List.cons_append, List.nil_append] at e1
        simp only [List.length_map, ix_nat hx, hel, Stp.fv, Ask.L, FV.cells, Option.bind_some, List.getElem?_cons_zero, List.getElem?_cons_succ, asInt_int, asStr_str, asBool_bool, asLst_list]
        rw [e1]
        simp only [Option.bind_some, List.getElem?_cons_zero, List.getElem?_cons_succ, asInt_int, asStr_str, asBool_bool, asLst_list, ansF_len, List.length_map, pans_len, ix_nat hx, hans, bne_self_eq_false, cond_false]
        rw [wrap_succ (i := x) (by omega), wrap_succ (i := i) (by omega)]
        exact ih (x + 1) y (i + 1) m B' (by omega) (by omega) (by omega) (by omega) (by omega) hB' c1 c3
    · have hy : y < mm.length := by omega
      have t1 : decide ((x : Int) < ((l.map Stp.fv).length : Int)) = false := by rw [List.length_map]; exact decide_eq_false (by omega)
      have t2 : ((y : Int) == ((mm.map Stp.fv).length : Int)) = false := by rw [List.length_map]; exact beq_eq_false_iff_ne.2 (by omega)
      have t3 : decide ((y : Int) < ((mm.map Stp.fv).length : Int)) = true := by rw [List.length_map]; exact decide_eq_true (by omega)
      rw [noonbelllaw10_BookOrder.l25_eq, t1, cond_false, t3, cond_true, t2, cond_false, cond_false]
      obtain ⟨B', e1, hB', c1, c2⟩ := add_abs (n := n + 1080) (a := mm[y].a) (qs := mm[y].qs) hB b2 (.inr rfl) mm[y].hq (sm _ (List.getElem_mem hy))
      have c3 := c2 firstB _ (by decide) b1
      have hel : ∀ c, at' (mm.map Stp.fv) y c = (Stp.fv mm[y]).cells[c]? := fun c => by rw [at_map, List.getElem?_eq_getElem hy]; rfl
      have hans := ansF_at (w := secondB) hy
      rw [← prun_app, ← take_one hy] at c1
      obtain ⟨e, he⟩ : ∃ e, pmay (prun secondB PS.zero (mm.take y)) mm[y].a mm[y].qs = e := ⟨_, rfl⟩
      rw [he] at e1 hans
      generalize mm[y] = s at e1 hel
      rw [show n + 1080 + 20 = N by omega] at e1
      unfold Bk.L Ask.L secondB at e1
      simp only [List.cons_append, List.nil_append] at e1
      simp only [List.length_map, ix_nat hy, hel, Stp.fv, Ask.L, FV.cells, Option.bind_some, List.getElem?_cons_zero, List.getElem?_cons_succ, asInt_int, asStr_str, asBool_bool, asLst_list]
      rw [e1]
      simp only [Option.bind_some, List.getElem?_cons_zero, List.getElem?_cons_succ, asInt_int, asStr_str, asBool_bool, asLst_list, ansF_len, List.length_map, pans_len, ix_nat hy, hans, bne_self_eq_false, cond_false]
      rw [wrap_succ (i := y) (by omega), wrap_succ (i := i) (by omega)]
      exact ih x (y + 1) (i + 1) m B' (by omega) (by omega) (by omega) (by omega) (by omega) hB' c3 c1


theorem small_take {l : List Stp} {i : Nat} (h : i < l.length) (hs : SmallS (l.take i)) (h16 : l[i].qs.length ≤ 16) : SmallS (l.take (i + 1)) := by
  rw [take_one h]
  intro s hm
  rcases List.mem_append.1 hm with hm | hm
  · exact hs s hm
  · rw [List.mem_singleton] at hm; rw [hm]; exact h16

theorem l17_run {N n : Nat} (hN : N = n + 1100) {l mm : List Stp} {ps : List Bool} (hl : l.length ≤ 256) (hm : mm.length ≤ 256) (sl : SmallS l) : ∀ (d y m : Nat) (A : Bk), y + d = mm.length → d < m → Two firstB secondB A (l.length + y) →
    Abs A firstB (prun firstB PS.zero l) → Abs A secondB (prun secondB PS.zero (mm.take y)) → SmallS (mm.take y) →
    noonbelllaw10_BookOrder.l17 N [] m [.list 19 (l.map Stp.fv), .list 19 (mm.map Stp.fv), .list 1 (ps.map FV.bool), .list 3 A.e0, .int .i64 A.c0, .list 3 A.e1, .int .i64 A.c1, .list 3 A.e2, .int .i64 A.c2, .list 3 A.e3, .int .i64 A.c3,
      .list 3 Bk.empty.e0, .int .i64 Bk.empty.c0, .list 3 Bk.empty.e1, .int .i64 Bk.empty.c1, .list 3 Bk.empty.e2, .int .i64 Bk.empty.c2, .list 3 Bk.empty.e3, .int .i64 Bk.empty.c3, .list 1 (ansF firstB l), .list 1 (ansF secondB (mm.take y)), .int .i64 (y : Int)] = some [.bool true] := by
  intro d
  induction d with
  | zero =>
    intro y m A hy hdm hA a1 a2 sm
    obtain ⟨m, rfl⟩ : ∃ k, m = k + 1 := ⟨m - 1, by omega⟩
    rw [List.take_of_length_le (by omega)] at a2 sm ⊢
    rw [noonbelllaw10_BookOrder.l17_eq, List.length_map, decide_eq_false (by omega), cond_false]
    have := l25_run (n := n) hN (ps := ps) hl hm sl sm hA (by omega) a1 a2 (l.length + mm.length) 0 0 0 N Bk.empty (by omega) (by omega) (by omega) (by omega) rfl (two_empty _ _) (abs_empty _) (abs_empty _)
    rw [show (((0 : Nat) : Int)) = 0 from rfl] at this
    exact this
  | succ d ih =>
    intro y m A hy hdm hA a1 a2 sm
    obtain ⟨m, rfl⟩ : ∃ k, m = k + 1 := ⟨m - 1, by omega⟩
    have hlt : y < mm.length := by omega
    rw [noonbelllaw10_BookOrder.l17_eq, List.length_map, decide_eq_true (by omega), cond_true]
    obtain ⟨r, g1, g2⟩ := great_run (n := n + 1099) (a := mm[y].a) (qs := mm[y].qs) mm[y].hq (by omega)
    have hel : ∀ c, at' (mm.map Stp.fv) y c = (Stp.fv mm[y]).cells[c]? := fun c => by rw [at_map, List.getElem?_eq_getElem hlt]; rfl
    by_cases h16 : mm[y].qs.length ≤ 16
    · obtain ⟨A', e1, hA', c1, c2⟩ := add_abs (n := n + 1080) (a := mm[y].a) (qs := mm[y].qs) hA a2 (.inr rfl) mm[y].hq h16
      have c3 := c2 firstB _ (by decide) a1
      rw [← prun_app, ← take_one hlt] at c1
      have happ := ansF_app (w := secondB) hlt
      have sm' := small_take hlt sm h16
      obtain ⟨e, he⟩ : ∃ e, pmay (prun secondB PS.zero (mm.take y)) mm[y].a mm[y].qs = e := ⟨_, rfl⟩
      rw [he] at e1 happ
      have hlen := ansF_len (w := secondB) (l := mm.take y)
      rw [List.length_take] at hlen
      have hble : Nat.ble ((ansF secondB (mm.take y)).length + 1) 17592186044416 = true := Nat.ble_eq_true_of_le (by omega)
      generalize mm[y] = s at g1 e1 hel
      rw [show n + 1099 + 1 = N by omega] at g1
      rw [show n + 1080 + 20 = N by omega] at e1
      unfold Bk.L Ask.L secondB at e1
      unfold Ask.L at g1
      simp only [List.cons_append, List.nil_append] at e1
      simp only [ix_nat hlt, hel, Stp.fv, Ask.L, FV.cells, Option.bind_some, List.getElem?_cons_zero, List.getElem?_cons_succ, asInt_int, asStr_str, asBool_bool, asLst_list]
      rw [g1]
      simp only [Option.bind_some, List.getElem?_cons_zero, List.getElem?_cons_succ, asInt_int, asStr_str, asBool_bool, asLst_list]
      cases r with
      | true => rw [cond_true]
      | false =>
        rw [cond_false, e1]
        simp only [Option.bind_some, List.getElem?_cons_zero, List.getElem?_cons_succ, asInt_int, asStr_str, asBool_bool, asLst_list, elems1, List.length_cons, List.length_nil, Nat.zero_add]
        rw [hble, cond_true, happ, wrap_succ (i := y) (by omega)]
        exact ih (y + 1) m A' (by omega) (by omega) hA' c3 c1 sm'
    · cases r with
      | false => exact absurd (g2 rfl).len h16
      | true =>
        generalize mm[y] = s at g1 hel
        rw [show n + 1099 + 1 = N by omega] at g1
        unfold Ask.L at g1
        simp only [ix_nat hlt, hel, Stp.fv, Ask.L, FV.cells, Option.bind_some, List.getElem?_cons_zero, List.getElem?_cons_succ, asInt_int, asStr_str, asBool_bool, asLst_list]
        rw [g1]
        simp only [Option.bind_some, List.getElem?_cons_zero, List.getElem?_cons_succ, asInt_int, asStr_str, asBool_bool, asLst_list, cond_true]

/-- a step's ask is read -/
theorem rd_step {l : List Stp} {x : Nat} (h : x < l.length) (K : Int → Int → Int → ByteArray → Int → Int → Int → Bool → Int → Int → ByteArray → Int → Int → Bool → Int → List FV → Int → Int → Res) : ((ix (x : Int) (l.map Stp.fv).length).bind fun i0 => (asInt .i64 (at' (l.map Stp.fv) i0 1)).bind fun v1 => (asInt .i64 (at' (l.map Stp.fv) i0 2)).bind fun v2 => (asInt .i64 (at' (l.map Stp.fv) i0 3)).bind fun v3 => (asStr (at' (l.map Stp.fv) i0 4)).bind fun v4 => (asInt .i64 (at' (l.map Stp.fv) i0 5)).bind fun v5 => (asInt .i64 (at' (l.map Stp.fv) i0 6)).bind fun v6 => (asInt .i64 (at' (l.map Stp.fv) i0 7)).bind fun v7 => (asBool (at' (l.map Stp.fv) i0 8)).bind fun v8 => (asInt .i64 (at' (l.map Stp.fv) i0 9)).bind fun v9 => (asInt .i64 (at' (l.map Stp.fv) i0 10)).bind fun v10 => (asStr (at' (l.map Stp.fv) i0 11)).bind fun v11 => (asInt .i64 (at' (l.map Stp.fv) i0 12)).bind fun v12 => (asInt .i64 (at' (l.map Stp.fv) i0 13)).bind fun v13 => (asBool (at' (l.map Stp.fv) i0 14)).bind fun v14 => (asInt .i64 (at' (l.map Stp.fv) i0 15)).bind fun v15 => (asLst 1 (at' (l.map Stp.fv) i0 16)).bind fun v16 => (asInt .i64 (at' (l.map Stp.fv) i0 17)).bind fun v17 => (asInt .i64 (at' (l.map Stp.fv) i0 18)).bind fun v18 => K v1 v2 v3 v4 v5 v6 v7 v8 v9 v10 v11 v12 v13 v14 v15 v16 v17 v18) = K l[x].a.kind l[x].a.cents l[x].a.seq l[x].a.sw l[x].a.s1 l[x].a.s2 l[x].a.s3 l[x].a.sb l[x].a.s5 l[x].a.s6 l[x].a.bw l[x].a.b1 l[x].a.b2 l[x].a.bb l[x].a.b4 l[x].a.bq l[x].a.b6 l[x].a.b7 := by
  have hel : ∀ c, at' (l.map Stp.fv) x c = (Stp.fv l[x]).cells[c]? := fun c => by rw [at_map, List.getElem?_eq_getElem h]; rfl
  simp only [List.length_map, ix_nat h, hel, Stp.fv, Ask.L, FV.cells, Option.bind_some, List.getElem?_cons_zero, List.getElem?_cons_succ, asInt_int, asStr_str, asBool_bool, asLst_list]

theorem l9_run {N n : Nat} (hN : N = n + 1100) {l mm : List Stp} {ps : List Bool} (hl : l.length ≤ 256) (hm : mm.length ≤ 256) : ∀ (d x m : Nat) (A : Bk) (rs : List Rc), x + d = l.length → d < m → Two firstB secondB A x →
    Abs A firstB (prun firstB PS.zero (l.take x)) → Abs A secondB PS.zero → SmallS (l.take x) → Rr firstB rs (prun firstB PS.zero (l.take x)) →
    noonbelllaw10_BookOrder.l9 N [] m [.list 19 (l.map Stp.fv), .list 19 (mm.map Stp.fv), .list 1 (ps.map FV.bool), .list 3 A.e0, .int .i64 A.c0, .list 3 A.e1, .int .i64 A.c1, .list 3 A.e2, .int .i64 A.c2, .list 3 A.e3, .int .i64 A.c3,
      .list 3 Bk.empty.e0, .int .i64 Bk.empty.c0, .list 3 Bk.empty.e1, .int .i64 Bk.empty.c1, .list 3 Bk.empty.e2, .int .i64 Bk.empty.c2, .list 3 Bk.empty.e3, .int .i64 Bk.empty.c3, .list 20 (rs.map (Rc.fv firstB)), .list 1 (ansF firstB (l.take x)), .list 1 [], .int .i64 (x : Int)] = some [.bool true] := by
  intro d
  induction d with
  | zero =>
    intro x m A rs hx hdm hA a1 a2 sl hR
    obtain ⟨m, rfl⟩ : ∃ k, m = k + 1 := ⟨m - 1, by omega⟩
    rw [List.take_of_length_le (by omega)] at a1 sl ⊢
    rw [noonbelllaw10_BookOrder.l9_eq, List.length_map, decide_eq_false (by omega), cond_false]
    have := l17_run (n := n) hN (ps := ps) hl hm sl mm.length 0 N A (by omega) (by omega) (by rw [Nat.add_zero, ← show x = l.length by omega]; exact hA) a1 (by rw [List.take_zero]; exact a2) (by rw [List.take_zero]; intro s hs; cases hs)
    rw [show (((0 : Nat) : Int)) = 0 from rfl] at this
    exact this
  | succ d ih =>
    intro x m A rs hx hdm hA a1 a2 sl hR
    obtain ⟨m, rfl⟩ : ∃ k, m = k + 1 := ⟨m - 1, by omega⟩
    have hlt : x < l.length := by omega
    rw [noonbelllaw10_BookOrder.l9_eq, List.length_map, decide_eq_true (by omega), cond_true]
    obtain ⟨r, g1, g2⟩ := great_run (n := n + 1099) (a := l[x].a) (qs := l[x].qs) l[x].hq (by omega)
    have hel : ∀ c, at' (l.map Stp.fv) x c = (Stp.fv l[x]).cells[c]? := fun c => by rw [at_map, List.getElem?_eq_getElem hlt]; rfl
    by_cases h16 : l[x].qs.length ≤ 16
    · obtain ⟨A', e1, hA', c1, c2⟩ := add_abs (n := n + 1080) (a := l[x].a) (qs := l[x].qs) hA a1 (.inl rfl) l[x].hq h16
      have c3 := c2 secondB _ (by decide) a2
      obtain ⟨rs', f1, hR'⟩ := add_ref (n := n + 1058) (a := l[x].a) (qs := l[x].qs) hR l[x].hq h16
      rw [← prun_app, ← take_one hlt] at c1 hR'
      have happ := ansF_app (w := firstB) hlt
      have hat := ansF_at (w := firstB) (l := l.take (x + 1)) (i := x) (by rw [List.length_take]; omega)
      rw [List.take_take, Nat.min_eq_left (by omega), List.getElem_take] at hat
      have sl' := small_take hlt sl h16
      obtain ⟨e, he⟩ : ∃ e, pmay (prun firstB PS.zero (l.take x)) l[x].a l[x].qs = e := ⟨_, rfl⟩
      rw [he] at e1 f1 happ hat
      have hlen := ansF_len (w := firstB) (l := l.take x)
      rw [List.length_take] at hlen
      have hlen2 := ansF_len (w := firstB) (l := l.take (x + 1))
      rw [List.length_take, Nat.min_eq_left (by omega)] at hlen2
      have hble : Nat.ble ((ansF firstB (l.take x)).length + 1) 17592186044416 = true := Nat.ble_eq_true_of_le (by omega)
      rw [show n + 1099 + 1 = N by omega] at g1
      rw [show n + 1080 + 20 = N by omega] at e1
      rw [show n + 1058 + 42 = N by omega] at f1
      have th := noonbelllaw10_theirs_eq (n + 1099) l[x].a.kind l[x].a.cents l[x].a.seq l[x].a.sw l[x].a.s1 l[x].a.s2 l[x].a.s3 l[x].a.sb l[x].a.s5 l[x].a.s6 l[x].a.bw l[x].a.b1 l[x].a.b2 l[x].a.bb l[x].a.b4 l[x].a.bq l[x].a.b6 l[x].a.b7
      rw [show n + 1099 + 1 = N by omega] at th
      unfold Bk.L Ask.L firstB at e1
      unfold Ask.L at g1 f1
      generalize hfv : rs.map (Rc.fv firstB) = R at f1 ⊢
      generalize hfv' : rs'.map (Rc.fv firstB) = R' at f1
      unfold firstB at f1
      simp only [List.cons_append, List.nil_append] at e1
      rw [← List.length_map (f := Stp.fv), rd_step hlt, g1]
      simp only [Option.bind_some, List.getElem?_cons_zero, List.getElem?_cons_succ, asInt_int, asStr_str, asBool_bool, asLst_list]
      cases r with
      | true => rw [cond_true]
      | false =>
        rw [cond_false, rd_step hlt, e1]
        rw [Option.bind_some]
        simp only [List.getElem?_cons_zero, List.getElem?_cons_succ]
        repeat (first | rw [Option.bind_some] | rw [asLst_list] | rw [asInt_int] | rw [asStr_str] | rw [asBool_bool])
        rw [elems1, show ([FV.int .i64 e] : List FV).length = 1 from rfl, hble, cond_true, happ]
        rw [hlen2, ix_nat (show x < x + 1 by omega), Option.bind_some, hat, asInt_int, Option.bind_some, rd_step hlt, th]
        rw [Option.bind_some]
        simp only [List.getElem?_cons_zero, List.getElem?_cons_succ]
        repeat (first | rw [Option.bind_some] | rw [asLst_list] | rw [asInt_int] | rw [asStr_str] | rw [asBool_bool])
        rw [f1]
        rw [Option.bind_some]
        simp only [List.getElem?_cons_zero, List.getElem?_cons_succ]
        repeat (first | rw [Option.bind_some] | rw [asLst_list] | rw [asInt_int] | rw [asStr_str] | rw [asBool_bool])
        rw [bne_self_eq_false, cond_false]
        rw [wrap_succ (i := x) (by omega), ← hfv']
        exact ih (x + 1) m A' rs' (by omega) (by omega) hA' c1 c3 sl' hR'
    · cases r with
      | false => exact absurd (g2 rfl).len h16
      | true =>
        generalize l[x] = s at g1 hel
        rw [show n + 1099 + 1 = N by omega] at g1
        unfold Ask.L at g1
        simp only [ix_nat hlt, hel, Stp.fv, Ask.L, FV.cells, Option.bind_some, List.getElem?_cons_zero, List.getElem?_cons_succ, asInt_int, asStr_str, asBool_bool, asLst_list]
        rw [g1]
        simp only [Option.bind_some, List.getElem?_cons_zero, List.getElem?_cons_succ, asInt_int, asStr_str, asBool_bool, asLst_list, cond_true]

theorem order_pure (L : List FV) (h : All2 Fits [.lst true 192 stpShp, .lst true 192 stpShp, .lst false 1 [.bool]] L) : ∃ n, evF En n 7 L = some [.bool true] := by
  obtain ⟨x1, r1, rfl, h1, h⟩ := h.cons_inv
  obtain ⟨x2, r2, rfl, h2, h⟩ := h.cons_inv
  obtain ⟨x3, r3, rfl, h3, h⟩ := h.cons_inv
  obtain rfl := h.nil_inv
  obtain ⟨l, rfl, hlen, _⟩ := h1.lst_map Stp.fv (R := fun _ => True) fun cs hcs => stp_of hcs
  obtain ⟨mm, rfl, hlen2, _⟩ := h2.lst_map Stp.fv (R := fun _ => True) fun cs hcs => stp_of hcs
  obtain ⟨ps, rfl, _, _⟩ := h3.lst_map FV.bool (R := fun _ => True) fun cs hcs => by
    obtain ⟨y, r, rfl, hy, hr⟩ := hcs.cons_inv
    obtain rfl := hr.nil_inv
    obtain ⟨b, rfl⟩ := hy.bool_inv
    exact ⟨b, rfl, trivial⟩
  obtain ⟨n, hn⟩ : ∃ n, n = l.length + mm.length + 3000 := ⟨_, rfl⟩
  obtain ⟨r, hr, hr2⟩ := heavy_run (n := n) (l := l) (by omega) l.length 0 n (l.length : Int) (by omega) (by omega)
  obtain ⟨r', hr', hr2'⟩ := heavy_run (n := n) (l := mm) (by omega) mm.length 0 n (mm.length : Int) (by omega) (by omega)
  refine ⟨n + 2, ?_⟩
  show evF En (n + 1 + 1) 7 [.list 19 (l.map Stp.fv), .list 19 (mm.map Stp.fv), .list 1 (ps.map FV.bool)] = some [.bool true]
  rw [noonbelllaw10_BookOrder_eq, noonbelllaw10_heavy_eq, List.length_map]
  rw [show (((0 : Nat) : Int)) = 0 from rfl] at hr hr'
  rw [hr, Option.bind_some]
  simp only [List.getElem?_cons_zero, asBool_bool, Option.bind_some]
  cases r with
  | true => rw [cond_true]
  | false =>
    rw [cond_false, noonbelllaw10_heavy_eq, List.length_map, hr', Option.bind_some]
    simp only [List.getElem?_cons_zero, asBool_bool, Option.bind_some]
    cases r' with
    | true => rw [cond_true]
    | false =>
      rw [cond_false]
      by_cases hp : decide (((ps.map FV.bool).length : Int) > 512) = true
      · rw [hp, cond_true]
      · rw [show decide (((ps.map FV.bool).length : Int) > 512) = false by simpa using hp, cond_false]
        have hnew := new_run (n := n)
        unfold Bk.L at hnew
        rw [hnew]
        simp only [Option.bind_some, List.getElem?_cons_zero, List.getElem?_cons_succ, asLst_list, asInt_int]
        have := l9_run (N := n + 1) (n := n - 1099) (by omega) (ps := ps) (hr2 rfl) (hr2' rfl) l.length 0 (n + 1) Bk.empty [] (by omega) (by omega) (two_empty _ _) (abs_empty _) (abs_empty _) (by rw [List.take_zero]; intro s hs; cases hs) (rr_empty _)
        rw [show (((0 : Nat) : Int)) = 0 from rfl] at this
        exact this

end Rf
end
