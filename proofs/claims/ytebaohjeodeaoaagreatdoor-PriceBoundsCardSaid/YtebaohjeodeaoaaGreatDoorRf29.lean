/- Words for use: numbers, lists, maps. -/
import Derived.Test.YtebaohjeodeaoaaGreatDoorRf28
namespace Rf
open Go

/-! ### numbers and lists -/

theorem ix_nat {i n : Nat} (h : i < n) : ix (i : Int) n = some i := by
  unfold ix; rw [if_pos ⟨by omega, by omega⟩]; rfl
theorem ix_int {i : Int} {n : Nat} (h0 : 0 ≤ i) (h : i < n) : ix i n = some i.toNat := by
  unfold ix; rw [if_pos ⟨h0, h⟩]
theorem bd_nat {i n : Nat} (h : i ≤ n) : bd (i : Int) n = some i := by
  unfold bd; rw [if_pos ⟨by omega, by omega⟩]; rfl

theorem wrap64_id {x : Int} (h1 : -9223372036854775808 ≤ x) (h2 : x ≤ 9223372036854775807) : IntKind.wrap .i64 x = x := by
  unfold IntKind.wrap
  simp [IntKind.bits, IntKind.signed]
  split <;> omega

theorem wrap_succ {i : Nat} (h : i < 9223372036854775807) : IntKind.wrap .i64 ((i : Int) + 1) = ((i + 1 : Nat) : Int) := by
  rw [wrap64_id (by omega) (by omega)]; rfl

theorem at_map {α : Type} (f : α → FV) (l : List α) (i c : Nat) : at' (l.map f) i c = (l[i]?).bind fun x => (f x).cells[c]? := by
  simp [at']
  cases l[i]? <;> rfl

theorem at_one (x : FV) (c : Nat) : at' [x] 0 c = x.cells[c]? := rfl

theorem asInt_int (k : IntKind) (n : Int) : asInt k (some (.int k n)) = some n := by simp [asInt]
theorem asBool_bool (b : Bool) : asBool (some (.bool b)) = some b := rfl
theorem asStr_str (s : ByteArray) : asStr (some (.str s)) = some s := rfl
theorem asLst_list (z : Nat) (xs : List FV) : asLst z (some (.list z xs)) = some xs := by simp [asLst]

theorem toList_eq (a b : ByteArray) : (a.toList == b.toList) = decide (a = b) := by
  rw [← beq_toListBytes]
  rw [Bool.eq_iff_iff, MapKept.bytes_beq]
  simp

/-! ### what fits a shape -/

theorem All2.nil_inv {α β : Type} {R : α → β → Prop} {ys : List β} (h : All2 R [] ys) : ys = [] := by cases h; rfl
theorem All2.cons_inv {α β : Type} {R : α → β → Prop} {x : α} {xs : List α} {ys : List β} (h : All2 R (x :: xs) ys) : ∃ y ys', ys = y :: ys' ∧ R x y ∧ All2 R xs ys' := by
  cases h with
  | cons h t => exact ⟨_, _, rfl, h, t⟩

theorem Fits.int_inv {k : IntKind} {x : FV} (h : Fits (.int k) x) : ∃ n, x = .int k n ∧ k.min ≤ n ∧ n ≤ k.max := by cases h with | int a b => exact ⟨_, rfl, a, b⟩
theorem Fits.bool_inv {x : FV} (h : Fits .bool x) : ∃ b, x = .bool b := by cases h with | bool b => exact ⟨_, rfl⟩
theorem Fits.str_inv {x : FV} (h : Fits .str x) : ∃ s, x = .str s ∧ s.size ≤ 140737488351232 := by cases h with | str a => exact ⟨_, rfl, a⟩
theorem Fits.lst_inv {ag : Bool} {by' : Nat} {es : List Shp} {x : FV} (h : Fits (.lst ag by' es) x) : ∃ css : List (List FV), x = .list es.length (css.map (mkEl ag)) ∧ css.length * by' ≤ 140737488351232 ∧ ∀ cs, cs ∈ css → All2 Fits es cs := by
  cases h with
  | lst h1 h2 h3 =>
    refine ⟨_, rfl, h1, fun cs hcs => .of (h2 cs hcs).symm fun j s c q1 q2 => ?_⟩
    obtain ⟨i, hi⟩ := List.mem_iff_getElem?.1 hcs
    exact h3 i j cs s c hi q1 q2
/-- a list of elements, read as records -/
theorem Fits.lst_map {α : Type} {ag : Bool} {by' : Nat} {es : List Shp} {x : FV} (h : Fits (.lst ag by' es) x) (f : α → FV) {R : α → Prop} (hf : ∀ cs, All2 Fits es cs → ∃ a, mkEl ag cs = f a ∧ R a) :
    ∃ l : List α, x = .list es.length (l.map f) ∧ l.length * by' ≤ 140737488351232 ∧ ∀ a, a ∈ l → R a := by
  obtain ⟨css, rfl, h1, h2⟩ := h.lst_inv
  clear h
  have : ∀ css : List (List FV), (∀ cs, cs ∈ css → All2 Fits es cs) → ∃ l : List α, css.map (mkEl ag) = l.map f ∧ l.length = css.length ∧ ∀ a, a ∈ l → R a := by
    intro css
    induction css with
    | nil => intro _; exact ⟨[], rfl, rfl, fun a h => by simp at h⟩
    | cons c css ih =>
      intro h
      obtain ⟨l, q1, q2, q3⟩ := ih fun cs hcs => h cs (List.mem_cons_of_mem _ hcs)
      obtain ⟨a, p1, p2⟩ := hf c (h c List.mem_cons_self)
      refine ⟨a :: l, by simp [q1, p1], by simp [q2], fun b hb => ?_⟩
      rcases List.mem_cons.1 hb with rfl | hb
      · exact p2
      · exact q3 b hb
  obtain ⟨l, q1, q2, q3⟩ := this css h2
  exact ⟨l, by rw [q1], by rw [q2]; exact h1, q3⟩

theorem i64_min : IntKind.i64.min = -9223372036854775808 := by decide
theorem i64_max : IntKind.i64.max = 9223372036854775807 := by decide

/-! ### maps -/

theorem keq_symm (a b : FV) : keq a b = keq b a := by
  have one : ∀ a b : FV, keq1 a b = keq1 b a := by
    intro a b
    cases a <;> cases b <;> simp only [keq1] <;> rw [Bool.eq_iff_iff] <;> simp only [beq_iff_eq] <;> exact eq_comm
  have all : ∀ as bs : List FV, keqs as bs = keqs bs as := by
    intro as
    induction as with
    | nil => intro bs; cases bs <;> rfl
    | cons a as ih =>
      intro bs
      cases bs with
      | nil => rfl
      | cons b bs => simp only [keqs, one a b, ih bs]
  exact all _ _

theorem keq_left {k k' x : FV} (h : keq k' k = true) : keq k' x = keq k x := by
  rw [keq_symm k' x, keq_symm k x]
  rw [keq_symm] at h
  exact (keq_trans h)

theorem mgetD_mput (k v : FV) (c : Int) (k' z : FV) : ∀ es : List FV, mgetD (mput es k v c) k' z = bif keq k' k then v else mgetD es k' z
  | [] => by
    simp only [mput, mgetD, entKey, entVal]
  | e :: es => by
    have ih := mgetD_mput k v c k' z es
    simp only [mput]
    cases h : keq k (entKey e) with
    | true =>
      simp only [cond_true, mgetD, entKey, entVal]
      have h2 : keq k' (entKey e) = keq k' k := keq_trans h
      simp only [entKey] at h2
      rw [h2]
      cases keq k' k <;> rfl
    | false =>
      simp only [cond_false, mgetD, ih]
      cases h2 : keq k' k with
      | true => rw [keq_left h2, h]; rfl
      | false => rfl

theorem mhas_mput (k v : FV) (c : Int) (k' : FV) : ∀ es : List FV, mhas (mput es k v c) k' = (keq k' k || mhas es k')
  | [] => by simp [mput, mhas, entKey]
  | e :: es => by
    have ih := mhas_mput k v c k' es
    simp only [mput]
    cases h : keq k (entKey e) with
    | true =>
      have h2 : keq k' (entKey e) = keq k' k := keq_trans h
      simp only [cond_true, mhas, List.any_cons, h2]
      simp only [entKey]
      cases keq k' k <;> simp
    | false =>
      simp only [cond_false, mhas, List.any_cons] at ih ⊢
      rw [ih]
      cases keq k' (entKey e) <;> cases keq k' k <;> simp

/-- stamps: below the clock, each once -/
def MWf : List FV → Int → Prop
  | [], _ => True
  | e :: es, c => entBorn e < c ∧ (∀ x, x ∈ es → entBorn x ≠ entBorn e) ∧ MWf es c

theorem MWf.mem {es : List FV} {c : Int} (h : MWf es c) : ∀ e, e ∈ es → entBorn e < c := by
  induction es with
  | nil => intro e he; simp at he
  | cons x es ih =>
    intro e he
    rcases List.mem_cons.1 he with rfl | he
    · exact h.1
    · exact ih h.2.2 e he

theorem MWf.mono {es : List FV} {c c' : Int} (h : MWf es c) (hc : c ≤ c') : MWf es c' := by
  induction es with
  | nil => trivial
  | cons x es ih => exact ⟨by have := h.1; omega, h.2.1, ih h.2.2⟩

theorem mput_born (k v : FV) (c : Int) : ∀ {es : List FV} {x : FV}, x ∈ mput es k v c → (∃ y, y ∈ es ∧ entBorn y = entBorn x) ∨ (entBorn x = c ∧ mhas es k = false)
  | [], x, h => by simp [mput] at h; subst h; exact .inr ⟨rfl, rfl⟩
  | e :: es, x, h => by
    simp only [mput] at h
    cases hk : keq k (entKey e) with
    | true =>
      rw [hk, cond_true] at h
      rcases List.mem_cons.1 h with rfl | h
      · exact .inl ⟨e, by simp, rfl⟩
      · exact .inl ⟨x, List.mem_cons_of_mem _ h, rfl⟩
    | false =>
      rw [hk, cond_false] at h
      rcases List.mem_cons.1 h with rfl | h
      · exact .inl ⟨_, by simp, rfl⟩
      · rcases mput_born k v c h with ⟨y, h1, h2⟩ | ⟨h1, h2⟩
        · exact .inl ⟨y, List.mem_cons_of_mem _ h1, h2⟩
        · exact .inr ⟨h1, by simpa [mhas, hk] using h2⟩

theorem MWf.put {k v : FV} : ∀ {es : List FV} {c : Int}, MWf es c → MWf (mput es k v c) (mclk es k c)
  | [], c, h => ⟨by simp [entBorn, mclk, mhas]; omega, fun x h => by simp at h, trivial⟩
  | e :: es, c, h => by
    simp only [mput]
    cases hk : keq k (entKey e) with
    | true =>
      have : mclk (e :: es) k c = c := by simp [mclk, mhas, hk]
      rw [this, cond_true]
      exact ⟨h.1, h.2.1, h.2.2⟩
    | false =>
      have hc : mclk (e :: es) k c = mclk es k c := by simp [mclk, mhas, hk]
      rw [hc, cond_false]
      have hle : c ≤ mclk es k c := by unfold mclk; cases mhas es k <;> simp; omega
      refine ⟨by have := h.1; omega, fun x hx => ?_, h.2.2.put⟩
      rcases mput_born k v c hx with ⟨y, h1, h2⟩ | ⟨h1, _⟩
      · rw [← h2]; exact h.2.1 y h1
      · rw [h1]; have := h.1; omega

theorem MWf.del {k : FV} : ∀ {es : List FV} {c : Int}, MWf es c → MWf (mdel es k) c
  | [], c, h => h
  | e :: es, c, h => by
    simp only [mdel]
    cases hk : keq k (entKey e) with
    | true => exact h.2.2
    | false =>
      refine ⟨h.1, fun x hx => ?_, h.2.2.del⟩
      have sub : ∀ {es : List FV} {x : FV}, x ∈ mdel es k → x ∈ es := by
        intro es
        induction es with
        | nil => intro x h; simp [mdel] at h
        | cons e es ih =>
          intro x h
          simp only [mdel] at h
          cases hk : keq k (entKey e) with
          | true => rw [hk, cond_true] at h; exact List.mem_cons_of_mem _ h
          | false =>
            rw [hk, cond_false] at h
            rcases List.mem_cons.1 h with rfl | h
            · simp
            · exact List.mem_cons_of_mem _ (ih h)
      exact h.2.1 x (sub hx)

theorem mhasB_ment (k z : FV) (c : Int) : ∀ es : List FV, mhasB (ment es k z c) (mborn es k c) = true
  | [] => by simp [ment, mborn, mhasB, entBorn]
  | e :: es => by
    have ih := mhasB_ment k z c es
    simp only [ment, mborn]
    cases hk : keq k (entKey e) with
    | true => simp [mhasB, entBorn]
    | false =>
      simp only [cond_false, mhasB, List.any_cons] at ih ⊢
      rw [ih, Bool.or_true]

/-- 'm[k] op= v' puts v in -/
theorem msetB_ment (k z v : FV) : ∀ {es : List FV} {c : Int}, MWf es c → msetB (ment es k z c) (mborn es k c) v = mput es k v c
  | [], c, _ => by simp [ment, mborn, msetB, mput, entBorn, entKey]
  | e :: es, c, h => by
    have ih := msetB_ment k z v h.2.2
    simp only [ment, mborn, mput]
    cases hk : keq k (entKey e) with
    | true => simp [msetB, entBorn, entKey]
    | false =>
      simp only [cond_false, msetB]
      have hne : (entBorn e == mborn es k c) = false := by
        have hb : ∀ {es : List FV}, (∃ y, y ∈ es ∧ entBorn y = mborn es k c) ∨ mborn es k c = c := by
          intro es
          induction es with
          | nil => exact .inr rfl
          | cons x es ih =>
            simp only [mborn]
            cases hk : keq k (entKey x) with
            | true => exact .inl ⟨x, by simp, rfl⟩
            | false =>
              rcases ih with ⟨y, h1, h2⟩ | h
              · exact .inl ⟨y, List.mem_cons_of_mem _ h1, h2⟩
              · exact .inr h
        rcases hb (es := es) with ⟨y, h1, h2⟩ | h1
        · rw [← h2]; simpa using Ne.symm (h.2.1 y h1)
        · rw [h1]; have := h.1; simp; omega
      rw [hne, cond_false, ih]

end Rf
