/- ResultLinks: what is computed of its leaves is true. -/
import Derived.Test.YtecinekkgnhhoaaEqLinks
import Derived.Test.YtecinekkgnhhoaaRf29
namespace Rf
open Go

/-- A block, by its fields. -/
structure Blk where
  who : ByteArray
  seq : Int
  zone : Int
  buy : Bool
  price : Int
  qty : List FV
  parent : Int
  group : Int

def Blk.fv (b : Blk) : FV := .agg [.str b.who, .int .i64 b.seq, .int .i64 b.zone, .bool b.buy, .int .i64 b.price, .list 1 b.qty, .int .i64 b.parent, .int .i64 b.group]

/-- the shape of a list of blocks -/
def blkShp : List Shp := [.str, .int .i64, .int .i64, .bool, .int .i64, .lst false 8 [.int .i64], .int .i64, .int .i64]

theorem blk_of {cs : List FV} (h : All2 Fits blkShp cs) : ∃ b : Blk, mkEl true cs = b.fv ∧ True := by
  obtain ⟨x1, r1, rfl, h1, h⟩ := h.cons_inv
  obtain ⟨x2, r2, rfl, h2, h⟩ := h.cons_inv
  obtain ⟨x3, r3, rfl, h3, h⟩ := h.cons_inv
  obtain ⟨x4, r4, rfl, h4, h⟩ := h.cons_inv
  obtain ⟨x5, r5, rfl, h5, h⟩ := h.cons_inv
  obtain ⟨x6, r6, rfl, h6, h⟩ := h.cons_inv
  obtain ⟨x7, r7, rfl, h7, h⟩ := h.cons_inv
  obtain ⟨x8, r8, rfl, h8, h⟩ := h.cons_inv
  obtain rfl := h.nil_inv
  obtain ⟨s1, rfl, _⟩ := h1.str_inv
  obtain ⟨n2, rfl, _⟩ := h2.int_inv
  obtain ⟨n3, rfl, _⟩ := h3.int_inv
  obtain ⟨b4, rfl⟩ := h4.bool_inv
  obtain ⟨n5, rfl, _⟩ := h5.int_inv
  obtain ⟨c6, rfl, _, _⟩ := h6.lst_inv
  obtain ⟨n7, rfl, _⟩ := h7.int_inv
  obtain ⟨n8, rfl, _⟩ := h8.int_inv
  exact ⟨⟨s1, n2, n3, b4, n5, c6.map (mkEl false), n7, n8⟩, rfl, trivial⟩

section
variable {bs : List Blk} {ac : List Bool}

/-- accepted is the block at i -/
def Acc (bs : List Blk) (ac : List Bool) (i : Nat) (b : Blk) : Prop := bs[i]? = some b ∧ ac[i]? = some true

/-- how many of the first n are accepted and as p says -/
def cnt (bs : List Blk) (ac : List Bool) (p : Blk → Bool) (n : Nat) : Nat := ((bs.zip ac).take n).countP fun x => x.2 && p x.1

theorem cnt_le (p : Blk → Bool) (n : Nat) : cnt bs ac p n ≤ n := by
  unfold cnt
  exact Nat.le_trans List.countP_le_length (by simp; omega)

theorem cnt_succ {p : Blk → Bool} {i : Nat} {b : Blk} {a : Bool} (hb : bs[i]? = some b) (ha : ac[i]? = some a) : cnt bs ac p (i + 1) = cnt bs ac p i + (if a && p b then 1 else 0) := by
  unfold cnt
  rw [List.take_add_one]
  have : (bs.zip ac)[i]? = some (b, a) := List.getElem?_zip_eq_some.2 ⟨hb, ha⟩
  rw [this, List.countP_append]
  simp [List.countP_cons]

theorem cnt_zero {p : Blk → Bool} {n : Nat} : cnt bs ac p n = 0 ↔ ∀ i b, i < n → Acc bs ac i b → p b = false := by
  unfold cnt
  rw [List.countP_eq_zero]
  constructor
  · intro h i b hi ⟨h1, h2⟩
    have hz : (bs.zip ac)[i]? = some (b, true) := List.getElem?_zip_eq_some.2 ⟨h1, h2⟩
    have : (b, true) ∈ (bs.zip ac).take n := List.mem_of_getElem? (i := i) (by rw [List.getElem?_take_of_lt hi]; exact hz)
    have := h _ this
    simpa using this
  · intro h x hx
    obtain ⟨i, hi⟩ := List.mem_iff_getElem?.1 hx
    rw [List.getElem?_take] at hi
    split at hi
    · rename_i hlt
      obtain ⟨q1, q2⟩ := List.getElem?_zip_eq_some.1 hi
      cases hb : x.2 with
      | false => simp
      | true => rw [hb] at q2; simp [h i x.1 hlt ⟨q1, q2⟩]
    · cases hi

/-- of so many that are ac p says, this one among them, there are others just where there are more than one -/
theorem cnt_more {p : Blk → Bool} {n i : Nat} {b : Blk} (hi : i < n) (ha : Acc bs ac i b) (hp : p b = true) : 1 < cnt bs ac p n ↔ ∃ j c, j < n ∧ j ≠ i ∧ Acc bs ac j c ∧ p c = true := by
  have hz : (bs.zip ac)[i]? = some (b, true) := List.getElem?_zip_eq_some.2 ⟨ha.1, ha.2⟩
  have hlt : i < (bs.zip ac).length := (List.getElem?_eq_some_iff.1 hz).1
  have hsplit : (bs.zip ac).take n = (bs.zip ac).take i ++ (b, true) :: ((bs.zip ac).take n).drop (i + 1) := by
    have h1 : ((bs.zip ac).take n).take i = (bs.zip ac).take i := by rw [List.take_take]; congr 1; omega
    have h2 : ((bs.zip ac).take n)[i]? = some (b, true) := by rw [List.getElem?_take_of_lt hi]; exact hz
    rw [← h1]
    conv => lhs; rw [← List.take_append_drop i ((bs.zip ac).take n)]
    congr 1
    have hlt2 := (List.getElem?_eq_some_iff.1 h2).1
    rw [List.drop_eq_getElem_cons hlt2]
    congr 1
    exact (List.getElem?_eq_some_iff.1 h2).2
  unfold cnt
  rw [hsplit, List.countP_append, List.countP_cons]
  simp only [Bool.true_and, hp, if_true]
  constructor
  · intro h
    have : 0 < ((bs.zip ac).take i).countP (fun x => x.2 && p x.1) ∨ 0 < (((bs.zip ac).take n).drop (i + 1)).countP (fun x => x.2 && p x.1) := by omega
    rcases this with h | h
    · obtain ⟨x, hx, hpx⟩ := List.countP_pos_iff.1 h
      obtain ⟨j, hj⟩ := List.mem_iff_getElem?.1 hx
      rw [List.getElem?_take] at hj
      split at hj
      · rename_i hji
        obtain ⟨q1, q2⟩ := List.getElem?_zip_eq_some.1 hj
        simp only [Bool.and_eq_true] at hpx
        exact ⟨j, x.1, by omega, by omega, ⟨q1, by rw [q2, hpx.1]⟩, hpx.2⟩
      · cases hj
    · obtain ⟨x, hx, hpx⟩ := List.countP_pos_iff.1 h
      obtain ⟨j, hj⟩ := List.mem_iff_getElem?.1 hx
      rw [List.getElem?_drop, List.getElem?_take] at hj
      split at hj
      · rename_i hji
        obtain ⟨q1, q2⟩ := List.getElem?_zip_eq_some.1 hj
        simp only [Bool.and_eq_true] at hpx
        exact ⟨i + 1 + j, x.1, by omega, by omega, ⟨q1, by rw [q2, hpx.1]⟩, hpx.2⟩
      · cases hj
  · rintro ⟨j, c, hj, hne, ⟨q1, q2⟩, hpc⟩
    have hzj : (bs.zip ac)[j]? = some (c, true) := List.getElem?_zip_eq_some.2 ⟨q1, q2⟩
    rcases Nat.lt_or_gt_of_ne hne with h | h
    · have : 0 < ((bs.zip ac).take i).countP (fun x => x.2 && p x.1) := List.countP_pos_iff.2 ⟨(c, true), List.mem_of_getElem? (i := j) (by rw [List.getElem?_take_of_lt h]; exact hzj), by simp [hpc]⟩
      omega
    · have : 0 < (((bs.zip ac).take n).drop (i + 1)).countP (fun x => x.2 && p x.1) :=
        List.countP_pos_iff.2 ⟨(c, true), List.mem_of_getElem? (i := j - (i + 1)) (by rw [List.getElem?_drop, show i + 1 + (j - (i + 1)) = j by omega, List.getElem?_take_of_lt hj]; exact hzj), by simp [hpc]⟩
      omega

/-- what links and groups are: of each that is accepted -/
def OkAt (bs : List Blk) (ac : List Bool) (i : Nat) : Prop :=
  ∀ b, Acc bs ac i b → (b.parent ≤ 0 ∨ ∃ j c, Acc bs ac j c ∧ c.who = b.who ∧ c.seq = b.parent) ∧ ∀ j c, j ≠ i → Acc bs ac j c → c.who = b.who → 0 < b.group → c.group ≠ b.group

def gk (w : ByteArray) (g : Int) : FV := .agg [.str w, .int .i64 g]

theorem keq_gk (w v : ByteArray) (g h : Int) : keq (gk w g) (gk v h) = (decide (w = v) && (g == h)) := by
  simp [keq, gk, FV.cells, keqs, keq1, toList_eq]

/-- a map that counts -/
def Counts (e : List FV) (f : ByteArray → Int → Nat) : Prop := ∀ w g, mgetD e (gk w g) (.int .i64 0) = .int .i64 (f w g)

def isG (w : ByteArray) (g : Int) (b : Blk) : Bool := decide (b.who = w) && (b.group == g)
def isN (w : ByteArray) (g : Int) (b : Blk) : Bool := decide (b.who = w) && (b.seq == g)

theorem counts_put {e : List FV} {x : Int} {f f' : ByteArray → Int → Nat} {w : ByteArray} {g : Int} (h : Counts e f) (hf : ∀ v k, f' v k = f v k + (if (decide (w = v) && (g == k)) = true then 1 else 0)) :
    Counts (mput e (gk w g) (.int .i64 ((f w g + 1 : Nat) : Int)) x) f' := fun v k => by
  rw [mgetD_mput, keq_gk]
  have h1 := hf v k
  cases hk : (decide (v = w) && (k == g)) with
  | true =>
    simp only [Bool.and_eq_true, decide_eq_true_eq, beq_iff_eq] at hk
    obtain ⟨rfl, rfl⟩ := hk
    simp at h1
    rw [cond_true, h1]
  | false =>
    have : (decide (w = v) && (g == k)) = false := by
      rw [← hk, Bool.eq_iff_iff]; simp only [Bool.and_eq_true, decide_eq_true_eq, beq_iff_eq]; constructor <;> (rintro ⟨rfl, rfl⟩; exact ⟨rfl, rfl⟩)
    rw [this] at h1
    simp at h1
    rw [cond_false, h1]; exact h v k

theorem l5_run (hl : ac.length = bs.length) (hb : bs.length ≤ 140737488351232) (n : Nat) : ∀ (d i m : Nat) (e2 : List FV) (x2 : Int) (e3 : List FV) (x3 : Int), i + d = bs.length → d < m → MWf e2 x2 → MWf e3 x3 → Counts e2 (fun w g => cnt bs ac (isG w g) i) →
    Counts e3 (fun w g => cnt bs ac (isN w g) i) → ∃ f2 y2 f3 y3, Counts f2 (fun w g => cnt bs ac (isG w g) bs.length) ∧ Counts f3 (fun w g => cnt bs ac (isN w g) bs.length) ∧
      result_Linked.l5 n [] m [.list 8 (bs.map Blk.fv), .list 1 (ac.map .bool), .list 3 e2, .int .i64 x2, .list 3 e3, .int .i64 x3, .list 8 (bs.map Blk.fv), .int .i64 (bs.length : Int), .int .i64 (i : Int)] =
        result_Linked.l12 n [] n [.list 1 (ac.map .bool), .list 3 f2, .int .i64 y2, .list 3 f3, .int .i64 y3, .list 8 (bs.map Blk.fv), .int .i64 (bs.length : Int), .int .i64 0]
  | 0, i, m + 1, e2, x2, e3, x3, hi, hm, w2, w3, c2, c3 => by
    have : i = bs.length := by omega
    subst this
    refine ⟨e2, x2, e3, x3, c2, c3, ?_⟩
    rw [result_Linked.l5_eq]
    simp
  | d + 1, i, m + 1, e2, x2, e3, x3, hi, hm, w2, w3, c2, c3 => by
    have hib : i < bs.length := by omega
    have hia : i < ac.length := by omega
    have hbi : bs[i]? = some bs[i] := List.getElem?_eq_getElem hib
    have hai : ac[i]? = some ac[i] := List.getElem?_eq_getElem hia
    rw [result_Linked.l5_eq]
    have hlt : decide ((i : Int) < (bs.length : Int)) = true := by simpa using hib
    have hix : ix (i : Int) (bs.map Blk.fv).length = some i := ix_nat (by simpa using hib)
    have hix2 : ix (i : Int) (ac.map FV.bool).length = some i := ix_nat (by simpa using hia)
    simp only [hlt, cond_true, hix, hix2, Option.bind_some, at_map, hbi, hai, Blk.fv, FV.cells, List.getElem?_cons_zero, List.getElem?_cons_succ, asStr_str, asInt_int, asBool_bool, asLst_list]
    have hs := fun p => cnt_succ (p := p) hbi hai
    rw [wrap_succ (by omega)]
    cases ha : ac[i] with
    | false =>
      simp only [cond_false]
      have hs' : ∀ p, cnt bs ac p (i + 1) = cnt bs ac p i := fun p => by have := hs p; rw [ha] at this; simpa using this
      refine l5_run hl hb n d (i + 1) m e2 x2 e3 x3 (by omega) (by omega) w2 w3 (fun w g => (c2 w g).trans (by simp only [hs'])) (fun w g => (c3 w g).trans (by simp only [hs']))
    | true =>
      simp only [cond_true]
      have hs' : ∀ p, cnt bs ac p (i + 1) = cnt bs ac p i + if p bs[i] then 1 else 0 := fun p => by have := hs p; rw [ha] at this; simpa using this
      rw [show (FV.agg [.str bs[i].who, .int .i64 bs[i].group]) = gk bs[i].who bs[i].group from rfl, show (FV.agg [.str bs[i].who, .int .i64 bs[i].seq]) = gk bs[i].who bs[i].seq from rfl]
      simp only [c2 bs[i].who bs[i].group, c3 bs[i].who bs[i].seq, at_one, FV.cells, List.getElem?_cons_zero, asInt_int, Option.bind_some, mhasB_ment, cond_true, msetB_ment _ _ _ w2, msetB_ment _ _ _ w3]
      have k2 := cnt_le (bs := bs) (ac := ac) (isG bs[i].who bs[i].group) i
      have k3 := cnt_le (bs := bs) (ac := ac) (isN bs[i].who bs[i].seq) i
      rw [wrap_succ (by omega), wrap_succ (by omega)]
      refine l5_run hl hb n d (i + 1) m _ _ _ _ (by omega) (by omega) w2.put w3.put (counts_put c2 fun v k => ?_) (counts_put c3 fun v k => ?_)
      · rw [hs']; rfl
      · rw [hs']; rfl

/-- what the program asks of each -/
def okP (bs : List Blk) (ac : List Bool) (i : Nat) : Prop :=
  ∀ b, Acc bs ac i b → ¬ (0 < b.group ∧ 1 < cnt bs ac (isG b.who b.group) bs.length) ∧ ¬ (0 < b.parent ∧ cnt bs ac (isN b.who b.parent) bs.length = 0)

theorem okP_iff (hl : ac.length = bs.length) (i : Nat) : okP bs ac i ↔ OkAt bs ac i := by
  have hlt : ∀ {j c}, Acc bs ac j c → j < bs.length := fun h => (List.getElem?_eq_some_iff.1 h.1).1
  constructor
  · intro h b hb
    obtain ⟨h1, h2⟩ := h b hb
    refine ⟨?_, fun j c hj hc hw hg he => h1 ⟨hg, (cnt_more (hlt hb) hb (by simp [isG])).2 ⟨j, c, hlt hc, hj, hc, by simp [isG, hw, he]⟩⟩⟩
    by_cases hp : b.parent ≤ 0
    · exact .inl hp
    · right
      apply Classical.byContradiction
      intro hn
      refine h2 ⟨by omega, cnt_zero.2 fun j c _ hc => ?_⟩
      apply Bool.eq_false_iff.2
      intro hq
      simp only [isN, Bool.and_eq_true, decide_eq_true_eq, beq_iff_eq] at hq
      exact hn ⟨j, c, hc, hq.1, hq.2⟩
  · intro h b hb
    obtain ⟨h1, h2⟩ := h b hb
    refine ⟨fun ⟨hg, hc⟩ => ?_, fun ⟨hp, hc⟩ => ?_⟩
    · obtain ⟨j, c, _, hj, hc, hq⟩ := (cnt_more (hlt hb) hb (by simp [isG])).1 hc
      simp only [isG, Bool.and_eq_true, decide_eq_true_eq, beq_iff_eq] at hq
      exact h2 j c hj hc hq.1 hg hq.2
    · rcases h1 with h1 | ⟨j, c, hc', hw, he⟩
      · omega
      · have := cnt_zero.1 hc j c (hlt hc') hc'
        simp [isN, hw, he] at this

theorem l12_run (hl : ac.length = bs.length) (hb : bs.length ≤ 140737488351232) (n : Nat) {e2 e3 : List FV} {x2 x3 : Int} (c2 : Counts e2 (fun w g => cnt bs ac (isG w g) bs.length)) (c3 : Counts e3 (fun w g => cnt bs ac (isN w g) bs.length)) :
    ∀ (d i m : Nat), i + d = bs.length → d < m → ∃ r, result_Linked.l12 n [] m [.list 1 (ac.map .bool), .list 3 e2, .int .i64 x2, .list 3 e3, .int .i64 x3, .list 8 (bs.map Blk.fv), .int .i64 (bs.length : Int), .int .i64 (i : Int)] = some [.bool r] ∧
      (r = true ↔ ∀ j, i ≤ j → okP bs ac j)
  | 0, i, m + 1, hi, hm => by
    have : i = bs.length := by omega
    subst this
    refine ⟨true, by rw [result_Linked.l12_eq]; simp, by simp; intro j hj b hb; exact absurd (List.getElem?_eq_some_iff.1 hb.1).1 (by omega)⟩
  | d + 1, i, m + 1, hi, hm => by
    have hib : i < bs.length := by omega
    have hia : i < ac.length := by omega
    have hbi : bs[i]? = some bs[i] := List.getElem?_eq_getElem hib
    have hai : ac[i]? = some ac[i] := List.getElem?_eq_getElem hia
    obtain ⟨r, hr, hiff⟩ := l12_run hl hb n c2 c3 d (i + 1) m (by omega) (by omega)
    have step : ∀ {p : Prop}, (okP bs ac i ↔ p) → ((∀ j, i ≤ j → okP bs ac j) ↔ (p ∧ r = true)) := fun hp => by
      rw [hiff, ← hp]
      constructor
      · exact fun h => ⟨h i (Nat.le_refl _), fun j hj => h j (by omega)⟩
      · rintro ⟨h1, h2⟩ j hj
        rcases Nat.eq_or_lt_of_le hj with rfl | hj
        · exact h1
        · exact h2 j hj
    rw [result_Linked.l12_eq]
    have hlt : decide ((i : Int) < (bs.length : Int)) = true := by simpa using hib
    have hix : ix (i : Int) (bs.map Blk.fv).length = some i := ix_nat (by simpa using hib)
    have hix2 : ix (i : Int) (ac.map FV.bool).length = some i := ix_nat (by simpa using hia)
    simp only [hlt, cond_true, hix, hix2, Option.bind_some, at_map, hbi, hai, Blk.fv, FV.cells, List.getElem?_cons_zero, List.getElem?_cons_succ, asStr_str, asInt_int, asBool_bool, asLst_list]
    rw [wrap_succ (by omega)]
    cases ha : ac[i] with
    | false =>
      simp only [cond_false]
      refine ⟨r, hr, ?_⟩
      rw [step (p := True) ⟨fun _ => trivial, fun _ b hb => by have := hb.2; rw [hai, ha] at this; cases this⟩]
      simp
    | true =>
      simp only [cond_true]
      rw [show (FV.agg [.str bs[i].who, .int .i64 bs[i].group]) = gk bs[i].who bs[i].group from rfl, show (FV.agg [.str bs[i].who, .int .i64 bs[i].parent]) = gk bs[i].who bs[i].parent from rfl]
      simp only [c2 bs[i].who bs[i].group, c3 bs[i].who bs[i].parent, at_one, FV.cells, List.getElem?_cons_zero, asInt_int, Option.bind_some]
      have hacc : Acc bs ac i bs[i] := ⟨hbi, by rw [hai, ha]⟩
      have hok : okP bs ac i ↔ ¬ (0 < bs[i].group ∧ 1 < cnt bs ac (isG bs[i].who bs[i].group) bs.length) ∧ ¬ (0 < bs[i].parent ∧ cnt bs ac (isN bs[i].who bs[i].parent) bs.length = 0) :=
        ⟨fun h => h _ hacc, fun h b hb => by have := hb.1; rw [hbi] at this; cases this; exact h⟩
      have hstep := step hok
      have e0 : ∀ k : Nat, ((k : Int) == 0) = decide (k = 0) := fun k => by rw [Bool.eq_iff_iff]; simp
      rw [hr]
      by_cases g1 : 0 < bs[i].group <;> by_cases g2 : 1 < cnt bs ac (isG bs[i].who bs[i].group) bs.length <;> by_cases g3 : 0 < bs[i].parent <;> by_cases g4 : cnt bs ac (isN bs[i].who bs[i].parent) bs.length = 0 <;>
        simp only [g1, g2, g3, g4, true_and, false_and, and_true, and_false, not_true_eq_false, not_false_eq_true] at hstep <;>
        simp [g1, g2, g3, g4, hstep, e0, show ((1 : Int) < (cnt bs ac (isG bs[i].who bs[i].group) bs.length : Int)) ↔ 1 < cnt bs ac (isG bs[i].who bs[i].group) bs.length by omega]

theorem linked_run (hl : ac.length = bs.length) (hb : bs.length ≤ 140737488351232) {n : Nat} (hn : bs.length + 1 < n) : ∃ r, evF En n 9 [.list 8 (bs.map Blk.fv), .list 1 (ac.map .bool)] = some [.bool r] ∧ (r = true ↔ ∀ j, OkAt bs ac j) := by
  obtain ⟨n, rfl⟩ : ∃ m, n = m + 1 := ⟨n - 1, by omega⟩
  rw [result_Linked_eq]
  obtain ⟨f2, y2, f3, y3, c2, c3, h⟩ := l5_run hl hb n bs.length 0 n [] 0 [] 0 (by omega) (by omega) trivial trivial (fun w g => by simp [mgetD, cnt]) (fun w g => by simp [mgetD, cnt])
  obtain ⟨r, h1, h2⟩ := l12_run hl hb n (x2 := y2) (x3 := y3) c2 c3 bs.length 0 n (by omega) (by omega)
  refine ⟨r, ?_, ?_⟩
  · simp only [List.length_map, hl, bne_self_eq_false, cond_false]
    exact h.trans h1
  · rw [h2]
    exact ⟨fun h j => (okP_iff hl j).1 (h j (Nat.zero_le _)), fun h j _ => (okP_iff hl j).2 (h j)⟩

/-! ### the document's own -/

theorem acc_dec {i : Nat} (h : i < bs.length) (ha : i < ac.length) : Acc bs ac i bs[i] ↔ ac[i] = true := by
  unfold Acc
  rw [List.getElem?_eq_getElem h, List.getElem?_eq_getElem ha]
  simp

/-- the inner loop: over all that are accepted -/
theorem l10_run (hl : ac.length = bs.length) (hb : bs.length ≤ 140737488351232) (n i : Nat) (b : Blk) : ∀ (d j m m0 : Nat) (met : Bool), j + d = bs.length → d < m →
    (∃ k c, j ≤ k ∧ k ≠ i ∧ Acc bs ac k c ∧ c.who = b.who ∧ 0 < b.group ∧ c.group = b.group) ∧
      noonbellref16_Linked.l10 n [m0] m [.str b.who, .int .i64 b.seq, .int .i64 b.zone, .bool b.buy, .int .i64 b.price, .list 1 b.qty, .int .i64 b.parent, .int .i64 b.group, .list 8 (bs.map Blk.fv), .list 1 (ac.map .bool), .int .i64 (i : Int), .bool met, .int .i64 (j : Int)] = some [.bool false] ∨
    ¬ (∃ k c, j ≤ k ∧ k ≠ i ∧ Acc bs ac k c ∧ c.who = b.who ∧ 0 < b.group ∧ c.group = b.group) ∧
      (((met = true ∨ ∃ k c, j ≤ k ∧ Acc bs ac k c ∧ c.who = b.who ∧ c.seq = b.parent) ∧
        noonbellref16_Linked.l10 n [m0] m [.str b.who, .int .i64 b.seq, .int .i64 b.zone, .bool b.buy, .int .i64 b.price, .list 1 b.qty, .int .i64 b.parent, .int .i64 b.group, .list 8 (bs.map Blk.fv), .list 1 (ac.map .bool), .int .i64 (i : Int), .bool met, .int .i64 (j : Int)] =
          noonbellref16_Linked.l4 n [] m0 [.list 8 (bs.map Blk.fv), .list 1 (ac.map .bool), .int .i64 (IntKind.wrap .i64 ((i : Int) + 1))]) ∨
       (¬ (met = true ∨ ∃ k c, j ≤ k ∧ Acc bs ac k c ∧ c.who = b.who ∧ c.seq = b.parent) ∧
        noonbellref16_Linked.l10 n [m0] m [.str b.who, .int .i64 b.seq, .int .i64 b.zone, .bool b.buy, .int .i64 b.price, .list 1 b.qty, .int .i64 b.parent, .int .i64 b.group, .list 8 (bs.map Blk.fv), .list 1 (ac.map .bool), .int .i64 (i : Int), .bool met, .int .i64 (j : Int)] = some [.bool false]))
  | 0, j, m + 1, m0, met, hj, hm => by
    have : j = bs.length := by omega
    subst this
    have no : ∀ {k c}, bs.length ≤ k → ¬ Acc bs ac k c := fun hk h => absurd (List.getElem?_eq_some_iff.1 h.1).1 (by omega)
    refine .inr ⟨fun ⟨k, c, hk, _, h, _⟩ => no hk h, ?_⟩
    rw [noonbellref16_Linked.l10_eq]
    cases met with
    | true => exact .inl ⟨.inl rfl, by simp⟩
    | false => exact .inr ⟨fun h => by rcases h with h | ⟨k, c, hk, h, _⟩; · cases h
                                       · exact no hk h, by simp⟩
  | d + 1, j, m + 1, m0, met, hj, hm => by
    have hib : j < bs.length := by omega
    have hia : j < ac.length := by omega
    have hbi : bs[j]? = some bs[j] := List.getElem?_eq_getElem hib
    have hai : ac[j]? = some ac[j] := List.getElem?_eq_getElem hia
    have hlt : decide ((j : Int) < ((bs.map Blk.fv).length : Int)) = true := by simpa using hib
    have hix : ix (j : Int) (bs.map Blk.fv).length = some j := ix_nat (by simpa using hib)
    have hix2 : ix (j : Int) (ac.map FV.bool).length = some j := ix_nat (by simpa using hia)
    have ih := fun met => l10_run hl hb n i b d (j + 1) m m0 met (by omega) (by omega)
    rw [noonbellref16_Linked.l10_eq]
    simp only [hlt, cond_true, hix, hix2, Option.bind_some, at_map, hbi, hai, Blk.fv, FV.cells, List.getElem?_cons_zero, List.getElem?_cons_succ, asStr_str, asInt_int, asBool_bool, asLst_list, toList_eq]
    rw [wrap_succ (by omega)]
    -- what stands at j
    have splitE : ∀ {p : Nat → Blk → Prop}, (∃ k c, j ≤ k ∧ p k c ∧ Acc bs ac k c) ↔ ((ac[j] = true ∧ p j bs[j]) ∨ ∃ k c, j + 1 ≤ k ∧ p k c ∧ Acc bs ac k c) := by
      intro p
      constructor
      · rintro ⟨k, c, hk, hp, h⟩
        rcases Nat.eq_or_lt_of_le hk with rfl | hk
        · have := h.1; rw [hbi] at this; cases this
          exact .inl ⟨(acc_dec hib hia).1 h, hp⟩
        · exact .inr ⟨k, c, hk, hp, h⟩
      · rintro (⟨h1, h2⟩ | ⟨k, c, hk, hp, h⟩)
        · exact ⟨j, _, Nat.le_refl _, h2, (acc_dec hib hia).2 h1⟩
        · exact ⟨k, c, by omega, hp, h⟩
    have e1 : (∃ k c, j ≤ k ∧ k ≠ i ∧ Acc bs ac k c ∧ c.who = b.who ∧ 0 < b.group ∧ c.group = b.group) ↔ ((ac[j] = true ∧ j ≠ i ∧ bs[j].who = b.who ∧ 0 < b.group ∧ bs[j].group = b.group) ∨ ∃ k c, j + 1 ≤ k ∧ k ≠ i ∧ Acc bs ac k c ∧ c.who = b.who ∧ 0 < b.group ∧ c.group = b.group) := by
      have := splitE (p := fun k c => k ≠ i ∧ c.who = b.who ∧ 0 < b.group ∧ c.group = b.group)
      constructor
      · rintro ⟨k, c, h1, h2, h3, h4⟩
        rcases this.1 ⟨k, c, h1, ⟨h2, h4⟩, h3⟩ with h | ⟨k, c, h1, ⟨h2, h4⟩, h3⟩
        · exact .inl h
        · exact .inr ⟨k, c, h1, h2, h3, h4⟩
      · rintro (h | ⟨k, c, h1, h2, h3, h4⟩)
        · obtain ⟨k, c, h1, ⟨h2, h4⟩, h3⟩ := this.2 (.inl h)
          exact ⟨k, c, h1, h2, h3, h4⟩
        · exact ⟨k, c, by omega, h2, h3, h4⟩
    have e2 : (∃ k c, j ≤ k ∧ Acc bs ac k c ∧ c.who = b.who ∧ c.seq = b.parent) ↔ ((ac[j] = true ∧ bs[j].who = b.who ∧ bs[j].seq = b.parent) ∨ ∃ k c, j + 1 ≤ k ∧ Acc bs ac k c ∧ c.who = b.who ∧ c.seq = b.parent) := by
      have := splitE (p := fun _ c => c.who = b.who ∧ c.seq = b.parent)
      constructor
      · rintro ⟨k, c, h1, h3, h4⟩
        rcases this.1 ⟨k, c, h1, h4, h3⟩ with h | ⟨k, c, h1, h4, h3⟩
        · exact .inl h
        · exact .inr ⟨k, c, h1, h3, h4⟩
      · rintro (h | ⟨k, c, h1, h3, h4⟩)
        · obtain ⟨k, c, h1, h4, h3⟩ := this.2 (.inl h)
          exact ⟨k, c, h1, h3, h4⟩
        · exact ⟨k, c, by omega, h3, h4⟩
    rw [e1, e2]
    clear e1 e2 splitE
    cases ha : ac[j] with
    | false =>
      simp only [Bool.not_false, cond_true, Bool.false_eq_true, false_and, false_or]
      exact ih met
    | true =>
      simp only [Bool.not_true, cond_false, true_and]
      by_cases hw : bs[j].who = b.who
      · have hx : ((j : Int) != (i : Int)) = decide (j ≠ i) := by rw [Bool.eq_iff_iff]; simp; omega
        have hgg' : (bs[j].group == b.group) = decide (bs[j].group = b.group) := by rw [Bool.eq_iff_iff]; simp
        have hs' : (bs[j].seq == b.parent) = decide (bs[j].seq = b.parent) := by rw [Bool.eq_iff_iff]; simp
        have ih1 := ih true
        have ih2 := ih false
        clear ih hix hix2 hlt hbi hai ha
        simp only [hx, hgg', hs', hw, decide_true, Bool.not_true, cond_false, true_and, gt_iff_lt]
        generalize bs[j].group = g1 at *
        generalize bs[j].seq = s1 at *
        by_cases hij : j = i <;> by_cases hg : 0 < b.group <;> by_cases hgg : g1 = b.group <;> by_cases hs : s1 = b.parent <;> cases met <;>
          simp only [ne_eq, hij, hg, hgg, hs, decide_true, decide_false, cond_true, cond_false, true_and, false_and, and_true, and_false, true_or, false_or, or_true, or_false, not_true_eq_false, not_false_eq_true, Bool.false_eq_true] at ih1 ih2 ⊢ <;> first | exact ih1 | exact ih2
      · simp only [hw, decide_false, Bool.not_false, cond_true, false_and, and_false, false_or]
        exact ih met

theorem l4_run (hl : ac.length = bs.length) (hb : bs.length ≤ 140737488351232) {n : Nat} (hn : bs.length < n) : ∀ (d i m : Nat), i + d = bs.length → d < m → ∃ r, noonbellref16_Linked.l4 n [] m [.list 8 (bs.map Blk.fv), .list 1 (ac.map .bool), .int .i64 (i : Int)] = some [.bool r] ∧ (r = true ↔ ∀ j, i ≤ j → OkAt bs ac j)
  | 0, i, m + 1, hi, hm => by
    have : i = bs.length := by omega
    subst this
    refine ⟨true, by rw [noonbellref16_Linked.l4_eq]; simp, by simp; intro j hj b hb; exact absurd (List.getElem?_eq_some_iff.1 hb.1).1 (by omega)⟩
  | d + 1, i, m + 1, hi, hm => by
    have hib : i < bs.length := by omega
    have hia : i < ac.length := by omega
    have hbi : bs[i]? = some bs[i] := List.getElem?_eq_getElem hib
    have hai : ac[i]? = some ac[i] := List.getElem?_eq_getElem hia
    obtain ⟨r, hr, hiff⟩ := l4_run hl hb hn d (i + 1) m (by omega) (by omega)
    have step : ∀ {p : Prop}, (OkAt bs ac i ↔ p) → ((∀ j, i ≤ j → OkAt bs ac j) ↔ (p ∧ r = true)) := fun hp => by
      rw [hiff, ← hp]
      constructor
      · exact fun h => ⟨h i (Nat.le_refl _), fun j hj => h j (by omega)⟩
      · rintro ⟨h1, h2⟩ j hj
        rcases Nat.eq_or_lt_of_le hj with rfl | hj
        · exact h1
        · exact h2 j hj
    have hlt : decide ((i : Int) < ((bs.map Blk.fv).length : Int)) = true := by simpa using hib
    have hix : ix (i : Int) (bs.map Blk.fv).length = some i := ix_nat (by simpa using hib)
    have hix2 : ix (i : Int) (ac.map FV.bool).length = some i := ix_nat (by simpa using hia)
    rw [noonbellref16_Linked.l4_eq]
    simp only [hlt, cond_true, hix, hix2, Option.bind_some, at_map, hbi, hai, Blk.fv, FV.cells, List.getElem?_cons_zero, List.getElem?_cons_succ, asStr_str, asInt_int, asBool_bool, asLst_list]
    cases ha : ac[i] with
    | false =>
      simp only [Bool.not_false, cond_true]
      rw [wrap_succ (by omega)]
      refine ⟨r, hr, ?_⟩
      rw [step (p := True) ⟨fun _ => trivial, fun _ b hb => by have := hb.2; rw [hai, ha] at this; cases this⟩]
      simp
    | true =>
      simp only [Bool.not_true, cond_false]
      have hacc : Acc bs ac i bs[i] := (acc_dec hib hia).2 ha
      have hone : OkAt bs ac i ↔ (bs[i].parent ≤ 0 ∨ ∃ j c, Acc bs ac j c ∧ c.who = bs[i].who ∧ c.seq = bs[i].parent) ∧ ∀ j c, j ≠ i → Acc bs ac j c → c.who = bs[i].who → 0 < bs[i].group → c.group ≠ bs[i].group :=
        ⟨fun h => h _ hacc, fun h b hb => by have := hb.1; rw [hbi] at this; cases this; exact h⟩
      have hstep := step hone
      have key := l10_run hl hb n i bs[i] bs.length 0 n m (decide (bs[i].parent ≤ 0)) (by omega) hn
      rw [wrap_succ (by omega), hr] at key
      rcases key with ⟨⟨k, c, _, k1, k2, k3, k4, k5⟩, h⟩ | ⟨hno, ⟨hmet, h⟩ | ⟨hmet, h⟩⟩
      · refine ⟨false, h, ?_⟩
        rw [hstep]
        simp only [Bool.false_eq_true, false_iff]
        rintro ⟨⟨_, q⟩, _⟩
        exact q k c k1 k2 k3 k4 k5
      · refine ⟨r, h, ?_⟩
        rw [hstep]
        refine ⟨fun hr => ⟨⟨?_, fun j c h1 h2 h3 h4 h5 => hno ⟨j, c, Nat.zero_le _, h1, h2, h3, h4, h5⟩⟩, hr⟩, fun h => h.2⟩
        rcases hmet with h1 | ⟨k, c, _, h1⟩
        · exact .inl (by simpa using h1)
        · exact .inr ⟨k, c, h1⟩
      · refine ⟨false, h, ?_⟩
        rw [hstep]
        simp only [Bool.false_eq_true, false_iff]
        rintro ⟨⟨q, _⟩, _⟩
        apply hmet
        rcases q with q | ⟨j, c, q⟩
        · exact .inl (by simpa using q)
        · exact .inr ⟨j, c, Nat.zero_le _, q⟩

theorem ref_run (hl : ac.length = bs.length) (hb : bs.length ≤ 140737488351232) {n : Nat} (hn : bs.length + 1 < n) : ∃ r, evF En n 10 [.list 8 (bs.map Blk.fv), .list 1 (ac.map .bool)] = some [.bool r] ∧ (r = true ↔ ∀ j, OkAt bs ac j) := by
  obtain ⟨n, rfl⟩ : ∃ m, n = m + 1 := ⟨n - 1, by omega⟩
  rw [noonbellref16_Linked_eq]
  obtain ⟨r, h1, h2⟩ := l4_run hl hb (n := n) (by omega) bs.length 0 n (by omega) (by omega)
  refine ⟨r, ?_, ?_⟩
  · simp only [List.length_map, hl, bne_self_eq_false, cond_false]
    exact h1
  · rw [h2]
    exact ⟨fun h j => h j (Nat.zero_le _), fun h j _ => h j⟩

end
end Rf
