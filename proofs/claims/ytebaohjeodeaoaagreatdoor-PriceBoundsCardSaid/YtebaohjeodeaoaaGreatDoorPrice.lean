import Derived.Test.YtebaohjeodeaoaaGreatDoorRefR
import Derived.Test.YtebaohjeodeaoaaGreatDoorEqPrice

section
/- PriceBounds, first part: the grid's look and the orders' look, the program's and the document's, are the same. -/
set_option linter.unusedSimpArgs false
set_option linter.unusedVariables false
set_option maxHeartbeats 2000000
namespace Rf
open Go

/-- an order by steps -/
structure StP where
  who : List UInt8
  seq : Int
  zone : Int
  hour : Int
  buy : Bool
  qty : Int
  price : Int

/-- a line -/
structure LnP where
  src : Int
  dst : Int
  cap : Int

abbrev stF (s : StP) : FV := .agg [sF s.who, .int .i64 s.seq, .int .i64 s.zone, .int .i64 s.hour, .bool s.buy, .int .i64 s.qty, .int .i64 s.price]
abbrev lnF (l : LnP) : FV := .agg [.int .i64 l.src, .int .i64 l.dst, .int .i64 l.cap]

section
variable {P : List StP} {Q : List LnP} {i : Nat}
theorem st_at0 (h : i < P.length) : at' (P.map stF) i 0 = some (.str (txt P[i].who)) := by rw [at_map, List.getElem?_eq_getElem h]; rfl
theorem st_at1 (h : i < P.length) : at' (P.map stF) i 1 = some (.int .i64 P[i].seq) := by rw [at_map, List.getElem?_eq_getElem h]; rfl
theorem st_at2 (h : i < P.length) : at' (P.map stF) i 2 = some (.int .i64 P[i].zone) := by rw [at_map, List.getElem?_eq_getElem h]; rfl
theorem st_at3 (h : i < P.length) : at' (P.map stF) i 3 = some (.int .i64 P[i].hour) := by rw [at_map, List.getElem?_eq_getElem h]; rfl
theorem st_at4 (h : i < P.length) : at' (P.map stF) i 4 = some (.bool P[i].buy) := by rw [at_map, List.getElem?_eq_getElem h]; rfl
theorem st_at5 (h : i < P.length) : at' (P.map stF) i 5 = some (.int .i64 P[i].qty) := by rw [at_map, List.getElem?_eq_getElem h]; rfl
theorem st_at6 (h : i < P.length) : at' (P.map stF) i 6 = some (.int .i64 P[i].price) := by rw [at_map, List.getElem?_eq_getElem h]; rfl
theorem ln_at0 (h : i < Q.length) : at' (Q.map lnF) i 0 = some (.int .i64 Q[i].src) := by rw [at_map, List.getElem?_eq_getElem h]; rfl
theorem ln_at1 (h : i < Q.length) : at' (Q.map lnF) i 1 = some (.int .i64 Q[i].dst) := by rw [at_map, List.getElem?_eq_getElem h]; rfl
theorem ln_at2 (h : i < Q.length) : at' (Q.map lnF) i 2 = some (.int .i64 Q[i].cap) := by rw [at_map, List.getElem?_eq_getElem h]; rfl
end

def wi (x lo hi : Int) : Bool := decide (lo ≤ x) && decide (x ≤ hi)

theorem bif_wi (x lo hi : Int) : (bif decide (lo ≤ x) then some [.bool (decide (x ≤ hi))] else some [.bool false] : Res) = some [.bool (wi x lo hi)] := by
  unfold wi; cases decide (lo ≤ x) <;> rfl

theorem fits_run {n : Nat} {x lo hi : Int} : evF En (n + 1) 40 [.int .i64 x, .int .i64 lo, .int .i64 hi] = some [.bool (wi x lo hi)] := by rw [result_fits_eq, bif_wi]
theorem gfits_run {n : Nat} {x lo hi : Int} : evF En (n + 1) 134 [.int .i64 x, .int .i64 lo, .int .i64 hi] = some [.bool (wi x lo hi)] := by rw [grid_fits_eq, bif_wi]
theorem wwithin_run {n : Nat} {x lo hi : Int} : evF En (n + 1) 142 [.int .i64 x, .int .i64 lo, .int .i64 hi] = some [.bool (wi x lo hi)] := by rw [noonbellref16_within_eq]; exact bif_wi x lo hi
theorem wgwithin_run {n : Nat} {x lo hi : Int} : evF En (n + 1) 174 [.int .i64 x, .int .i64 lo, .int .i64 hi] = some [.bool (wi x lo hi)] := by rw [noonbellref14_within_eq]; exact bif_wi x lo hi

/-! ### the grid -/
section
variable {Z H lo hi : Int} {Q : List LnP}

/-- is the line none of this grid -/
def badL (Z : Int) (l : LnP) : Bool := !wi l.src 0 (IntKind.wrap .i64 (Z - 1)) || !wi l.dst 0 (IntKind.wrap .i64 (Z - 1)) || (l.src == l.dst) || !wi l.cap 0 1000

def okG (Z H lo hi : Int) (Q : List LnP) : Bool := wi Z 1 3 && wi H 1 3 && !decide ((Q.length : Int) > 3) && !Q.any (badL Z) && decide (-100000 ≤ lo) && decide (lo ≤ hi) && !decide (hi > 100000)

def gE (b : Bool) : Int := bif b then 0 else 140

theorem line_run {n : Nat} {a b c : Int} : evF En (n + 2) 133 [.int .i64 a, .int .i64 b, .int .i64 c, .int .i64 Z, .int .i64 H, .list 3 (Q.map lnF), .int .i64 lo, .int .i64 hi]
    = some [.int .i64 Z, .int .i64 H, .list 3 (Q.map lnF), .int .i64 lo, .int .i64 hi, .bool (badL Z ⟨a, b, c⟩)] := by
  rw [grid_Check_1_eq]
  simp only [gfits_run, Option.bind_some, List.getElem?_cons_zero, asBool_bool]
  unfold badL
  dsimp only
  cases wi a 0 (IntKind.wrap .i64 (Z - 1)) <;> cases wi b 0 (IntKind.wrap .i64 (Z - 1)) <;> cases (a == b) <;> cases wi c 0 1000 <;> rfl

theorem lidx_loop {n : Nat} (hl : Q.length ≤ 9000000000000) : ∀ (d i m : Nat), i + d = Q.length → d < m → ∃ k : Int, decide (k ≥ 0) = (Q.drop i).any (badL Z) ∧
    api_Line_169.l2 (n + 2) [] m [.int .i64 Z, .int .i64 H, .list 3 (Q.map lnF), .int .i64 lo, .int .i64 hi, .list 3 (Q.map lnF), .int .i64 (Q.length : Int), .int .i64 (i : Int)] = some [.int .i64 Z, .int .i64 H, .list 3 (Q.map lnF), .int .i64 lo, .int .i64 hi, .int .i64 k] := by
  intro d
  induction d with
  | zero =>
    intro i m hi' hm
    obtain ⟨m, rfl⟩ : ∃ k, m = k + 1 := ⟨m - 1, by omega⟩
    refine ⟨-1, by rw [List.drop_of_length_le (by omega)]; rfl, ?_⟩
    rw [api_Line_169.l2_eq, decide_eq_false (by omega), cond_false]
  | succ d ih =>
    intro i m hi' hm
    obtain ⟨m, rfl⟩ : ∃ k, m = k + 1 := ⟨m - 1, by omega⟩
    have hil : i < Q.length := by omega
    rw [List.drop_eq_getElem_cons hil, List.any_cons, api_Line_169.l2_eq, decide_eq_true (by omega), cond_true, List.length_map, ix_nat hil]
    simp only [Option.bind_some, ln_at0 hil, ln_at1 hil, ln_at2 hil, asInt_int, line_run, List.getElem?_cons_zero, List.getElem?_cons_succ, asLst_list, asBool_bool]
    show ∃ k : Int, decide (k ≥ 0) = (badL Z Q[i] || _) ∧ (bif badL Z Q[i] then _ else _) = _
    cases hb : badL Z Q[i]
    · rw [cond_false, wrap_succ (by omega), Bool.false_or]
      exact ih (i + 1) m (by omega) (by omega)
    · exact ⟨(i : Int), by rw [Bool.true_or, decide_eq_true (by omega)], rfl⟩

theorem check_ev (hl : Q.length ≤ 9000000000000) : Ev En 97 [.int .i64 Z, .int .i64 H, .list 3 (Q.map lnF), .int .i64 lo, .int .i64 hi] [.int .i64 (gE (okG Z H lo hi Q))] := by
  refine Ev.of (Q.length + 6) fun n hn => ?_
  obtain ⟨n, rfl⟩ : ∃ k, n = k + 4 := ⟨n - 4, by omega⟩
  obtain ⟨k, hk, h1⟩ := lidx_loop (n := n) (Z := Z) (H := H) (lo := lo) (hi := hi) hl Q.length 0 (n + 2) (by omega) (by omega)
  rw [List.drop_zero] at hk
  rw [show ((0 : Nat) : Int) = 0 from rfl] at h1
  rw [grid_Check_eq]
  simp only [gfits_run, Option.bind_some, List.getElem?_cons_zero, asBool_bool, List.length_map, api_Line_135_eq, api_Line_169_eq, h1, List.getElem?_cons_succ, asInt_int, asLst_list, hk]
  unfold okG gE
  have hw : wi lo (-100000) hi = (decide (-100000 ≤ lo) && decide (lo ≤ hi)) := rfl
  rw [hw]
  cases wi Z 1 3 <;> cases wi H 1 3 <;> cases decide ((Q.length : Int) > 3) <;> cases Q.any (badL Z) <;> cases decide (-100000 ≤ lo) <;> cases decide (lo ≤ hi) <;> cases decide (hi > 100000) <;> rfl

theorem wline_loop {n : Nat} (hl : Q.length ≤ 9000000000000) : ∀ (d i m : Nat), i + d = Q.length → d < m →
    noonbellref14_Check.l4 (n + 1) [] m [.int .i64 Z, .int .i64 H, .list 3 (Q.map lnF), .int .i64 lo, .int .i64 hi, .int .i64 (i : Int)] = some [.int .i64 (gE (!(Q.drop i).any (badL Z)))] := by
  intro d
  induction d with
  | zero =>
    intro i m hi' hm
    obtain ⟨m, rfl⟩ : ∃ k, m = k + 1 := ⟨m - 1, by omega⟩
    rw [noonbellref14_Check.l4_eq, List.length_map, decide_eq_false (by omega), cond_false, List.drop_of_length_le (by omega)]
    rfl
  | succ d ih =>
    intro i m hi' hm
    obtain ⟨m, rfl⟩ : ∃ k, m = k + 1 := ⟨m - 1, by omega⟩
    have hil : i < Q.length := by omega
    rw [List.drop_eq_getElem_cons hil, List.any_cons, noonbellref14_Check.l4_eq, List.length_map, decide_eq_true (by omega), cond_true, ix_nat hil]
    simp only [Option.bind_some, ln_at0 hil, ln_at1 hil, ln_at2 hil, asInt_int, wgwithin_run, List.getElem?_cons_zero, asBool_bool]
    rw [wrap_succ (by omega), ih (i + 1) m (by omega) (by omega)]
    show _ = (some [FV.int .i64 (gE (!(badL Z Q[i] || _)))] : Res)
    unfold badL
    cases wi Q[i].src 0 (IntKind.wrap .i64 (Z - 1)) <;> cases wi Q[i].dst 0 (IntKind.wrap .i64 (Z - 1)) <;> cases (Q[i].src == Q[i].dst) <;> cases wi Q[i].cap 0 1000 <;> rfl

theorem wcheck_ev (hl : Q.length ≤ 9000000000000) : Ev En 141 [.int .i64 Z, .int .i64 H, .list 3 (Q.map lnF), .int .i64 lo, .int .i64 hi] [.int .i64 (gE (okG Z H lo hi Q))] := by
  refine Ev.of (Q.length + 6) fun n hn => ?_
  obtain ⟨n, rfl⟩ : ∃ k, n = k + 1 := ⟨n - 1, by omega⟩
  have h1 := wline_loop (n := n) (Z := Z) (H := H) (lo := lo) (hi := hi) hl Q.length 0 (n + 1) (by omega) (by omega)
  rw [List.drop_zero, show ((0 : Nat) : Int) = 0 from rfl] at h1
  rw [noonbellref14_Check_eq]
  simp only [wgwithin_run, Option.bind_some, List.getElem?_cons_zero, asBool_bool, List.length_map, h1]
  unfold okG gE
  have e1 : decide (lo < -100000) = !decide (-100000 ≤ lo) := by by_cases h : -100000 ≤ lo <;> simp [h] <;> omega
  have e2 : decide (lo > hi) = !decide (lo ≤ hi) := by by_cases h : lo ≤ hi <;> simp [h] <;> omega
  rw [e1, e2]
  cases wi Z 1 3 <;> cases wi H 1 3 <;> cases decide ((Q.length : Int) > 3) <;> cases Q.any (badL Z) <;> cases decide (-100000 ≤ lo) <;> cases decide (lo ≤ hi) <;> cases decide (hi > 100000) <;> rfl
end

/-! ### the orders -/
def okS (Z H lo hi : Int) (s : StP) : Bool := wi s.zone 0 (IntKind.wrap .i64 (Z - 1)) && wi s.hour 0 (IntKind.wrap .i64 (H - 1)) && wi s.qty 1 1000 && wi s.price lo hi
def ltS (a b : StP) : Bool := Op.bytesLess (txt a.who).toList (txt b.who).toList || ((txt a.who).toList == (txt b.who).toList && decide (a.seq < b.seq))
def okAt (Z H lo hi : Int) (P : List StP) (i : Nat) : Bool := match P[i]? with | some s => okS Z H lo hi s | none => true
def riAt (P : List StP) (i : Nat) : Bool := match P[i - 1]?, P[i]? with | some a, some b => ltS a b | _, _ => true

theorem less_irr : ∀ l : List UInt8, Op.bytesLess l l = false
  | [] => rfl
  | x :: l => by simp [Op.bytesLess, less_irr l]

theorem wrap_pred (j : Nat) (h : j < 9000000000000000000) : IntKind.wrap .i64 (((j + 1 : Nat) : Int) - 1) = (j : Int) := by rw [wrap64_id (by omega) (by omega)]; omega

def cmpB (l e : Bool) : Int := bif l then -1 else bif !(l || e) then 1 else 0
theorem cmps_run {n : Nat} {s t : ByteArray} : evF En (n + 2) 138 [.str s, .str t] = some [.int .i64 (cmpB (Op.bytesLess s.toList t.toList) (s.toList == t.toList))] := by
  rw [cmp_Compare_string_eq]
  simp only [cmp_isNaN_string_eq, Option.bind_some, List.getElem?_cons_zero, asBool_bool, beq_self_eq_true, Bool.not_true, cond_false]
  unfold cmpB
  cases Op.bytesLess s.toList t.toList <;> cases (s.toList == t.toList) <;> rfl
def cmpM (a b : Int) : Int := bif decide (a < b) then -1 else bif decide (a > b) then 1 else 0
theorem cmpi_run {n : Nat} {a b : Int} : evF En (n + 2) 139 [.int .i64 a, .int .i64 b] = some [.int .i64 (cmpM a b)] := by
  rw [cmp_Compare_int_eq]
  simp only [cmp_isNaN_int_eq, Option.bind_some, List.getElem?_cons_zero, asBool_bool, bne_self_eq_false, cond_false]
  unfold cmpM
  cases decide (a < b) <;> cases decide (a > b) <;> rfl
theorem or_run {n : Nat} {a b : Int} : evF En (n + 4) 137 [.list 1 [.int .i64 a, .int .i64 b]] = some [.int .i64 (bif a != 0 then a else b)] := by
  rw [cmp_Or_int_eq, cmp_Or_int.l3_eq]
  show (bif a != 0 then some [.int .i64 a] else cmp_Or_int.l3 (n + 3) [] (n + 2) [.int .i64 0, .list 1 [.int .i64 a, .int .i64 b], .int .i64 2, .int .i64 1] : Res) = _
  rw [cmp_Or_int.l3_eq]
  show (bif a != 0 then some [.int .i64 a] else (bif b != 0 then some [.int .i64 b] else cmp_Or_int.l3 (n + 3) [] (n + 1) [.int .i64 0, .list 1 [.int .i64 a, .int .i64 b], .int .i64 2, .int .i64 2]) : Res) = _
  rw [cmp_Or_int.l3_eq]
  show (bif a != 0 then some [.int .i64 a] else (bif b != 0 then some [.int .i64 b] else some [.int .i64 0]) : Res) = _
  cases ha : (a != 0)
  · cases hb : (b != 0)
    · have : b = 0 := by simpa using hb
      rw [this]; rfl
    · rfl
  · rfl

theorem lt_or (a b : StP) : decide ((bif cmpB (Op.bytesLess (txt a.who).toList (txt b.who).toList) ((txt a.who).toList == (txt b.who).toList) != 0 then cmpB (Op.bytesLess (txt a.who).toList (txt b.who).toList) ((txt a.who).toList == (txt b.who).toList) else cmpM a.seq b.seq) ≥ 0) = !ltS a b := by
  unfold ltS cmpB cmpM
  cases Op.bytesLess (txt a.who).toList (txt b.who).toList <;> cases ((txt a.who).toList == (txt b.who).toList)
  · rfl
  · by_cases h : a.seq < b.seq
    · rw [decide_eq_true h]; rfl
    · rw [decide_eq_false h]
      cases decide (a.seq > b.seq) <;> rfl
  · rfl
  · rfl

section
variable {Z H lo hi : Int} {Q : List LnP} {P : List StP}

theorem rise_loop {n : Nat} (hl : P.length ≤ 1000000) : ∀ (d j m : Nat), j + 1 + d = P.length → d < m →
    api_Step.l2 (n + 4) [] m [.list 7 (P.map stF), .raw (Go.Value.func (Go.Fn.func 102) #[] #[]), .int .i64 ((j + 1 : Nat) : Int)] = some [.bool ((List.range' (j + 1) d).all (riAt P))] := by
  intro d
  induction d with
  | zero =>
    intro j m hj hm
    obtain ⟨m, rfl⟩ : ∃ k, m = k + 1 := ⟨m - 1, by omega⟩
    rw [api_Step.l2_eq, List.length_map, decide_eq_false (by omega), cond_false]
    rfl
  | succ d ih =>
    intro j m hj hm
    obtain ⟨m, rfl⟩ : ∃ k, m = k + 1 := ⟨m - 1, by omega⟩
    have h0 : j < P.length := by omega
    have h1 : j + 1 < P.length := by omega
    have hr : riAt P (j + 1) = ltS P[j] P[j + 1] := by
      unfold riAt
      rw [show j + 1 - 1 = j from rfl, List.getElem?_eq_getElem h0, List.getElem?_eq_getElem h1]
    rw [api_Step.l2_eq, List.length_map, decide_eq_true (by omega), cond_true, wrap_pred j (by omega), ix_nat h0, Option.bind_some]
    simp only [st_at0 h0, st_at1 h0, st_at2 h0, st_at3 h0, st_at4 h0, st_at5 h0, st_at6 h0, asStr_str, asInt_int, asBool_bool, Option.bind_some, result_Orders_2_eq, List.getElem?_cons_zero, List.getElem?_cons_succ]
    rw [ix_nat h1, Option.bind_some]
    simp only [st_at0 h1, st_at1 h1, st_at2 h1, st_at3 h1, st_at4 h1, st_at5 h1, st_at6 h1, asStr_str, asInt_int, asBool_bool, Option.bind_some, List.getElem?_cons_zero, List.getElem?_cons_succ, cmps_run, cmpi_run]
    show ((evF En (n + 4) 137 [.list 1 [.int .i64 _, .int .i64 _]]).bind _) = _
    rw [or_run]
    simp only [Option.bind_some, List.getElem?_cons_zero, asInt_int, lt_or]
    rw [wrap_succ (by omega), List.range'_succ, List.all_cons, hr, ih (j + 1) m (by omega) (by omega)]
    cases ltS P[j] P[j + 1] <;> rfl

theorem rising_ev (hl : P.length ≤ 1000000) {n : Nat} (hn : P.length + 5 ≤ n) : evF En n 101 [.list 7 (P.map stF), .raw (Go.Value.func (Go.Fn.func 102) #[] #[])] = some [.bool ((List.range' 1 (P.length - 1)).all (riAt P))] := by
  obtain ⟨n, rfl⟩ : ∃ k, n = k + 5 := ⟨n - 5, by omega⟩
  rw [api_Step_eq]
  cases hp : P.length with
  | zero =>
    rw [api_Step.l2_eq, List.length_map, decide_eq_false (by omega), cond_false]
    rfl
  | succ k => exact rise_loop hl k 0 (n + 4) (by omega) (by omega)

end

end Rf
end

section
/- PriceBounds, second part: the orders' looks, whole. -/
set_option linter.unusedSimpArgs false
set_option linter.unusedVariables false
set_option maxHeartbeats 2000000
namespace Rf
open Go

section
variable {Z H lo hi : Int} {Q : List LnP} {P : List StP}

def ordB (Z H lo hi : Int) (Q : List LnP) (P : List StP) : Bool := okG Z H lo hi Q && !decide ((P.length : Int) > 32) && ((List.range' 0 P.length).all (okAt Z H lo hi P) && (List.range' 1 (P.length - 1)).all (riAt P))

theorem blocks_run {N : Nat} (h : 2 ≤ N) : evF En N 103 [.list 8 [], .raw (Go.Value.func (Go.Fn.func 104) #[] #[])] = some [.bool true] := by
  obtain ⟨n, rfl⟩ : ∃ k, N = k + 1 + 1 := ⟨N - 2, by omega⟩
  rw [api_Block_103_eq, api_Block_103.l2_eq, decide_eq_false (by simp), cond_false]
theorem l19_nil {N m : Nat} (h : 1 ≤ m) : result_Orders.l19 N [] m [.list 8 [], .int .i64 (([] : List FV).length : Int), .int .i64 0] = some [.bool true] := by
  obtain ⟨m, rfl⟩ : ∃ k, m = k + 1 := ⟨m - 1, by omega⟩
  rw [result_Orders.l19_eq, decide_eq_false (by simp), cond_false]

theorem ord_zero {N m : Nat} (hl : P.length ≤ 1000000) (hn : P.length + 5 ≤ N) :
    result_Orders.l11 N [] (m + 1) [.int .i64 Z, .int .i64 H, .list 3 (Q.map lnF), .int .i64 lo, .int .i64 hi, .list 7 (P.map stF), .list 8 [], .raw (Go.Value.func (Go.Fn.func 98) #[] #[]), .list 8 [], .int .i64 (([] : List FV).length : Int), .int .i64 0]
      = some [.bool ((List.range' 1 (P.length - 1)).all (riAt P))] := by
  have hb := blocks_run (N := N) (by omega)
  have h19 := l19_nil (N := N) (m := N) (by omega)
  rw [result_Orders.l11_eq, decide_eq_false (by simp), cond_false, rising_ev hl hn, Option.bind_some, List.getElem?_cons_zero, asBool_bool, Option.bind_some]
  generalize (List.range' 1 (P.length - 1)).all (riAt P) = R
  cases R
  · rw [Bool.not_false, cond_true]
  · rw [Bool.not_true, cond_false, hb, Option.bind_some, List.getElem?_cons_zero, asBool_bool, Option.bind_some, Bool.not_true, cond_false]
    exact h19

theorem ord_loop {n : Nat} (hl : P.length ≤ 1000000) (hn : P.length + 5 ≤ n) : ∀ (d i m : Nat), i + d = P.length → d < m →
    result_Orders.l4 n [] m [.int .i64 Z, .int .i64 H, .list 3 (Q.map lnF), .int .i64 lo, .int .i64 hi, .list 7 (P.map stF), .list 8 [], .list 7 (P.map stF), .int .i64 (P.length : Int), .int .i64 (i : Int)]
      = some [.bool ((List.range' i d).all (okAt Z H lo hi P) && (List.range' 1 (P.length - 1)).all (riAt P))] := by
  obtain ⟨n, rfl⟩ : ∃ k, n = k + 2 := ⟨n - 2, by omega⟩
  intro d
  induction d with
  | zero =>
    intro i m hi' hm
    obtain ⟨m, rfl⟩ : ∃ k, m = k + 1 := ⟨m - 1, by omega⟩
    rw [result_Orders.l4_eq, decide_eq_false (by omega), cond_false, List.range'_zero, List.all_nil, Bool.true_and]
    exact ord_zero hl hn
  | succ d ih =>
    intro i m hi' hm
    obtain ⟨m, rfl⟩ : ∃ k, m = k + 1 := ⟨m - 1, by omega⟩
    have h0 : i < P.length := by omega
    have ho : okAt Z H lo hi P i = okS Z H lo hi P[i] := by unfold okAt; rw [List.getElem?_eq_getElem h0]
    rw [result_Orders.l4_eq, decide_eq_true (by omega), cond_true, List.length_map, ix_nat h0, Option.bind_some]
    simp only [st_at0 h0, st_at1 h0, st_at2 h0, st_at3 h0, st_at4 h0, st_at5 h0, st_at6 h0, asStr_str, asInt_int, asBool_bool, Option.bind_some, List.getElem?_cons_zero, fits_run]
    rw [wrap_succ (by omega), ih (i + 1) m (by omega) (by omega), List.range'_succ, List.all_cons, ho, Bool.and_assoc]
    generalize ((List.range' (i + 1) d).all (okAt Z H lo hi P) && (List.range' 1 (P.length - 1)).all (riAt P)) = X
    unfold okS
    cases wi P[i].zone 0 (IntKind.wrap .i64 (Z - 1)) <;> cases wi P[i].hour 0 (IntKind.wrap .i64 (H - 1)) <;> cases wi P[i].qty 1 1000 <;> cases wi P[i].price lo hi <;> rfl

theorem orders_ev (hl : P.length ≤ 1000000) (hQ : Q.length ≤ 9000000000000) : Ev En 58 [.int .i64 Z, .int .i64 H, .list 3 (Q.map lnF), .int .i64 lo, .int .i64 hi, .list 7 (P.map stF), .list 8 []] [.bool (ordB Z H lo hi Q P)] := by
  obtain ⟨n1, h1⟩ := check_ev (Z := Z) (H := H) (lo := lo) (hi := hi) hQ
  refine Ev.of (n1 + P.length + 5) fun n hn => ?_
  rw [result_Orders_eq, h1 n (by omega)]
  simp only [Option.bind_some, List.getElem?_cons_zero, asInt_int, List.length_map, List.length_nil]
  have h2 := ord_loop (n := n) (Z := Z) (H := H) (lo := lo) (hi := hi) (Q := Q) hl (by omega) P.length 0 n (by omega) (by omega)
  rw [show ((0 : Nat) : Int) = 0 from rfl] at h2
  rw [h2]
  unfold ordB gE
  cases okG Z H lo hi Q
  · rfl
  · cases decide ((P.length : Int) > 32) <;> rfl

def bothAt (Z H lo hi : Int) (P : List StP) (i : Nat) : Bool := okAt Z H lo hi P i && (i == 0 || riAt P i)

theorem word_loop {n : Nat} (hl : P.length ≤ 1000000) : ∀ (d i m : Nat), i + d = P.length → d < m →
    noonbellref16_Orders.l4 (n + 1) [] m [.int .i64 Z, .int .i64 H, .list 3 (Q.map lnF), .int .i64 lo, .int .i64 hi, .list 7 (P.map stF), .list 8 [], .int .i64 (i : Int)]
      = some [.bool ((List.range' i d).all (bothAt Z H lo hi P))] := by
  intro d
  induction d with
  | zero =>
    intro i m hi' hm
    obtain ⟨m, rfl⟩ : ∃ k, m = k + 1 := ⟨m - 1, by omega⟩
    rw [noonbellref16_Orders.l4_eq, List.length_map, decide_eq_false (by omega), cond_false, noonbellref16_Orders.l12_eq]
    rfl
  | succ d ih =>
    intro i m hi' hm
    obtain ⟨m, rfl⟩ : ∃ k, m = k + 1 := ⟨m - 1, by omega⟩
    have h0 : i < P.length := by omega
    have ho : okAt Z H lo hi P i = okS Z H lo hi P[i] := by unfold okAt; rw [List.getElem?_eq_getElem h0]
    rw [noonbellref16_Orders.l4_eq, List.length_map, decide_eq_true (by omega), cond_true, ix_nat h0, Option.bind_some]
    simp only [st_at0 h0, st_at1 h0, st_at2 h0, st_at3 h0, st_at4 h0, st_at5 h0, st_at6 h0, asStr_str, asInt_int, asBool_bool, Option.bind_some, List.getElem?_cons_zero, wwithin_run]
    rw [wrap_succ (by omega), ih (i + 1) m (by omega) (by omega), List.range'_succ, List.all_cons, bothAt, ho]
    cases i with
    | zero =>
      rw [show decide (((0 : Nat) : Int) > 0) = false from rfl, show ((0 : Nat) == 0) = true from rfl, Bool.true_or]
      unfold okS
      cases wi P[0].zone 0 (IntKind.wrap .i64 (Z - 1)) <;> cases wi P[0].hour 0 (IntKind.wrap .i64 (H - 1)) <;> cases wi P[0].qty 1 1000 <;> cases wi P[0].price lo hi <;> rfl
    | succ j =>
      have h1 : j < P.length := by omega
      have hr : riAt P (j + 1) = ltS P[j] P[j + 1] := by
        unfold riAt
        rw [show j + 1 - 1 = j from rfl, List.getElem?_eq_getElem h1, List.getElem?_eq_getElem h0]
      rw [decide_eq_true (show ((j + 1 : Nat) : Int) > 0 by omega), cond_true, wrap_pred j (by omega), ix_nat h1, Option.bind_some, st_at0 h1, asStr_str, Option.bind_some, hr, show ((j + 1 : Nat) == 0) = false from rfl, Bool.false_or]
      simp only [Option.bind_some, asInt_int, st_at0 h1, st_at1 h1, asStr_str]
      unfold okS ltS
      have hirr : (txt P[j].who).toList = (txt P[j + 1].who).toList → Op.bytesLess (txt P[j].who).toList (txt P[j + 1].who).toList = false := fun e => by rw [e]; exact less_irr _
      have hge : decide (P[j].seq ≥ P[j + 1].seq) = !decide (P[j].seq < P[j + 1].seq) := by by_cases h : P[j].seq < P[j + 1].seq <;> simp [h] <;> omega
      rw [hge]
      cases he : ((txt P[j].who).toList == (txt P[j + 1].who).toList)
      · cases wi P[j + 1].zone 0 (IntKind.wrap .i64 (Z - 1)) <;> cases wi P[j + 1].hour 0 (IntKind.wrap .i64 (H - 1)) <;> cases wi P[j + 1].qty 1 1000 <;> cases wi P[j + 1].price lo hi <;> cases Op.bytesLess (txt P[j].who).toList (txt P[j + 1].who).toList <;> rfl
      · rw [hirr (by simpa using he)]
        cases wi P[j + 1].zone 0 (IntKind.wrap .i64 (Z - 1)) <;> cases wi P[j + 1].hour 0 (IntKind.wrap .i64 (H - 1)) <;> cases wi P[j + 1].qty 1 1000 <;> cases wi P[j + 1].price lo hi <;> cases decide (P[j].seq < P[j + 1].seq) <;> rfl

theorem both_all : (List.range' 0 P.length).all (bothAt Z H lo hi P) = ((List.range' 0 P.length).all (okAt Z H lo hi P) && (List.range' 1 (P.length - 1)).all (riAt P)) := by
  rw [Bool.eq_iff_iff, Bool.and_eq_true]
  simp only [List.all_eq_true, List.mem_range'_1, bothAt, Bool.and_eq_true, Bool.or_eq_true, beq_iff_eq]
  constructor
  · intro h
    refine ⟨fun x hx => (h x hx).1, fun x hx => ?_⟩
    rcases (h x ⟨by omega, by omega⟩).2 with h0 | h0
    · omega
    · exact h0
  · rintro ⟨h1, h2⟩ x hx
    refine ⟨h1 x hx, ?_⟩
    by_cases h0 : x = 0
    · exact .inl h0
    · exact .inr (h2 x ⟨by omega, by omega⟩)

theorem worders_ev (hl : P.length ≤ 1000000) (hQ : Q.length ≤ 9000000000000) : Ev En 108 [.int .i64 Z, .int .i64 H, .list 3 (Q.map lnF), .int .i64 lo, .int .i64 hi, .list 7 (P.map stF), .list 8 []] [.bool (ordB Z H lo hi Q P)] := by
  obtain ⟨n1, h1⟩ := wcheck_ev (Z := Z) (H := H) (lo := lo) (hi := hi) hQ
  refine Ev.of (n1 + P.length + 5) fun n hn => ?_
  rw [noonbellref16_Orders_eq, h1 n (by omega)]
  simp only [Option.bind_some, List.getElem?_cons_zero, asInt_int, List.length_map, List.length_nil]
  obtain ⟨n, rfl⟩ : ∃ k, n = k + 1 := ⟨n - 1, by omega⟩
  have h2 := word_loop (n := n) (Z := Z) (H := H) (lo := lo) (hi := hi) (Q := Q) hl P.length 0 (n + 1) (by omega) (by omega)
  rw [show ((0 : Nat) : Int) = 0 from rfl, both_all] at h2
  rw [h2]
  unfold ordB gE
  cases okG Z H lo hi Q
  · rfl
  · cases decide ((P.length : Int) > 32) <;> rfl
end

end Rf
end

section
/- PriceBounds, third part: what is taken, and the bounds drawn from it. -/
set_option linter.unusedSimpArgs false
set_option linter.unusedVariables false
set_option maxHeartbeats 2000000
namespace Rf
open Go

/-- a text's fraction; 0 if it has none -/
noncomputable def qT (t : List UInt8) : Rat := (pr t).getD 0
/-- the fraction as the program keeps it -/
noncomputable def gF (t : List UInt8) : FV := .agg [zl (qT t).num, zb (qT t).num, nL (qT t).den, .bool false]
/-- the fraction as the document keeps it -/
noncomputable def gW (t : List UInt8) : FV := .agg [zb (qT t).num, wl (qT t).num, .bool false, wL (qT t).den]
abbrev gZ : FV := .agg [.list 1 [], .bool false, .list 1 [], .bool false]

/-- so it is beside a whole number -/
def cq (q : Rat) (z : Int) : Int := cmpZi (q.num * ((z : Rat).den : Int)) ((z : Rat).num * (q.den : Int))

noncomputable def tkS (t : List UInt8) (s : StP) : Bool := (pr t).isSome && (!decide ((qT t).num.sign < 0) && !decide (cq (qT t) s.qty > 0))
noncomputable def tkAt (X : List (List UInt8)) (P : List StP) (i : Nat) : Bool := match X[i]?, P[i]? with | some t, some s => tkS t s | _, _ => true

/-- the bounds of a call -/
structure XOk (X : List (List UInt8)) (P : List StP) : Prop where
  few : X.length ≤ 256
  short : ∀ t, t ∈ X → t.length ≤ 256
  qty : ∀ s, s ∈ P → -9223372036854775808 ≤ s.qty ∧ s.qty ≤ 9223372036854775807
  steps : P.length ≤ 1000000

theorem Bd_word {z : Int} (h1 : -9223372036854775808 ≤ z) (h2 : z ≤ 9223372036854775807) : Bd 1024 (z : Rat) := by
  refine (Bd.int (k := 64) ?_ (by omega)).mono (by omega)
  have : (2 : Nat) ^ 64 = 18446744073709551616 := rfl
  omega

section
variable {X : List (List UInt8)} {P : List StP}

theorem gF_at {i : Nat} (h : i < X.length) : at' (X.map gF) i 0 = some (zl (qT X[i]).num) ∧ at' (X.map gF) i 1 = some (zb (qT X[i]).num) ∧ at' (X.map gF) i 2 = some (nL (qT X[i]).den) ∧ at' (X.map gF) i 3 = some (.bool false) := by
  refine ⟨?_, ?_, ?_, ?_⟩ <;> (rw [at_map, List.getElem?_eq_getElem h]; rfl)
theorem gW_at {i : Nat} (h : i < X.length) : at' (X.map gW) i 0 = some (zb (qT X[i]).num) ∧ at' (X.map gW) i 1 = some (wl (qT X[i]).num) ∧ at' (X.map gW) i 2 = some (.bool false) ∧ at' (X.map gW) i 3 = some (wL (qT X[i]).den) := by
  refine ⟨?_, ?_, ?_, ?_⟩ <;> (rw [at_map, List.getElem?_eq_getElem h]; rfl)

theorem qT_some {t : List UInt8} {q : Rat} (h : pr t = some q) : qT t = q := by unfold qT; rw [h]; rfl
theorem qT_bd (h : XOk X P) {t : List UInt8} (ht : t ∈ X) : Bd 1024 (qT t) := by
  unfold qT
  cases e : pr t with
  | none => exact (show Bd 1 (0 : Rat) from ⟨by decide, by decide⟩).mono (by omega)
  | some q => have := h.short t ht; exact (pr_bd e).mono (by omega)

theorem gset_mid (X : List (List UInt8)) (i d : Nat) (h : i + (d + 1) = X.length) : ((X.take i).map gF ++ List.replicate (d + 1) gZ).set i (gF (X[i]'(by omega))) = (X.take (i + 1)).map gF ++ List.replicate d gZ := by
  have hl : ((X.take i).map gF).length = i := by rw [List.length_map, List.length_take]; omega
  rw [List.set_append_right _ _ (by omega), hl, Nat.sub_self, List.replicate_succ, List.set_cons_zero, List.take_succ_eq_append_getElem (by omega), List.map_append, List.append_assoc]
  rfl

noncomputable def tkV (b : Bool) (X : List (List UInt8)) : List FV := bif b then [.list 4 (X.map gF), .bool true] else [.list 4 [], .bool false]

theorem taken_loop (h : XOk X P) (hl : X.length = P.length) : ∀ (d i : Nat), i + d = X.length → ∃ n0, ∀ n m, n0 ≤ n → n0 ≤ m →
    price_taken.l5 n [] m [.list 7 (P.map stF), .list 4 ((X.take i).map gF ++ List.replicate d gZ), .list 1 (X.map sF), .int .i64 (X.length : Int), .int .i64 (i : Int)] = some (tkV ((List.range' i d).all (tkAt X P)) X) := by
  have hf := h.few
  intro d
  induction d with
  | zero =>
    intro i hi
    refine ⟨1, fun n m hn hm => ?_⟩
    obtain ⟨m, rfl⟩ : ∃ k, m = k + 1 := ⟨m - 1, by omega⟩
    rw [price_taken.l5_eq, decide_eq_false (by omega), cond_false, List.replicate_zero, List.append_nil, List.take_of_length_le (by omega), List.range'_zero, List.all_nil]
    rfl
  | succ d ih =>
    intro i hi
    have hx : i < X.length := by omega
    have hp : i < P.length := by omega
    have hq := h.qty _ (List.getElem_mem hp)
    have hs := h.short _ (List.getElem_mem hx)
    have ht : tkAt X P i = tkS X[i] P[i] := by unfold tkAt; rw [List.getElem?_eq_getElem hx, List.getElem?_eq_getElem hp]
    have head : ∀ n m, price_taken.l5 n [] (m + 1) [.list 7 (P.map stF), .list 4 ((X.take i).map gF ++ List.replicate (d + 1) gZ), .list 1 (X.map sF), .int .i64 (X.length : Int), .int .i64 (i : Int)] = _ := fun n m => by
      rw [price_taken.l5_eq, decide_eq_true (by omega), cond_true, List.length_map, ix_nat hx, Option.bind_some, sF_at hx, asStr_str, Option.bind_some]
    rw [List.range'_succ, List.all_cons, ht]
    cases hpr : pr X[i] with
    | none =>
      obtain ⟨n1, h1⟩ := rparse_bad hpr (by omega)
      refine ⟨n1 + 1, fun n m hn hm => ?_⟩
      obtain ⟨m, rfl⟩ : ∃ k, m = k + 1 := ⟨m - 1, by omega⟩
      have hk : tkS X[i] P[i] = false := by unfold tkS; rw [hpr]; rfl
      rw [head, hk, Bool.false_and]
      try simp (disch := omega) only [h1, Option.bind_some, List.getElem?_cons_zero, List.getElem?_cons_succ, asLst_list, asInt_int, asBool_bool, asStr_str, cond_true, cond_false]
      try simp (disch := omega) only [show ((10 : Int) != 0) = true from rfl, Option.bind_some, List.getElem?_cons_zero, List.getElem?_cons_succ, asLst_list, asInt_int, asBool_bool, asStr_str, cond_true, cond_false]
      rfl
    | some q =>
      have hqq := qT_some hpr
      have bq : Bd 1024 q := (pr_bd hpr).mono (by omega)
      have bz := Bd_word hq.1 hq.2
      obtain ⟨n1, h1⟩ := rparse_ev hpr (by omega)
      obtain ⟨n2, h2⟩ : ∃ n0, ∀ n, n0 ≤ n → evF En n 95 [zl (q).num, zb (q).num, nL (q).den, .bool false] = some [.int .i64 q.num.sign] := rsign_ev (k := 1024) (by omega) bq
      obtain ⟨n3, h3⟩ := of_ev (z := P[i].qty) (by omega) (by omega)
      obtain ⟨n4, h4⟩ := rcmp_ev (k := 1024) (by omega) bq bz (dn_den _) (dn_den _)
      obtain ⟨n5, h5⟩ := ih (i + 1) (by omega)
      refine ⟨n1 + n2 + n3 + n4 + n5 + 1, fun n m hn hm => ?_⟩
      obtain ⟨m, rfl⟩ : ∃ k, m = k + 1 := ⟨m - 1, by omega⟩
      have hk : tkS X[i] P[i] = (!decide (q.num.sign < 0) && !decide (cq q P[i].qty > 0)) := by unfold tkS; rw [hpr, hqq]; rfl
      have hg : gF X[i] = .agg [zl (q).num, zb (q).num, nL (q).den, .bool false] := by unfold gF; rw [hqq]
      have hm' := gset_mid X i d (by omega)
      rw [hg] at hm'
      rw [head, hk]
      try simp (disch := omega) only [h1, Option.bind_some, List.getElem?_cons_zero, List.getElem?_cons_succ, asLst_list, asInt_int, asBool_bool, asStr_str, cond_true, cond_false]
      try simp (disch := omega) only [show ((0 : Int) != 0) = false from rfl, Option.bind_some, List.getElem?_cons_zero, List.getElem?_cons_succ, asLst_list, asInt_int, asBool_bool, asStr_str, cond_true, cond_false]
      try simp (disch := omega) only [h2, Option.bind_some, List.getElem?_cons_zero, List.getElem?_cons_succ, asLst_list, asInt_int, asBool_bool, asStr_str, cond_true, cond_false]
      simp only [List.length_map, ix_nat hp, st_at5 hp, Option.bind_some, asInt_int]
      try simp (disch := omega) only [h3, Option.bind_some, List.getElem?_cons_zero, List.getElem?_cons_succ, asLst_list, asInt_int, asBool_bool, asStr_str, cond_true, cond_false]
      try simp (disch := omega) only [h4, Option.bind_some, List.getElem?_cons_zero, List.getElem?_cons_succ, asLst_list, asInt_int, asBool_bool, asStr_str, cond_true, cond_false]
      rw [ix_nat (show i < (List.map gF (List.take i X) ++ List.replicate (d + 1) gZ).length by rw [List.length_append, List.length_map, List.length_take, List.length_replicate]; omega), Option.bind_some, hm', wrap_succ (by omega), h5 n m (by omega) (by omega)]
      show (bif decide (q.num.sign < 0) then _ else bif decide (cq q P[i].qty > 0) then _ else _ : Res) = _
      cases decide (q.num.sign < 0)
      · cases decide (cq q P[i].qty > 0)
        · rw [cond_false, cond_false, Bool.not_false, Bool.true_and, Bool.true_and]
        · rfl
      · rfl

theorem taken_ev (h : XOk X P) : Ev En 57 [.list 7 (P.map stF), .list 1 (X.map sF)] (tkV (decide (X.length = P.length) && (List.range' 0 X.length).all (tkAt X P)) X) := by
  have hf := h.few
  by_cases hl : X.length = P.length
  · obtain ⟨n1, h1⟩ := taken_loop h hl X.length 0 (by omega)
    refine Ev.of n1 fun n hn => ?_
    have q := h1 n n hn hn
    rw [price_taken_eq, List.length_map, List.length_map, decide_eq_true hl, Bool.true_and, show ((X.length : Int) != (P.length : Int)) = false by rw [hl]; simp, cond_false]
    have e1 : mkLen 64 (X.length : Int) = some X.length := by unfold mkLen; rw [if_pos (by omega)]; simp
    rw [e1, Option.bind_some, bd_nat (Nat.le_refl _), Option.bind_some]
    rw [List.take_zero, List.map_nil, List.nil_append, show ((0 : Nat) : Int) = 0 from rfl] at q
    exact q
  · refine Ev.of 0 fun n hn => ?_
    rw [price_taken_eq, List.length_map, List.length_map, decide_eq_false hl, Bool.false_and, show ((X.length : Int) != (P.length : Int)) = true by simp; omega, cond_true]
    rfl

/-! ### the bounds drawn -/
def dstep (hour zone : Int) (s : StP) (q : Rat) (b : Int × Int) : Int × Int :=
  bif s.hour != hour then b else bif s.zone != zone then b else
    (bif (bif s.buy then decide (cq q s.qty < 0) else decide (q.num.sign > 0)) then (if b.1 < s.price then s.price else b.1) else b.1,
     bif (bif s.buy then decide (q.num.sign > 0) else decide (cq q s.qty < 0)) then (if s.price < b.2 then s.price else b.2) else b.2)
noncomputable def dAt (X : List (List UInt8)) (P : List StP) (hour zone : Int) (b : Int × Int) (i : Nat) : Int × Int := match X[i]?, P[i]? with | some t, some s => dstep hour zone s (qT t) b | _, _ => b

theorem rsgn {q : Rat} (h : Bd 1024 q) : ∃ n0, ∀ n, n0 ≤ n → evF En n 95 [zl (q).num, zb (q).num, nL (q).den, .bool false] = some [.int .i64 q.num.sign] := rsign_ev (k := 1024) (by omega) h

theorem low_run {n : Nat} {b : Bool} {p l : Int} : evF En (n + 1) 106 [.bool b, .int .i64 p, .int .i64 l] = some [.int .i64 (bif b then (if l < p then p else l) else l)] := by
  rw [price_drawn_1_eq]; cases b <;> rfl
theorem high_run {n : Nat} {b : Bool} {p l : Int} : evF En (n + 1) 107 [.bool b, .int .i64 p, .int .i64 l] = some [.int .i64 (bif b then (if p < l then p else l) else l)] := by
  rw [price_drawn_2_eq]; cases b <;> rfl

variable {hour zone : Int}

theorem drawn_loop (h : XOk X P) (hl : X.length = P.length) : ∀ (d i : Nat), i + d = P.length → ∃ n0, ∀ lo hi n m, n0 ≤ n → n0 ≤ m →
    price_drawn.l5 n [] m [.int .i64 lo, .int .i64 hi, .list 4 (X.map gF), .int .i64 hour, .int .i64 zone, .list 7 (P.map stF), .int .i64 (P.length : Int), .int .i64 (i : Int)]
      = some [.int .i64 ((List.range' i d).foldl (dAt X P hour zone) (lo, hi)).1, .int .i64 ((List.range' i d).foldl (dAt X P hour zone) (lo, hi)).2] := by
  have hf := h.few
  intro d
  induction d with
  | zero =>
    intro i hi'
    refine ⟨1, fun lo hi n m hn hm => ?_⟩
    obtain ⟨m, rfl⟩ : ∃ k, m = k + 1 := ⟨m - 1, by omega⟩
    rw [price_drawn.l5_eq, decide_eq_false (by omega), cond_false, List.range'_zero]
    rfl
  | succ d ih =>
    intro i hi'
    have hx : i < X.length := by omega
    have hp : i < P.length := by omega
    have hq := h.qty _ (List.getElem_mem hp)
    have bq : Bd 1024 (qT X[i]) := qT_bd h (List.getElem_mem hx)
    have bz := Bd_word hq.1 hq.2
    have hd : ∀ b, dAt X P hour zone b i = dstep hour zone P[i] (qT X[i]) b := fun b => by unfold dAt; rw [List.getElem?_eq_getElem hx, List.getElem?_eq_getElem hp]
    obtain ⟨g0, g1, g2, g3⟩ := gF_at hx
    obtain ⟨n2, h2⟩ : ∃ n0, ∀ n, n0 ≤ n → evF En n 95 [zl (qT X[i]).num, zb (qT X[i]).num, nL (qT X[i]).den, .bool false] = some [.int .i64 (qT X[i]).num.sign] := rsgn bq
    obtain ⟨n3, h3⟩ := of_ev (z := P[i].qty) (by omega) (by omega)
    obtain ⟨n4, h4⟩ := rcmp_ev (k := 1024) (by omega) bq bz (dn_den _) (dn_den _)
    obtain ⟨n5, h5⟩ := ih (i + 1) (by omega)
    refine ⟨n2 + n3 + n4 + n5 + 1, fun lo hi n m hn hm => ?_⟩
    obtain ⟨m, rfl⟩ : ∃ k, m = k + 1 := ⟨m - 1, by omega⟩
    obtain ⟨n, rfl⟩ : ∃ k, n = k + 1 := ⟨n - 1, by omega⟩
    rw [List.range'_succ, List.foldl_cons, hd, price_drawn.l5_eq, decide_eq_true (by omega), cond_true, List.length_map, List.length_map, ix_nat hp, Option.bind_some]
    simp only [st_at0 hp, st_at1 hp, st_at2 hp, st_at3 hp, st_at4 hp, st_at5 hp, st_at6 hp, asStr_str, asInt_int, asBool_bool, Option.bind_some]
    rw [ix_nat hx, wrap_succ (by omega)]
    simp only [Option.bind_some, g0, g1, g2, g3, asLst_list, asBool_bool]
    unfold dstep
    cases P[i].hour != hour
    · cases P[i].zone != zone
      · rw [cond_false, cond_false, cond_false, cond_false]
        try simp (disch := omega) only [h2, Option.bind_some, List.getElem?_cons_zero, List.getElem?_cons_succ, asLst_list, asInt_int, asBool_bool, asStr_str, cond_true, cond_false]
        try simp (disch := omega) only [h3, Option.bind_some, List.getElem?_cons_zero, List.getElem?_cons_succ, asLst_list, asInt_int, asBool_bool, asStr_str, cond_true, cond_false]
        try simp (disch := omega) only [h4, Option.bind_some, List.getElem?_cons_zero, List.getElem?_cons_succ, asLst_list, asInt_int, asBool_bool, asStr_str, cond_true, cond_false]
        simp only [low_run, high_run, Option.bind_some, List.getElem?_cons_zero, asInt_int]
        cases P[i].buy
        · exact h5 _ _ (n + 1) m (by omega) (by omega)
        · exact h5 _ _ (n + 1) m (by omega) (by omega)
      · exact h5 _ _ (n + 1) m (by omega) (by omega)
    · exact h5 _ _ (n + 1) m (by omega) (by omega)

/-- what Bounds answers of bounds drawn -/
def fB (b : Int × Int) : List FV := bif decide (b.1 > b.2) then [.int .i64 0, .int .i64 0, .bool false] else [.int .i64 b.1, .int .i64 b.2, .bool true]

theorem wdrawn_loop (h : XOk X P) (hl : X.length = P.length) (hc : ∀ i, i < X.length → tkAt X P i = true) : ∀ (d i : Nat), i + d = P.length → ∃ n0, ∀ lo hi n m, n0 ≤ n → n0 ≤ m →
    noonbellref17_Bounds.l7 n [] m [.list 7 (P.map stF), .int .i64 hour, .int .i64 zone, .int .i64 lo, .int .i64 hi, .list 4 (X.map gW), .int .i64 (i : Int)]
      = some (fB ((List.range' i d).foldl (dAt X P hour zone) (lo, hi))) := by
  have hf := h.few
  intro d
  induction d with
  | zero =>
    intro i hi'
    refine ⟨1, fun lo hi n m hn hm => ?_⟩
    obtain ⟨m, rfl⟩ : ∃ k, m = k + 1 := ⟨m - 1, by omega⟩
    rw [noonbellref17_Bounds.l7_eq, List.length_map, decide_eq_false (by omega), cond_false, List.range'_zero, List.foldl_nil]
    unfold fB
    dsimp only
    cases decide (lo > hi) <;> rfl
  | succ d ih =>
    intro i hi'
    have hx : i < X.length := by omega
    have hp : i < P.length := by omega
    have hq := h.qty _ (List.getElem_mem hp)
    have bq : Bd 1024 (qT X[i]) := qT_bd h (List.getElem_mem hx)
    have bz := Bd_word hq.1 hq.2
    have hd : ∀ b, dAt X P hour zone b i = dstep hour zone P[i] (qT X[i]) b := fun b => by unfold dAt; rw [List.getElem?_eq_getElem hx, List.getElem?_eq_getElem hp]
    have ht : tkS X[i] P[i] = true := by have := hc i hx; unfold tkAt at this; rwa [List.getElem?_eq_getElem hx, List.getElem?_eq_getElem hp] at this
    have hle : (!(cq (qT X[i]) P[i].qty == 0)) = decide (cq (qT X[i]) P[i].qty < 0) := by
      have : ¬ (cq (qT X[i]) P[i].qty > 0) := by
        unfold tkS at ht
        intro hgt
        rw [decide_eq_true hgt] at ht
        simp at ht
      by_cases h0 : cq (qT X[i]) P[i].qty < 0
      · rw [decide_eq_true h0]; simp; omega
      · rw [decide_eq_false h0]; simp; omega
    obtain ⟨g0, g1, g2, g3⟩ := gW_at hx
    have h2 : ∀ n, evF En (n + 2) 62 [zb (qT X[i]).num, wl (qT X[i]).num, .bool false, wL (qT X[i]).den] = some [.int .i64 (qT X[i]).num.sign] := fun n => wrsign_run
    obtain ⟨n3, h3⟩ := wrof_ev (z := P[i].qty) (by omega) (by omega)
    obtain ⟨n4, h4⟩ := wrcmp_ev (k := 1024) (by omega) bq bz (dn_den _) (dn_den _)
    obtain ⟨n5, h5⟩ := ih (i + 1) (by omega)
    refine ⟨n3 + n4 + n5 + 2, fun lo hi n m hn hm => ?_⟩
    obtain ⟨m, rfl⟩ : ∃ k, m = k + 1 := ⟨m - 1, by omega⟩
    have h2' := h2 (n - 2)
    rw [show n - 2 + 2 = n by omega] at h2'
    rw [List.range'_succ, List.foldl_cons, hd, noonbellref17_Bounds.l7_eq, List.length_map, List.length_map, decide_eq_true (by omega), cond_true, ix_nat hp, Option.bind_some]
    simp only [st_at0 hp, st_at1 hp, st_at2 hp, st_at3 hp, st_at4 hp, st_at5 hp, st_at6 hp, asStr_str, asInt_int, asBool_bool, Option.bind_some]
    rw [ix_nat hx, wrap_succ (by omega)]
    simp only [Option.bind_some, g0, g1, g2, g3, asLst_list, asBool_bool]
    unfold dstep
    cases P[i].hour != hour
    · cases P[i].zone != zone
      · rw [cond_false, cond_false, cond_false, cond_false]
        try simp (disch := omega) only [h2', Option.bind_some, List.getElem?_cons_zero, List.getElem?_cons_succ, asLst_list, asInt_int, asBool_bool, asStr_str, cond_true, cond_false]
        try simp (disch := omega) only [h3, Option.bind_some, List.getElem?_cons_zero, List.getElem?_cons_succ, asLst_list, asInt_int, asBool_bool, asStr_str, cond_true, cond_false]
        try simp (disch := omega) only [h4, Option.bind_some, List.getElem?_cons_zero, List.getElem?_cons_succ, asLst_list, asInt_int, asBool_bool, asStr_str, cond_true, cond_false]
        have hle' : (!(cmpZi ((qT X[i]).num * ((P[i].qty : Rat).den : Int)) ((P[i].qty : Rat).num * ((qT X[i]).den : Int)) == 0)) = decide (cq (qT X[i]) P[i].qty < 0) := hle
        rw [hle']
        cases P[i].buy <;> cases decide (cq (qT X[i]) P[i].qty < 0) <;> cases decide ((qT X[i]).num.sign > 0) <;> exact h5 _ _ n m (by omega) (by omega)
      · exact h5 _ _ n m (by omega) (by omega)
    · exact h5 _ _ n m (by omega) (by omega)

end
end Rf
end

section
/- PriceBounds, fourth part: both bounds are one; the law's bound of what is looked at. -/
set_option linter.unusedSimpArgs false
set_option linter.unusedVariables false
set_option maxHeartbeats 2000000
namespace Rf
open Go

theorem elems1 (x z : FV) : elemsOf 1 z [(0, x)] = [x] := rfl

section
variable {X : List (List UInt8)} {P : List StP} {Z H lo hi hour zone : Int} {Q : List LnP}

noncomputable def nV (b : Bool) (X : List (List UInt8)) : List FV := bif b then [.list 4 (X.map gW), .int .i64 0] else [.list 4 [], .int .i64 10]

theorem nums_loop (hf : X.length ≤ 256) (hs : ∀ t, t ∈ X → t.length ≤ 256) : ∀ (d i : Nat), i + d = X.length → ∃ n0, ∀ n m, n0 ≤ n → n0 ≤ m →
    noonbellref11_Numbers.l3 n [] m [.list 1 (X.map sF), .list 4 ((X.take i).map gW), .int .i64 (i : Int)] = some (nV ((X.drop i).all fun t => (pr t).isSome) X) := by
  intro d
  induction d with
  | zero =>
    intro i hi
    refine ⟨1, fun n m hn hm => ?_⟩
    obtain ⟨m, rfl⟩ : ∃ k, m = k + 1 := ⟨m - 1, by omega⟩
    rw [noonbellref11_Numbers.l3_eq, List.length_map, decide_eq_false (by omega), cond_false, List.take_of_length_le (by omega), List.drop_of_length_le (by omega), List.all_nil]
    rfl
  | succ d ih =>
    intro i hi
    have hx : i < X.length := by omega
    have hsx := hs _ (List.getElem_mem hx)
    have head : ∀ n m, noonbellref11_Numbers.l3 n [] (m + 1) [.list 1 (X.map sF), .list 4 ((X.take i).map gW), .int .i64 (i : Int)] = _ := fun n m => by
      rw [noonbellref11_Numbers.l3_eq, List.length_map, decide_eq_true (by omega), cond_true, ix_nat hx, Option.bind_some, sF_at hx, asStr_str, Option.bind_some]
    rw [List.drop_eq_getElem_cons hx, List.all_cons]
    cases hpr : pr X[i] with
    | none =>
      obtain ⟨n1, h1⟩ := wrparse_bad hpr (by omega)
      refine ⟨n1 + 1, fun n m hn hm => ?_⟩
      obtain ⟨m, rfl⟩ : ∃ k, m = k + 1 := ⟨m - 1, by omega⟩
      rw [head, Option.isSome_none, Bool.false_and]
      try simp (disch := omega) only [h1, Option.bind_some, List.getElem?_cons_zero, List.getElem?_cons_succ, asLst_list, asInt_int, asBool_bool, asStr_str, cond_true, cond_false]
      try simp (disch := omega) only [show ((10 : Int) != 0) = true from rfl, Option.bind_some, List.getElem?_cons_zero, List.getElem?_cons_succ, asLst_list, asInt_int, asBool_bool, asStr_str, cond_true, cond_false]
      rfl
    | some q =>
      have hqq := qT_some hpr
      obtain ⟨n1, h1⟩ := wrparse_ev hpr (by omega)
      obtain ⟨n5, h5⟩ := ih (i + 1) (by omega)
      refine ⟨n1 + n5 + 1, fun n m hn hm => ?_⟩
      obtain ⟨m, rfl⟩ : ∃ k, m = k + 1 := ⟨m - 1, by omega⟩
      have hg : gW X[i] = .agg [zb (q).num, wl (q).num, .bool false, wL (q).den] := by unfold gW; rw [hqq]
      have q5 := h5 n m (by omega) (by omega)
      rw [List.take_succ_eq_append_getElem hx, List.map_append, List.map_cons, List.map_nil, hg] at q5
      rw [head, Option.isSome_some, Bool.true_and]
      try simp (disch := omega) only [h1, Option.bind_some, List.getElem?_cons_zero, List.getElem?_cons_succ, asLst_list, asInt_int, asBool_bool, asStr_str, cond_true, cond_false]
      try simp (disch := omega) only [show ((0 : Int) != 0) = false from rfl, Option.bind_some, List.getElem?_cons_zero, List.getElem?_cons_succ, asLst_list, asInt_int, asBool_bool, asStr_str, cond_true, cond_false]
      rw [elems1, show Nat.ble (((X.take i).map gW).length + [FV.agg [zb (q).num, wl (q).num, .bool false, wL (q).den]].length) 2199023255552 = true from Nat.ble_eq_true_of_le (by rw [List.length_map, List.length_take]; show min i X.length + 1 ≤ _; omega), cond_true, wrap_succ (by omega)]
      exact q5

theorem nums_ev (hf : X.length ≤ 256) (hs : ∀ t, t ∈ X → t.length ≤ 256) : Ev En 61 [.list 1 (X.map sF)] (nV (X.all fun t => (pr t).isSome) X) := by
  obtain ⟨n1, h1⟩ := nums_loop hf hs X.length 0 (by omega)
  refine Ev.of n1 fun n hn => ?_
  have q := h1 n n hn hn
  rw [List.take_zero, List.map_nil, List.drop_zero, show ((0 : Nat) : Int) = 0 from rfl] at q
  rw [noonbellref11_Numbers_eq]
  exact q

/-- may this be taken -/
noncomputable def tkB (X : List (List UInt8)) (P : List StP) : Bool := decide (X.length = P.length) && (List.range' 0 X.length).all (tkAt X P)

theorem tkB_at (h : tkB X P = true) : X.length = P.length ∧ ∀ i, i < X.length → tkAt X P i = true := by
  unfold tkB at h
  rw [Bool.and_eq_true, decide_eq_true_eq, List.all_eq_true] at h
  exact ⟨h.1, fun i hi => h.2 i (List.mem_range'_1.2 ⟨by omega, by omega⟩)⟩

theorem tkB_pr (h : tkB X P = true) : (X.all fun t => (pr t).isSome) = true := by
  obtain ⟨h1, h2⟩ := tkB_at h
  rw [List.all_eq_true]
  intro t ht
  obtain ⟨i, hi, rfl⟩ := List.mem_iff_getElem.1 ht
  have q := h2 i hi
  unfold tkAt at q
  rw [List.getElem?_eq_getElem hi, List.getElem?_eq_getElem (show i < P.length by omega)] at q
  unfold tkS at q
  rw [Bool.and_eq_true] at q
  exact q.1

theorem wtaken_loop (h : XOk X P) (hl : X.length = P.length) (hp : (X.all fun t => (pr t).isSome) = true) : ∀ (d i : Nat), i + d = X.length → ∃ n0, ∀ n m, n0 ≤ n → n0 ≤ m →
    noonbellref17_Taken.l5 n [] m [.list 7 (P.map stF), .list 4 (X.map gW), .int .i64 (i : Int)] = some [.bool ((List.range' i d).all (tkAt X P))] := by
  have hf := h.few
  intro d
  induction d with
  | zero =>
    intro i hi
    refine ⟨1, fun n m hn hm => ?_⟩
    obtain ⟨m, rfl⟩ : ∃ k, m = k + 1 := ⟨m - 1, by omega⟩
    rw [noonbellref17_Taken.l5_eq, List.length_map, decide_eq_false (by omega), cond_false, List.range'_zero, List.all_nil]
  | succ d ih =>
    intro i hi
    have hx : i < X.length := by omega
    have hpi : i < P.length := by omega
    have hq := h.qty _ (List.getElem_mem hpi)
    have bq : Bd 1024 (qT X[i]) := qT_bd h (List.getElem_mem hx)
    have bz := Bd_word hq.1 hq.2
    have hsome : (pr X[i]).isSome = true := List.all_eq_true.1 hp _ (List.getElem_mem hx)
    have ht : tkAt X P i = (!decide ((qT X[i]).num.sign < 0) && !decide (cq (qT X[i]) P[i].qty > 0)) := by
      unfold tkAt
      rw [List.getElem?_eq_getElem hx, List.getElem?_eq_getElem hpi]
      unfold tkS
      dsimp only
      rw [hsome, Bool.true_and]
    obtain ⟨g0, g1, g2, g3⟩ := gW_at hx
    have h2 : ∀ n, evF En (n + 2) 62 [zb (qT X[i]).num, wl (qT X[i]).num, .bool false, wL (qT X[i]).den] = some [.int .i64 (qT X[i]).num.sign] := fun n => wrsign_run
    obtain ⟨n3, h3⟩ := wrof_ev (z := P[i].qty) (by omega) (by omega)
    obtain ⟨n4, h4⟩ := wrcmp_ev (k := 1024) (by omega) bq bz (dn_den _) (dn_den _)
    obtain ⟨n5, h5⟩ := ih (i + 1) (by omega)
    refine ⟨n3 + n4 + n5 + 2, fun n m hn hm => ?_⟩
    obtain ⟨m, rfl⟩ : ∃ k, m = k + 1 := ⟨m - 1, by omega⟩
    have h2' := h2 (n - 2)
    rw [show n - 2 + 2 = n by omega] at h2'
    rw [List.range'_succ, List.all_cons, ht, noonbellref17_Taken.l5_eq, List.length_map, List.length_map, decide_eq_true (by omega), cond_true, ix_nat hx, Option.bind_some]
    simp only [g0, g1, g2, g3, asLst_list, asBool_bool, Option.bind_some, st_at5 hpi, ix_nat hpi, asInt_int]
    try simp (disch := omega) only [h2', Option.bind_some, List.getElem?_cons_zero, List.getElem?_cons_succ, asLst_list, asInt_int, asBool_bool, asStr_str, cond_true, cond_false]
    try simp (disch := omega) only [h3, Option.bind_some, List.getElem?_cons_zero, List.getElem?_cons_succ, asLst_list, asInt_int, asBool_bool, asStr_str, cond_true, cond_false]
    try simp (disch := omega) only [h4, Option.bind_some, List.getElem?_cons_zero, List.getElem?_cons_succ, asLst_list, asInt_int, asBool_bool, asStr_str, cond_true, cond_false]
    rw [wrap_succ (by omega), h5 n m (by omega) (by omega)]
    show (bif decide ((qT X[i]).num.sign < 0) then _ else bif decide (cq (qT X[i]) P[i].qty > 0) then _ else _ : Res) = _
    cases decide ((qT X[i]).num.sign < 0)
    · cases decide (cq (qT X[i]) P[i].qty > 0)
      · rw [cond_false, cond_false, Bool.not_false, Bool.true_and, Bool.true_and]
      · rfl
    · rfl

theorem wtaken_ev (h : XOk X P) (hQ : Q.length ≤ 9000000000000) : Ev En 60 [.int .i64 Z, .int .i64 H, .list 3 (Q.map lnF), .int .i64 lo, .int .i64 hi, .list 7 (P.map stF), .list 8 [], .list 1 (X.map sF)] [.bool (ordB Z H lo hi Q P && tkB X P)] := by
  obtain ⟨n1, h1⟩ := nums_ev h.few h.short
  obtain ⟨n2, h2⟩ := worders_ev (Z := Z) (H := H) (lo := lo) (hi := hi) (Q := Q) h.steps hQ
  by_cases hok : (X.all fun t => (pr t).isSome) = true ∧ X.length = P.length
  · obtain ⟨n3, h3⟩ := wtaken_loop h hok.2 hok.1 X.length 0 (by omega)
    refine Ev.of (n1 + n2 + n3) fun n hn => ?_
    have q := h3 n n (by omega) (by omega)
    rw [show ((0 : Nat) : Int) = 0 from rfl] at q
    rw [noonbellref17_Taken_eq, h1 n (by omega), hok.1]
    simp only [nV, cond_true, Option.bind_some, List.getElem?_cons_zero, List.getElem?_cons_succ, asLst_list, asInt_int, h2 n (by omega), asBool_bool, List.length_map]
    rw [show ((0 : Int) != 0) = false from rfl, cond_false, show ((X.length : Int) != (P.length : Int)) = false by rw [hok.2]; simp, cond_false, q]
    unfold tkB
    rw [decide_eq_true hok.2, Bool.true_and]
    cases ordB Z H lo hi Q P
    · rw [Bool.not_false, cond_true, Bool.false_and]
    · rw [Bool.not_true, cond_false, Bool.true_and]
  · have hT : tkB X P = false := by
      cases hb : tkB X P
      · rfl
      · exact absurd ⟨tkB_pr hb, (tkB_at hb).1⟩ hok
    refine Ev.of (n1 + n2) fun n hn => ?_
    rw [noonbellref17_Taken_eq, h1 n (by omega), hT, Bool.and_false]
    cases ha : (X.all fun t => (pr t).isSome)
    · simp only [nV, cond_false, Option.bind_some, List.getElem?_cons_zero, List.getElem?_cons_succ, asLst_list, asInt_int, h2 n (by omega), asBool_bool]
      rw [show ((10 : Int) != 0) = true from rfl, cond_true]
      cases ordB Z H lo hi Q P <;> rfl
    · simp only [nV, cond_true, Option.bind_some, List.getElem?_cons_zero, List.getElem?_cons_succ, asLst_list, asInt_int, h2 n (by omega), asBool_bool, List.length_map]
      rw [show ((X.length : Int) != (P.length : Int)) = true by simp; intro e; exact hok ⟨ha, by omega⟩, show ((0 : Int) != 0) = false from rfl, cond_false, cond_true]
      cases ordB Z H lo hi Q P <;> rfl

/-- what both answer -/
noncomputable def bV (Z H lo hi : Int) (Q : List LnP) (P : List StP) (X : List (List UInt8)) (hour zone : Int) : List FV :=
  bif tkB X P && (ordB Z H lo hi Q P && (!decide (hour < 0) && (!decide (hour ≥ H) && (!decide (zone < 0) && !decide (zone ≥ Z))))) then fB ((List.range' 0 P.length).foldl (dAt X P hour zone) (lo, hi)) else [.int .i64 0, .int .i64 0, .bool false]

theorem bounds_ev (h : XOk X P) (hQ : Q.length ≤ 9000000000000) : Ev En 18 [.int .i64 Z, .int .i64 H, .list 3 (Q.map lnF), .int .i64 lo, .int .i64 hi, .list 7 (P.map stF), .list 1 (X.map sF), .int .i64 hour, .int .i64 zone] (bV Z H lo hi Q P X hour zone) := by
  obtain ⟨n1, h1⟩ := taken_ev h
  obtain ⟨n2, h2⟩ := orders_ev (Z := Z) (H := H) (lo := lo) (hi := hi) (Q := Q) h.steps hQ
  rw [show (decide (X.length = P.length) && (List.range' 0 X.length).all (tkAt X P)) = tkB X P from rfl] at h1
  unfold bV
  cases hT : tkB X P
  · refine Ev.of n1 fun n hn => ?_
    rw [price_Bounds_eq, h1 n (by omega), hT]
    rfl
  · obtain ⟨n3, h3⟩ := drawn_loop (hour := hour) (zone := zone) h (tkB_at hT).1 P.length 0 (by omega)
    refine Ev.of (n1 + n2 + n3 + 1) fun n hn => ?_
    obtain ⟨n, rfl⟩ : ∃ k, n = k + 1 := ⟨n - 1, by omega⟩
    have q := h3 lo hi n n (by omega) (by omega)
    rw [show ((0 : Nat) : Int) = 0 from rfl] at q
    rw [price_Bounds_eq, h1 (n + 1) (by omega), hT]
    simp only [tkV, cond_true, Option.bind_some, List.getElem?_cons_zero, List.getElem?_cons_succ, asLst_list, asBool_bool, h2 (n + 1) (by omega), price_drawn_eq, List.length_map, q, asInt_int, Bool.not_true, cond_false]
    unfold fB
    generalize (List.range' 0 P.length).foldl (dAt X P hour zone) (lo, hi) = w
    cases ordB Z H lo hi Q P <;> cases decide (hour < 0) <;> cases decide (hour ≥ H) <;> cases decide (zone < 0) <;> cases decide (zone ≥ Z) <;> cases decide (w.1 > w.2) <;> rfl

theorem wbounds_ev (h : XOk X P) (hQ : Q.length ≤ 9000000000000) : Ev En 19 [.int .i64 Z, .int .i64 H, .list 3 (Q.map lnF), .int .i64 lo, .int .i64 hi, .list 7 (P.map stF), .list 1 (X.map sF), .int .i64 hour, .int .i64 zone] (bV Z H lo hi Q P X hour zone) := by
  obtain ⟨n1, h1⟩ := wtaken_ev (Z := Z) (H := H) (lo := lo) (hi := hi) (Q := Q) h hQ
  obtain ⟨n2, h2⟩ := nums_ev h.few h.short
  unfold bV
  cases hT : tkB X P
  · refine Ev.of n1 fun n hn => ?_
    rw [noonbellref17_Bounds_eq, h1 n (by omega), hT, Bool.and_false]
    rfl
  · obtain ⟨n3, h3⟩ := wdrawn_loop (hour := hour) (zone := zone) h (tkB_at hT).1 (tkB_at hT).2 P.length 0 (by omega)
    refine Ev.of (n1 + n2 + n3) fun n hn => ?_
    have q := h3 lo hi n n (by omega) (by omega)
    rw [show ((0 : Nat) : Int) = 0 from rfl] at q
    rw [noonbellref17_Bounds_eq, h1 n (by omega), hT, Bool.and_true]
    simp only [Option.bind_some, List.getElem?_cons_zero, asBool_bool, h2 n (by omega), tkB_pr hT, nV, cond_true, List.getElem?_cons_succ, asLst_list, asInt_int, q, Bool.true_and]
    cases ordB Z H lo hi Q P <;> cases decide (hour < 0) <;> cases decide (hour ≥ H) <;> cases decide (zone < 0) <;> cases decide (zone ≥ Z) <;> rfl
end

end Rf
end

section
/- PriceBounds: the bounds of each price are the document's. -/
set_option linter.unusedSimpArgs false
set_option linter.unusedVariables false
set_option maxHeartbeats 2000000
namespace Rf
open Go

abbrev rowG (r : List (List UInt8)) : FV := .list 1 (r.map sF)
theorem rowG_at {F : List (List (List UInt8))} {i : Nat} (h : i < F.length) : at' (F.map rowG) i 0 = some (.list 1 (F[i].map sF)) := by rw [at_map, List.getElem?_eq_getElem h]; rfl
theorem blk_at {B : List (List FV)} {i : Nat} {l : List FV} (h : i < B.length) (hl : B[i][5]? = some (.list 1 l)) : at' (B.map FV.agg) i 5 = some (.list 1 l) := by rw [at_map, List.getElem?_eq_getElem h]; exact hl

theorem min_nat (a b : Nat) : (if (a : Int) < (b : Int) then (a : Int) else (b : Int)) = ((min a b : Nat) : Int) := by
  split <;> omega

section
variable {X : List (List UInt8)} {P : List StP} {Z H lo hi : Int} {Q : List LnP} {B : List (List FV)} {A : List FV} {F : List (List (List UInt8))}

/-- what is known of what is not heavy -/
def FewX (X : List (List UInt8)) : Prop := X.length ≤ 256 ∧ ∀ t, t ∈ X → t.length ≤ 256
def HG (X : List (List UInt8)) (P : List StP) (r : Res) : Prop := ∃ b : Bool, r = some [.bool b] ∧ (b = false → FewX X ∧ P.length ≤ 8)

structure HOk (X : List (List UInt8)) (B : List (List FV)) (F : List (List (List UInt8))) : Prop where
  x : X.length ≤ 140737488355328
  b : B.length ≤ 140737488355328
  q : ∀ i (h : i < B.length), ∃ l, B[i][5]? = some (.list 1 l) ∧ l.length ≤ 140737488355328
  f : F.length ≤ 140737488355328
  r : ∀ r, r ∈ F → r.length ≤ 140737488355328

abbrev hL (Z H lo hi : Int) (Q : List LnP) (P : List StP) (B : List (List FV)) (A : List FV) (X : List (List UInt8)) (F : List (List (List UInt8))) (r : List FV) : List FV :=
  .int .i64 Z :: .int .i64 H :: .list 3 (Q.map lnF) :: .int .i64 lo :: .int .i64 hi :: .list 7 (P.map stF) :: .list 8 (B.map FV.agg) :: .list 1 A :: .list 1 (X.map sF) :: .list 1 (F.map rowG) :: r

theorem h_end {v : Nat} (hv : v ≤ 256 → FewX X) : HG X P (bif decide ((v : Int) > 256) then some [.bool true] else (bif decide (((P.map stF).length : Int) > 8) then some [.bool true] else some [.bool (decide (((B.map FV.agg).length : Int) > 4))])) := by
  rw [List.length_map]
  by_cases h1 : (v : Int) > 256
  · exact ⟨true, by rw [decide_eq_true h1, cond_true], fun h => by cases h⟩
  · rw [decide_eq_false h1, cond_false]
    by_cases h2 : (P.length : Int) > 8
    · exact ⟨true, by rw [decide_eq_true h2, cond_true], fun h => by cases h⟩
    · exact ⟨_, by rw [decide_eq_false h2, cond_false], fun _ => ⟨hv (by omega), by omega⟩⟩

theorem l15_loop (h : HOk X B F) {n : Nat} : ∀ (d i m v : Nat), i + d = B.length → d < m → v ≤ 1000000000000000 → (v ≤ 256 → FewX X) →
    HG X P (noonbelllaw17_heavy.l15 n [] m (hL Z H lo hi Q P B A X F [.int .i64 (v : Int), .int .i64 (i : Int)])) := by
  have hb := h.b
  intro d
  induction d with
  | zero =>
    intro i m v hi' hm hv hx
    obtain ⟨m, rfl⟩ : ∃ k, m = k + 1 := ⟨m - 1, by omega⟩
    rw [noonbelllaw17_heavy.l15_eq, decide_eq_false (by rw [List.length_map]; omega), cond_false]
    exact h_end hx
  | succ d ih =>
    intro i m v hi' hm hv hx
    obtain ⟨m, rfl⟩ : ∃ k, m = k + 1 := ⟨m - 1, by omega⟩
    have hil : i < B.length := by omega
    obtain ⟨l, hl, hll⟩ := h.q i hil
    rw [noonbelllaw17_heavy.l15_eq, decide_eq_true (by rw [List.length_map]; omega), cond_true]
    by_cases h1 : v ≤ 256
    · rw [decide_eq_true (by omega), cond_true, ix_nat (by rw [List.length_map]; exact hil), Option.bind_some, blk_at hil hl, asLst_list, Option.bind_some, show (1048576 : Int) = ((1048576 : Nat) : Int) from rfl, min_nat, add_i64 (by omega), wrap_succ (by omega)]
      exact ih (i + 1) m _ (by omega) (by omega) (by omega) (fun hv' => hx h1)
    · rw [decide_eq_false (by omega), cond_false]
      exact h_end hx

theorem l11_loop (h : HOk X B F) {n m0 k : Nat} (hk : k < F.length) (hout : ∀ v : Nat, v ≤ 1000000000000000 → (v ≤ 256 → FewX X) → HG X P (noonbelllaw17_heavy.l7 n [] m0 (hL Z H lo hi Q P B A X F [.int .i64 (v : Int), .int .i64 ((k + 1 : Nat) : Int)]))) :
    ∀ (d j m v : Nat), j + d = F[k].length → d < m → v ≤ 1000000000000000 → (v ≤ 256 → FewX X) →
    HG X P (noonbelllaw17_heavy.l11 n [m0] m (hL Z H lo hi Q P B A X F [.int .i64 (v : Int), .int .i64 (k : Int), .int .i64 (j : Int)])) := by
  have hr := h.r _ (List.getElem_mem hk)
  have hfl := h.f
  intro d
  induction d with
  | zero =>
    intro j m v hj hm hv hx
    obtain ⟨m, rfl⟩ : ∃ k, m = k + 1 := ⟨m - 1, by omega⟩
    rw [noonbelllaw17_heavy.l11_eq, ix_nat (by rw [List.length_map]; exact hk), Option.bind_some, rowG_at hk, asLst_list, Option.bind_some, List.length_map, decide_eq_false (by omega), cond_false, wrap_succ (by omega)]
    exact hout v hv hx
  | succ d ih =>
    intro j m v hj hm hv hx
    obtain ⟨m, rfl⟩ : ∃ k, m = k + 1 := ⟨m - 1, by omega⟩
    have hjl : j < F[k].length := by omega
    rw [noonbelllaw17_heavy.l11_eq, ix_nat (by rw [List.length_map]; exact hk), Option.bind_some, rowG_at hk, asLst_list, Option.bind_some, List.length_map, decide_eq_true (by omega), cond_true]
    by_cases h1 : v ≤ 256
    · rw [decide_eq_true (by omega), cond_true]
      simp only [Option.bind_some, rowG_at hk, asLst_list, List.length_map, ix_nat hjl, sF_at hjl, asStr_str, txt_size]
      rw [show (1048576 : Int) = ((1048576 : Nat) : Int) from rfl, min_nat, show (1 : Int) = ((1 : Nat) : Int) from rfl, add_i64 (by omega), add_i64 (by omega), add_i64 (by omega)]
      exact ih (j + 1) m _ (by omega) (by omega) (by omega) (fun hv' => hx h1)
    · rw [decide_eq_false (by omega), cond_false, wrap_succ (by omega)]
      exact hout v hv hx

theorem l7_loop (h : HOk X B F) {n : Nat} (hn : 300000000000000 ≤ n) : ∀ (d i m v : Nat), i + d = F.length → d < m → v ≤ 1000000000000000 → (v ≤ 256 → FewX X) →
    HG X P (noonbelllaw17_heavy.l7 n [] m (hL Z H lo hi Q P B A X F [.int .i64 (v : Int), .int .i64 (i : Int)])) := by
  have hb := h.b
  have hf := h.f
  intro d
  induction d with
  | zero =>
    intro i m v hi' hm hv hx
    obtain ⟨m, rfl⟩ : ∃ k, m = k + 1 := ⟨m - 1, by omega⟩
    rw [noonbelllaw17_heavy.l7_eq, decide_eq_false (by rw [List.length_map]; omega), cond_false]
    exact l15_loop h B.length 0 n v (by omega) (by omega) hv hx
  | succ d ih =>
    intro i m v hi' hm hv hx
    obtain ⟨m, rfl⟩ : ∃ k, m = k + 1 := ⟨m - 1, by omega⟩
    have hil : i < F.length := by omega
    have hr := h.r _ (List.getElem_mem hil)
    rw [noonbelllaw17_heavy.l7_eq, decide_eq_true (by rw [List.length_map]; omega), cond_true]
    by_cases h1 : v ≤ 256
    · rw [decide_eq_true (by omega), cond_true, wrap_succ (by omega)]
      exact l11_loop h hil (fun v' hv' hx' => ih (i + 1) m v' (by omega) (by omega) hv' hx') F[i].length 0 n (v + 1) (by omega) (by omega) (by omega) (fun _ => hx h1)
    · rw [decide_eq_false (by omega), cond_false]
      exact l15_loop h B.length 0 n v (by omega) (by omega) hv hx

theorem l3_loop (h : HOk X B F) {n : Nat} (hn : 300000000000000 ≤ n) : ∀ (d i m v : Nat), i + d = X.length → d < m → v ≤ 1000000000000000 → (v ≤ 256 → i ≤ v ∧ ∀ t, t ∈ X.take i → t.length ≤ 256) →
    HG X P (noonbelllaw17_heavy.l3 n [] m (hL Z H lo hi Q P B A X F [.int .i64 (v : Int), .int .i64 (i : Int)])) := by
  have hxl := h.x
  have hf := h.f
  intro d
  induction d with
  | zero =>
    intro i m v hi' hm hv hx
    obtain ⟨m, rfl⟩ : ∃ k, m = k + 1 := ⟨m - 1, by omega⟩
    rw [noonbelllaw17_heavy.l3_eq, decide_eq_false (by rw [List.length_map]; omega), cond_false]
    refine l7_loop h hn F.length 0 n v (by omega) (by omega) hv fun hv' => ?_
    obtain ⟨q1, q2⟩ := hx hv'
    rw [List.take_of_length_le (by omega)] at q2
    exact ⟨by omega, q2⟩
  | succ d ih =>
    intro i m v hi' hm hv hx
    obtain ⟨m, rfl⟩ : ∃ k, m = k + 1 := ⟨m - 1, by omega⟩
    have hil : i < X.length := by omega
    rw [noonbelllaw17_heavy.l3_eq, decide_eq_true (by rw [List.length_map]; omega), cond_true]
    by_cases h1 : v ≤ 256
    · rw [decide_eq_true (by omega), cond_true, ix_nat (by rw [List.length_map]; exact hil), Option.bind_some, sF_at hil, asStr_str, Option.bind_some, txt_size, show (1048576 : Int) = ((1048576 : Nat) : Int) from rfl, min_nat, wrap_succ (by omega), show (1 : Int) = ((1 : Nat) : Int) from rfl, add_i64 (by omega), add_i64 (by omega)]
      refine ih (i + 1) m _ (by omega) (by omega) (by omega) fun hv' => ?_
      obtain ⟨q1, q2⟩ := hx h1
      refine ⟨by omega, fun t ht => ?_⟩
      rw [List.take_add_one, List.getElem?_eq_getElem hil] at ht
      rcases List.mem_append.1 ht with ht | ht
      · exact q2 t ht
      · simp at ht; subst ht; omega
    · rw [decide_eq_false (by omega), cond_false]
      exact l7_loop h hn F.length 0 n v (by omega) (by omega) hv fun hv' => absurd hv' h1

theorem heavy_ev (h : HOk X B F) (hA : A.length ≤ 140737488355328) (hQ : Q.length ≤ 140737488355328) {n : Nat} (hn : 300000000000000 ≤ n) :
    HG X P (evF En (n + 1) 17 (hL Z H lo hi Q P B A X F [])) := by
  have hxl := h.x
  rw [noonbelllaw17_heavy_eq, List.length_map, add_i64 (by omega)]
  exact l3_loop h hn X.length 0 n _ (by omega) (by omega) (by omega) fun _ => ⟨by omega, fun t ht => by simp at ht⟩
end

theorem Fits.ptxt_inv {x : FV} (h : Fits .str x) : ∃ l : List UInt8, x = sF l ∧ l.length ≤ 140737488351232 := by
  obtain ⟨s, rfl, hs⟩ := h.str_inv
  exact ⟨s.data.toList, rfl, by rw [Array.length_toList]; exact hs⟩

theorem Fits.ptexts_inv {x : FV} (h : Fits (.lst false 16 [.str]) x) : ∃ r : List (List UInt8), x = rowG r ∧ r.length ≤ 140737488355328 := by
  obtain ⟨l, rfl, hl, _⟩ := h.lst_map sF (R := fun _ => True) fun cs hcs => by
    obtain ⟨y, r, rfl, hy, hr⟩ := hcs.cons_inv
    obtain rfl := hr.nil_inv
    obtain ⟨t, rfl, _⟩ := hy.ptxt_inv
    exact ⟨t, rfl, trivial⟩
  exact ⟨l, rfl, by omega⟩

theorem bV_is {X : List (List UInt8)} {P : List StP} {Z H lo hi hour zone : Int} {Q : List LnP} : ∃ a b c, bV Z H lo hi Q P X hour zone = [.int .i64 a, .int .i64 b, .bool c] := by
  unfold bV
  cases tkB X P && (ordB Z H lo hi Q P && (!decide (hour < 0) && (!decide (hour ≥ H) && (!decide (zone < 0) && !decide (zone ≥ Z)))))
  · exact ⟨0, 0, false, rfl⟩
  · unfold fB
    rw [cond_true]
    generalize (List.range' 0 P.length).foldl (dAt X P hour zone) (lo, hi) = w
    cases decide (w.1 > w.2)
    · exact ⟨_, _, true, rfl⟩
    · exact ⟨0, 0, false, rfl⟩

theorem price_at {X : List (List UInt8)} {P : List StP} {Z H lo hi hour zone : Int} {Q : List LnP} {B : List (List FV)} {A : List FV} {F : List (List (List UInt8))} (h : HOk X B F) (hA : A.length ≤ 140737488355328) (hQ : Q.length ≤ 9000000000000) (hq : ∀ s, s ∈ P → -9223372036854775808 ≤ s.qty ∧ s.qty ≤ 9223372036854775807) :
    ∃ n, evF En n 5 (hL Z H lo hi Q P B A X F [.int .i64 hour, .int .i64 zone]) = some [.bool true] := by
  by_cases hfew : FewX X ∧ P.length ≤ 8
  · have hx : XOk X P := ⟨hfew.1.1, hfew.1.2, hq, by have := hfew.2; omega⟩
    obtain ⟨n1, h1⟩ := bounds_ev (Z := Z) (H := H) (lo := lo) (hi := hi) (hour := hour) (zone := zone) (Q := Q) hx hQ
    obtain ⟨n2, h2⟩ := wbounds_ev (Z := Z) (H := H) (lo := lo) (hi := hi) (hour := hour) (zone := zone) (Q := Q) hx hQ
    obtain ⟨b, hb, _⟩ := heavy_ev (P := P) (Z := Z) (H := H) (lo := lo) (hi := hi) (Q := Q) (A := A) h hA (by omega) (n := n1 + n2 + 300000000000000) (by omega)
    refine ⟨n1 + n2 + 300000000000000 + 1 + 1, ?_⟩
    rw [noonbelllaw17_PriceBounds_eq, hb, Option.bind_some, List.getElem?_cons_zero, asBool_bool, Option.bind_some, h1 _ (by omega), h2 _ (by omega)]
    cases b
    · rw [cond_false]
      obtain ⟨u, v, w, hV⟩ := bV_is (Z := Z) (H := H) (lo := lo) (hi := hi) (Q := Q) (P := P) (X := X) (hour := hour) (zone := zone)
      rw [hV]
      simp only [Option.bind_some, List.getElem?_cons_zero, List.getElem?_cons_succ, asInt_int, asBool_bool, beq_self_eq_true, cond_true]
    · rfl
  · obtain ⟨b, hb, hb2⟩ := heavy_ev (P := P) (Z := Z) (H := H) (lo := lo) (hi := hi) (Q := Q) (A := A) h hA (by omega) (n := 300000000000000) (by omega)
    refine ⟨300000000000000 + 1 + 1, ?_⟩
    rw [noonbelllaw17_PriceBounds_eq, hb, Option.bind_some, List.getElem?_cons_zero, asBool_bool, Option.bind_some]
    cases b
    · exact absurd (hb2 rfl) hfew
    · rfl

theorem price_pure (L : List FV) (h : All2 Fits [.int .i64, .int .i64, .lst true 24 [.int .i64, .int .i64, .int .i64], .int .i64, .int .i64, .lst true 64 [.str, .int .i64, .int .i64, .int .i64, .bool, .int .i64, .int .i64], .lst true 88 [.str, .int .i64, .int .i64, .bool, .int .i64, .lst false 8 [.int .i64], .int .i64, .int .i64], .lst false 1 [.bool], .lst false 16 [.str], .lst false 24 [.lst false 16 [.str]], .int .i64, .int .i64] L) : ∃ n, evF En n 5 L = some [.bool true] := by
  obtain ⟨y1, r1, rfl, h1, h⟩ := h.cons_inv
  obtain ⟨y2, r2, rfl, h2, h⟩ := h.cons_inv
  obtain ⟨y3, r3, rfl, h3, h⟩ := h.cons_inv
  obtain ⟨y4, r4, rfl, h4, h⟩ := h.cons_inv
  obtain ⟨y5, r5, rfl, h5, h⟩ := h.cons_inv
  obtain ⟨y6, r6, rfl, h6, h⟩ := h.cons_inv
  obtain ⟨y7, r7, rfl, h7, h⟩ := h.cons_inv
  obtain ⟨y8, r8, rfl, h8, h⟩ := h.cons_inv
  obtain ⟨y9, r9, rfl, h9, h⟩ := h.cons_inv
  obtain ⟨y10, r10, rfl, h10, h⟩ := h.cons_inv
  obtain ⟨y11, r11, rfl, h11, h⟩ := h.cons_inv
  obtain ⟨y12, r12, rfl, h12, h⟩ := h.cons_inv
  obtain rfl := h.nil_inv
  obtain ⟨Z, rfl, _⟩ := h1.int_inv
  obtain ⟨H, rfl, _⟩ := h2.int_inv
  obtain ⟨lo, rfl, _⟩ := h4.int_inv
  obtain ⟨hi, rfl, _⟩ := h5.int_inv
  obtain ⟨hour, rfl, _⟩ := h11.int_inv
  obtain ⟨zone, rfl, _⟩ := h12.int_inv
  obtain ⟨Q, rfl, hQ, _⟩ := h3.lst_map lnF (R := fun _ => True) fun cs hcs => by
    obtain ⟨a, r, rfl, ha, hcs⟩ := hcs.cons_inv
    obtain ⟨b, r, rfl, hb, hcs⟩ := hcs.cons_inv
    obtain ⟨c, r, rfl, hc, hcs⟩ := hcs.cons_inv
    obtain rfl := hcs.nil_inv
    obtain ⟨a, rfl, _⟩ := ha.int_inv
    obtain ⟨b, rfl, _⟩ := hb.int_inv
    obtain ⟨c, rfl, _⟩ := hc.int_inv
    exact ⟨⟨a, b, c⟩, rfl, trivial⟩
  obtain ⟨P, rfl, hP, hq⟩ := h6.lst_map stF (R := fun s => -9223372036854775808 ≤ s.qty ∧ s.qty ≤ 9223372036854775807) fun cs hcs => by
    obtain ⟨a, r, rfl, ha, hcs⟩ := hcs.cons_inv
    obtain ⟨b, r, rfl, hb, hcs⟩ := hcs.cons_inv
    obtain ⟨c, r, rfl, hc, hcs⟩ := hcs.cons_inv
    obtain ⟨d, r, rfl, hd, hcs⟩ := hcs.cons_inv
    obtain ⟨e, r, rfl, he, hcs⟩ := hcs.cons_inv
    obtain ⟨f, r, rfl, hf, hcs⟩ := hcs.cons_inv
    obtain ⟨g, r, rfl, hg, hcs⟩ := hcs.cons_inv
    obtain rfl := hcs.nil_inv
    obtain ⟨a, rfl, _⟩ := ha.ptxt_inv
    obtain ⟨b, rfl, _⟩ := hb.int_inv
    obtain ⟨c, rfl, _⟩ := hc.int_inv
    obtain ⟨d, rfl, _⟩ := hd.int_inv
    obtain ⟨e, rfl⟩ := he.bool_inv
    obtain ⟨f, rfl, f1, f2⟩ := hf.int_inv
    obtain ⟨g, rfl, _⟩ := hg.int_inv
    exact ⟨⟨a, b, c, d, e, f, g⟩, rfl, f1, f2⟩
  obtain ⟨B, rfl, hB, hb5⟩ := h7.lst_map FV.agg (R := fun cs => ∃ l, cs[5]? = some (.list 1 l) ∧ l.length ≤ 140737488355328) fun cs hcs => by
    refine ⟨cs, rfl, ?_⟩
    obtain ⟨a, r, rfl, ha, hcs⟩ := hcs.cons_inv
    obtain ⟨b, r, rfl, hb, hcs⟩ := hcs.cons_inv
    obtain ⟨c, r, rfl, hc, hcs⟩ := hcs.cons_inv
    obtain ⟨d, r, rfl, hd, hcs⟩ := hcs.cons_inv
    obtain ⟨e, r, rfl, he, hcs⟩ := hcs.cons_inv
    obtain ⟨f, r, rfl, hf, hcs⟩ := hcs.cons_inv
    obtain ⟨l, rfl, hl, _⟩ := hf.lst_inv
    exact ⟨_, rfl, by rw [List.length_map]; omega⟩
  obtain ⟨A, rfl, hA, _⟩ := h8.lst_inv
  obtain ⟨X, rfl, hX⟩ := h9.ptexts_inv
  obtain ⟨F, rfl, hF, hr⟩ := h10.lst_map rowG (R := fun r => r.length ≤ 140737488355328) fun cs hcs => by
    obtain ⟨y, r, rfl, hy, hr⟩ := hcs.cons_inv
    obtain rfl := hr.nil_inv
    obtain ⟨t, rfl, ht⟩ := hy.ptexts_inv
    exact ⟨t, rfl, ht⟩
  exact price_at (A := A.map (mkEl false)) ⟨hX, by omega, fun i h => hb5 _ (List.getElem_mem h), by omega, hr⟩ (by rw [List.length_map]; omega) (by omega) hq

end Rf
end
