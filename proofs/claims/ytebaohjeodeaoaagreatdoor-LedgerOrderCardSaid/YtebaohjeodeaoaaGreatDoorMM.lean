/- Texts of this work put together: Ps3, Ps4, Ps5, Ps6. -/
import Derived.Test.YtebaohjeodeaoaaGreatDoorML
import Derived.Test.YtebaohjeodeaoaaGreatDoorMK

section
/- Ledger.Post: what stands at each round of the range. -/
set_option linter.unusedSimpArgs false
set_option linter.unusedVariables false
set_option maxHeartbeats 2000000
namespace Rf
open Go Go.RowKit Go.Proofs

abbrev mK : ObK := .m false [.str] zz

/-- how a ledger lies -/
structure LedRep (w : World) (S : Nat → Prop) (T : List Tok) (V1 : List Value) (L1 : List FV) (g g2 : Gh) (ty : TypeId) (es : List FV) (clk k : Int) (G : GA) : Prop where
  nil : g.nil = false
  blk : w.heap[g.blk]? = some (.cells #[.map (some g2.blk), .int .i64 k] ty (0, 0))
  n2 : g2.nil = false
  m2 : MRep w S g2 false [.str] zz es clk
  rest : TRep w S T V1 L1 [(g, (none, some (.n 2))), (g2, (none, some mK))] G

theorem led_rep {w : World} {S : Nat → Prop} {T : List Tok} {V : List Value} {L : List FV} {G : GA} (h : TRep w S (ledT ++ T) V L [] G) :
    ∃ g g2 ty es clk k V1 L1, V = .pointer (some ⟨g.blk, 0, none⟩) :: V1 ∧ L = [.list 3 es, .int .i64 clk, .int .i64 k] ++ L1 ∧ LedRep w S T V1 L1 g g2 ty es clk k G := by
  obtain ⟨g, vals, e, V', rfl, hn, hb, hs, h⟩ := h
  obtain ⟨g2, es, clk, V0, L0, hV0, rfl, n2, m2, h⟩ := h
  obtain ⟨v, V1, x, L1, hV1, rfl, hl, hf, h⟩ := h
  obtain ⟨l⟩ := vals
  simp only [List.size_toArray] at hs
  obtain ⟨x0, l, rfl⟩ : ∃ x0 l', l = x0 :: l' := by cases l with | nil => simp at hs | cons x l => exact ⟨_, _, rfl⟩
  obtain ⟨x1, l, rfl⟩ : ∃ x0 l', l = x0 :: l' := by cases l with | nil => simp at hs | cons x l => exact ⟨_, _, rfl⟩
  obtain rfl : l = [] := by simpa using hs
  subst hV1
  simp only [List.cons_append, List.nil_append, List.cons.injEq] at hV0
  obtain ⟨rfl, rfl, rfl⟩ := hV0
  cases x with
  | int kk k =>
    obtain rfl : IntKind.i64 = kk := hl
    cases hf
    exact ⟨g, g2, e, es, clk, k, V', L1, rfl, rfl, hn, hb, n2, m2, h⟩
  | _ => cases hl

theorem led_back {w : World} {S : Nat → Prop} {U : List Tok} {V2 : List Value} {L2 : List FV} {g g2 : Gh} {ty : TypeId} {es : List FV} {clk k : Int} {G : GA} (h : LedRep w S U V2 L2 g g2 ty es clk k G) :
    TRep w S (ledT ++ U) (.pointer (some ⟨g.blk, 0, none⟩) :: V2) ([.list 3 es, .int .i64 clk, .int .i64 k] ++ L2) [] G :=
  ⟨g, #[.map (some g2.blk), .int .i64 k], ty, V2, rfl, h.nil, h.blk, rfl, g2, es, clk, _, _, rfl, rfl, h.n2, h.m2, _, _, _, _, rfl, rfl, rfl, .int _ _, h.rest⟩

theorem pow_mono (a b : Nat) (h : a ≤ b) : 2 ^ a ≤ 2 ^ b := Nat.pow_le_pow_right (by omega) h

theorem lsz_le {l : LS} {M : Nat} (h : Lim l M) : lsz l ≤ l.length * M := by
  induction l with
  | nil => simp [lsz]
  | cons p r ih =>
    have h1 := h p (by simp)
    have h2 := ih fun q hq => h q (by simp [hq])
    simp only [lsz, List.map_cons, List.foldr_cons, List.length_cons] at h2 ⊢
    rw [Nat.add_mul]
    omega

theorem rdE_lim {K : Nat} : ∀ {l : EL} {q : LS}, EBd l K → rdE l = .inr q → q.length = l.length ∧ Lim q (2 ^ K)
  | [], q, _, h => by simp only [rdE, Sum.inr.injEq] at h; subst h; exact ⟨rfl, fun p hp => by simp at hp⟩
  | (a, c) :: r, q, hb, h => by
    simp only [rdE] at h
    split at h
    case isFalse => cases h
    cases hz : pz c.data.toList with
    | none => rw [hz] at h; cases h
    | some z =>
      rw [hz] at h
      simp only at h
      cases hr : rdE r with
      | inl e => rw [hr] at h; cases h
      | inr q' =>
        rw [hr] at h
        simp only [Sum.inr.injEq] at h
        subst h
        obtain ⟨h1, h2⟩ := rdE_lim (fun p hp => hb p (by simp [hp])) hr
        refine ⟨by simp [h1], fun p hp => ?_⟩
        rcases List.mem_cons.1 hp with rfl | hp
        · exact Nat.le_of_lt ((hb (a, c) (by simp)).2.2 z hz)
        · exact h2 p hp

theorem dpost_lim {q : LS} {M : Nat} (h : Lim q M) : Lim (dpost q) (q.length * M) ∧ (dpost q).length ≤ q.length := by
  have key : ∀ (l D : LS) (b : Nat), Lim D b → Lim l M → Lim (l.foldl (fun D p => dadd D p.1 p.2) D) (b + l.length * M) ∧ (l.foldl (fun D p => dadd D p.1 p.2) D).length ≤ D.length + l.length := by
    intro l
    induction l with
    | nil => intro D b hD _; exact ⟨by simpa using hD, by simp⟩
    | cons p l ih =>
      intro D b hD hl
      have hp := hl p (by simp)
      have hlen : ∀ (D : LS), (dadd D p.1 p.2).length ≤ D.length + 1 := by
        intro D
        induction D with
        | nil => simp [dadd]
        | cons x D ih => unfold dadd; split <;> simp <;> omega
      obtain ⟨h1, h2⟩ := ih (dadd D p.1 p.2) (b + p.2.natAbs) (lim_dadd hD) fun x hx => hl x (by simp [hx])
      have := hlen D
      exact ⟨h1.mono (by rw [List.length_cons, Nat.add_mul]; omega), by rw [List.foldl_cons, List.length_cons]; omega⟩
  have := key q [] 0 (fun p hp => by simp at hp) h
  simpa [dpost] using this

/-- what stands at a round -/
structure PJ (w1 : World) (S1 : Nat → Prop) (gB b2 : Nat) (k : Int) (S0 : LS) (E : TS) (es : Array MapEntry) (seen : Array Nat) (wr : World) (Sr : Nat → Prop) (gc : Gh) (est : List FV) (c : Nat) (d : TS) (ty : TypeId) : Prop where
  mon : ∀ b, S1 b → Sr b
  bnd : ∀ b, Sr b → b < wr.heap.size
  frm : ∀ b, Sr b → S1 b ∨ b = b2 ∨ w1.heap.size < b
  siz : w1.heap.size < wr.heap.size
  old : ∀ b, b < w1.heap.size → b ≠ gB → b ≠ b2 → wr.heap[b]? = w1.heap[b]?
  os : wr.os = w1.os
  tape : wr.tape = w1.tape
  output : wr.output = w1.output
  blk : wr.heap[gB]? = some (.cells #[.map (some gc.blk), .int .i64 k] ty (0, 0))
  gnil : gc.nil = false
  glt : gc.blk < wr.heap.size
  gS : ¬ Sr gc.blk
  gold : gc.blk = b2 ∨ w1.heap.size < gc.blk
  gBS : ¬ Sr gB
  map : MRep wr Sr gc false [.str] zz est (c : Int)
  acc : Acc est (lpost S0 (bare d))
  din : ∀ t, t ∈ d → t ∈ E
  db : d.map (·.2.2) = seen.toList.map fun (n : Nat) => (n : Int)
  nd : seen.toList.Nodup
  len : d.length + (leftOf es seen).size ≤ E.length

theorem PJ.grown {w1 : World} {S1 : Nat → Prop} {gB b2 : Nat} {k : Int} {S0 : LS} {E : TS} {es : Array MapEntry} {seen : Array Nat} {wr : World} {Sr : Nat → Prop} {gc : Gh} {est : List FV} {c : Nat} {d : TS} {ty : TypeId}
    (h : PJ w1 S1 gB b2 k S0 E es seen wr Sr gc est c d ty) {w2 : World} (hg : wr.grownBy w2 (some w1.heap.size)) (h1 : gB < w1.heap.size) (h2 : b2 < w1.heap.size) (hS1 : ∀ b, S1 b → b < w1.heap.size) : PJ w1 S1 gB b2 k S0 E es seen w2 Sr gc est c d ty := by
  have hblk : ∀ b, b < wr.heap.size → b ≠ w1.heap.size → w2.heap[b]? = wr.heap[b]? := fun b hb hne => hg.block b hb (by simpa using hne)
  have hSr : ∀ b, Sr b → b ≠ w1.heap.size := fun b hb e => by
    rcases h.frm b hb with q | q | q
    · have := hS1 b q; omega
    · omega
    · omega
  have hgc : gc.blk ≠ w1.heap.size := by rcases h.gold with q | q <;> omega
  exact { h with
    bnd := fun b hb => Nat.lt_of_lt_of_le (h.bnd b hb) hg.size
    siz := Nat.lt_of_lt_of_le h.siz hg.size
    old := fun b hb q1 q2 => (hblk b (Nat.lt_trans hb h.siz) (by omega)).trans (h.old b hb q1 q2)
    os := hg.os.trans h.os
    tape := hg.tape.trans h.tape
    output := hg.output.trans h.output
    blk := (hblk gB (Nat.lt_trans h1 h.siz) (by omega)).trans h.blk
    glt := Nat.lt_of_lt_of_le h.glt hg.size
    map := h.map.mono (fun b hb => hblk b (h.bnd b hb) (hSr b hb)) (fun _ q => q) (hblk _ h.glt hgc) }

theorem PJ.lim {w1 : World} {S1 : Nat → Prop} {gB b2 : Nat} {k : Int} {S0 : LS} {E : TS} {es : Array MapEntry} {seen : Array Nat} {wr : World} {Sr : Nat → Prop} {gc : Gh} {est : List FV} {c : Nat} {d : TS} {ty : TypeId}
    (h : PJ w1 S1 gB b2 k S0 E es seen wr Sr gc est c d ty) {K P0 : Nat} (hP : P0 ≤ 2 ^ K) (h0 : Lim S0 P0) (hE : Lim (bare E) (64 * 2 ^ K)) (hl : E.length ≤ 64) (q : LK) : (lget (lpost S0 (bare d)) q).natAbs < 2 ^ (K + 13) := by
  have h1 : Lim (bare d) (64 * 2 ^ K) := fun p hp => by
    obtain ⟨t, ht, rfl⟩ := List.mem_map.1 hp
    exact hE _ (List.mem_map.2 ⟨t, h.din t ht, rfl⟩)
  have h2 := lget_lim (h0.post (l := bare d)) q
  have h3 := lsz_le h1
  have h4 : (bare d).length ≤ 64 := by have := h.len; simp [bare]; omega
  have h6 : (bare d).length * (64 * 2 ^ K) ≤ 64 * (64 * 2 ^ K) := Nat.mul_le_mul_right _ h4
  have h7 : (2 : Nat) ^ (K + 13) = 2 ^ K * 8192 := Nat.pow_add ..
  have h8 : 0 < 2 ^ K := Nat.two_pow_pos K
  rw [h7]
  generalize (2 : Nat) ^ K = P at *
  omega

end Rf
end

section
/- Ledger.Post: a round of the range. -/
set_option linter.unusedSimpArgs false
set_option linter.unusedVariables false
set_option maxHeartbeats 2000000
namespace Rf
open Go Go.RowKit Go.Proofs

theorem zN_parts {w : World} {S : Nat → Prop} {z : Int} {p : Option Addr} {k c : Nat} {b : Bool} (h : FRep w S (zN z) (.agg #[.slice p k c, .bool b])) : FRep w S (zl z) (.slice p k c) ∧ b = decide (z < 0) := by
  cases h with
  | agg cs vs hs hc =>
    have h0 := hc 0 _ rfl
    have h1 := hc 1 _ rfl
    refine ⟨h0, ?_⟩
    cases h1
    rfl

theorem zN_val {w : World} {S : Nat → Prop} {z : Int} {v : Value} (h : FRep w S (zN z) v) : ∃ p k c, v = .agg #[.slice p k c, .bool (decide (z < 0))] := by
  cases h with
  | agg cs vs hs hc =>
    have h0 := hc 0 _ rfl
    have h1 := hc 1 _ rfl
    obtain ⟨l⟩ := vs
    simp only [List.size_toArray, List.length_cons, List.length_nil] at hs
    obtain ⟨x0, l, rfl⟩ : ∃ x0 l', l = x0 :: l' := by cases l with | nil => simp at hs | cons x l => exact ⟨_, _, rfl⟩
    obtain ⟨x1, l, rfl⟩ : ∃ x0 l', l = x0 :: l' := by cases l with | nil => simp at hs | cons x l => exact ⟨_, _, rfl⟩
    obtain rfl : l = [] := by simpa using hs
    simp at h0 h1
    cases h1
    obtain ⟨a, cap, b, o, rfl, _⟩ := FRep.list_iff.1 h0
    exact ⟨_, _, _, rfl⟩

theorem inj3 {a b c : Gh × Sh} (hab : a.1.blk ≠ b.1.blk) (hac : a.1.blk ≠ c.1.blk) (hbc : b.1.blk ≠ c.1.blk) {i j : Nat} {g g' : Gh} {sh sh' : Sh} (hi : [a, b, c][i]? = some (g, sh)) (hj : [a, b, c][j]? = some (g', sh')) (he : g.blk = g'.blk) : i = j := by
  rcases i with _ | _ | _ | i <;> rcases j with _ | _ | _ | j <;> simp at hi hj <;> first
    | rfl
    | (subst hi; subst hj; simp only at hab hac hbc; omega)

set_option maxRecDepth 10000 in
theorem post_round {w1 : World} {S1 : Nat → Prop} {gB b2 : Nat} {k : Int} {S0 : LS} {E : TS} {es : Array MapEntry} {seen : Array Nat} {w2 : World} {Sr : Nat → Prop} {gc : Gh} {est : List FV} {c0 : Nat} {d : TS} {ty : TypeId}
    (h : PJ w1 S1 gB b2 k S0 E es seen w2 Sr gc est c0 d ty) (hA : Asc S0) {K P0 : Nat} (hP : P0 ≤ 2 ^ K) (hK2 : K + 20 ≤ 1000000000) (hL0 : Lim S0 P0) (hLE : Lim (bare E) (64 * 2 ^ K)) (hEl : E.length ≤ 64)
    (hS1 : ∀ b, S1 b → b < w1.heap.size) (htab : Tabs w1 S1) (hgB : gB < w1.heap.size) (hb2 : b2 < w1.heap.size) (hne : gB ≠ b2) (hgS : ¬ S1 gB) (hbS : ¬ S1 b2)
    {t : LK × Int × Int} (htE : t ∈ E) {e : MapEntry} (he : e ∈ (leftOf es seen).toList) (hborn : t.2.2 = (e.born : Int)) {p : Option Addr} {kk cc : Nat} {b : Bool} (hval : FRep w1 S1 (zN t.2.1) (.agg #[.slice p kk cc, .bool b]))
    (a0 : Act) (h44 : a0.tmps.size = 44) (hdf : a0.defers = []) (h00 : a0.tmps.getD 0 undef = .pointer (some ⟨gB, 0, none⟩)) (h07 : a0.tmps.getD 7 undef = .string (txt t.1)) (h08 : a0.tmps.getD 8 undef = .pointer (some ⟨w2.heap.size, 0, none⟩))
    (Q7 : Exit → Act → World → Prop)
    (hQ : ∀ a' w', a'.tmps.size = 44 → a'.defers = [] → (∀ t, t < 24 ∨ (36 < t ∧ t < 44) → a'.tmps.getD t undef = a0.tmps.getD t undef) → (∀ b, b < w2.heap.size → b ≠ gB → b ≠ gc.blk → w'.heap[b]? = w2.heap[b]?) →
      (∃ Sr' gc' est' c' d' ty', PJ w1 S1 gB b2 k S0 E es (seen.push e.born) w' Sr' gc' est' c' d' ty') → Q7 .normal a' w') :
    pR7.wp Tryz.prog Q7 a0 (w2.alloc (.cells #[.slice p kk cc, .bool b] 94)) := by
  obtain ⟨w3, hw3⟩ : ∃ w3, w2.alloc (.cells #[.slice p kk cc, .bool b] 94) = w3 := ⟨_, rfl⟩
  have hsz3 : w3.heap.size = w2.heap.size + 1 := by rw [← hw3]; simp
  have hB3 : ∀ x, x < w2.heap.size → w3.heap[x]? = w2.heap[x]? := fun x hx => by rw [← hw3]; exact Below.heap_alloc w2 _ x hx
  have hn3 : w3.heap[w2.heap.size]? = some (.cells #[.slice p kk cc, .bool b] 94 (0, 0)) := by rw [← hw3]; exact World.alloc_heap_new w2 _
  have hos3 : w3.os = w2.os ∧ w3.tape = w2.tape ∧ w3.output = w2.output := by rw [← hw3]; exact ⟨rfl, rfl, rfl⟩
  rw [hw3]
  clear hw3
  have hgBw : gB < w2.heap.size := Nat.lt_trans hgB h.siz
  have hS13 : ∀ x, S1 x → w3.heap[x]? = w1.heap[x]? := fun x hx => by
    have := hS1 x hx
    exact (hB3 x (Nat.lt_trans this h.siz)).trans (h.old x this (fun q => hgS (q ▸ hx)) (fun q => hbS (q ▸ hx)))
  have hval3 := hval.mono hS13 h.mon
  obtain ⟨hz0, rfl⟩ := zN_parts hval3
  have hmap3 : MRep w3 Sr gc false [.str] zz est (c0 : Int) := h.map.mono (fun x hx => hB3 x (h.bnd x hx)) (fun _ q => q) (hB3 _ h.glt)
  have hgc_ne : gB ≠ gc.blk := by rcases h.gold with q | q <;> omega
  let gg : Gh := ⟨gB, 0, 0, false⟩
  let g8 : Gh := ⟨w2.heap.size, 0, 0, false⟩
  let G7 : GA := [(gg, (none, some (.n 2))), (gc, (none, some mK)), (g8, (none, some (.n 2)))]
  have hT : TRep w3 Sr rndT [.pointer (some ⟨gB, 0, none⟩), .string (txt t.1), .pointer (some ⟨w2.heap.size, 0, none⟩)] [.list 3 est, .int .i64 (c0 : Int), .int .i64 k, .str (txt t.1), zl t.2.1, zb t.2.1] [] G7 :=
    ⟨gg, #[.map (some gc.blk), .int .i64 k], ty, _, rfl, rfl, (hB3 gB hgBw).trans h.blk, rfl, gc, est, (c0 : Int), _, _, rfl, rfl, h.gnil, hmap3, _, _, _, _, rfl, rfl, rfl, .int _ _, _, _, _, _, rfl, rfl, trivial, .str _,
      g8, #[.slice p kk cc, .bool (decide (t.2.1 < 0))], 94, _, rfl, rfl, hn3, rfl, _, _, _, _, rfl, rfl, rfl, hz0, _, _, _, _, rfl, rfl, trivial, .bool _, rfl, rfl, rfl⟩
  have hgiv : ∀ x, Given G7 x ↔ x = gB ∨ x = gc.blk ∨ x = w2.heap.size := fun x => by
    constructor
    · rintro ⟨i, g, sh, hi, hn, rfl⟩
      match i, hi with
      | 0, hi => simp [G7] at hi; obtain ⟨rfl, _⟩ := hi; exact .inl rfl
      | 1, hi => simp [G7] at hi; obtain ⟨rfl, _⟩ := hi; exact .inr (.inl rfl)
      | 2, hi => simp [G7] at hi; obtain ⟨rfl, _⟩ := hi; exact .inr (.inr rfl)
      | n + 3, hi => simp [G7] at hi
    · rintro (rfl | rfl | rfl)
      · exact ⟨0, gg, _, rfl, rfl, rfl⟩
      · exact ⟨1, gc, _, rfl, h.gnil, rfl⟩
      · exact ⟨2, g8, _, rfl, rfl, rfl⟩
  have h8S : ¬ Sr w2.heap.size := fun q => Nat.lt_irrefl _ (h.bnd _ q)
  have hgivS : ∀ x, Given G7 x → x < w3.heap.size ∧ ¬ Sr x := fun x hx => by
    rcases (hgiv x).1 hx with rfl | rfl | rfl
    · exact ⟨by omega, h.gBS⟩
    · exact ⟨by have := h.glt; omega, h.gS⟩
    · exact ⟨by omega, h8S⟩
  have htab3 : Tabs w3 Sr := fun g cs hg => by
    obtain ⟨q1, e', ty', q2⟩ := htab g cs hg
    exact ⟨h.mon g q1, e', ty', (hS13 g q1).trans q2⟩
  let C : Cx := ⟨w3, Sr, Given G7, 44, fun t => if t < 24 ∨ (36 < t ∧ t < 44) then some (a0.tmps.getD t undef) else none⟩
  have hk : Keep C w3 Sr := ⟨Nat.le_refl _, fun _ _ _ => rfl, rfl, rfl, rfl, fun x hx => by have := h.bnd x hx; omega, fun _ q => q, fun _ q => .inl q, ⟨htab3, fun x hx => (hgivS x hx).2⟩⟩
  have hgo : GOk C w3 Sr G7 := by
    refine ⟨fun i g sh hi hn => ?_, fun i j g g' sh sh' hi hj hn hn' he' => ?_⟩
    · have hg : Given G7 g.blk := ⟨i, g, sh, hi, hn, rfl⟩
      exact ⟨(hgivS _ hg).1, (hgivS _ hg).2, .inl hg⟩
    · have hlt := h.glt
      exact inj3 (a := (gg, (none, some (.n 2)))) (b := (gc, (none, some mK))) (c := (g8, (none, some (.n 2)))) hgc_ne (show gB ≠ w2.heap.size by omega) (show gc.blk ≠ w2.heap.size by omega) hi hj he'
  have hbt : t.2.1.natAbs < 2 ^ (K + 13) := by
    have h1 := hLE _ (List.mem_map.2 ⟨t, htE, rfl⟩)
    simp only at h1
    have h7 : (2 : Nat) ^ (K + 13) = 2 ^ K * 8192 := Nat.pow_add ..
    have h8 : 0 < 2 ^ K := Nat.two_pow_pos K
    rw [h7]
    omega
  have hev : evC EnB (evF EnB 2) [] 2 pR7 (kMid [0] ledT) (memOf [0, 7, 8] rndT [.list 3 est, .int .i64 (c0 : Int), .int .i64 k, .str (txt t.1), zl t.2.1, zb t.2.1]) =
      some [.list 3 (mput est (sK t.1) (zN (lget (lpost S0 (bare d)) t.1 + t.2.1)) (c0 : Int)), .int .i64 (mclk est (sK t.1) (c0 : Int)), .int .i64 k] := by
    rw [r7_ev, show zz = zN 0 from zN_zero.symm, h.acc.get, zN_eq]
    simp only [at_one, FV.cells, List.getElem?_cons_zero, List.getElem?_cons_succ, asLst_list, asBool_bool, Option.bind_some]
    rw [eB_add (k := K + 13) (by omega) (h.lim hP hL0 hLE hEl t.1) hbt, Option.bind_some]
    simp only [List.getElem?_cons_zero, List.getElem?_cons_succ, asLst_list, asBool_bool, Option.bind_some]
    rw [show decide (0 ≤ (c0 : Int)) = true from decide_eq_true (by omega), cond_true]
    rfl
  refine mid_ok (E := EnB) envOkB (evF_ok envOkB extB_ok 2) (C := C) (an := []) (nt := 44) (n := 2) (pins := (List.range 24) ++ [37, 38, 39, 40, 41, 42, 43]) (ts := [0, 7, 8]) (ts' := [0]) (nm := namesFrom 1000 3) (T := rndT) (T' := ledT)
    (V := [.pointer (some ⟨gB, 0, none⟩), .string (txt t.1), .pointer (some ⟨w2.heap.size, 0, none⟩)]) (L := [.list 3 est, .int .i64 (c0 : Int), .int .i64 k, .str (txt t.1), zl t.2.1, zb t.2.1])
    pR7_ok (Nat.le_refl _) h44 hdf (fun x hx => ?_) (fun x v hx => ?_) hk hT rfl rfl (namesFrom_inj 1000 3) hgo (.cons h00 (.cons h07 (.cons h08 .nil))) hev ?_
  · refine if_neg fun q => hx ?_
    rw [List.mem_append, List.mem_range]
    rcases q with q | ⟨q1, q2⟩
    · exact .inl q
    · right
      have : x = 37 ∨ x = 38 ∨ x = 39 ∨ x = 40 ∨ x = 41 ∨ x = 42 ∨ x = 43 := by omega
      simpa using this
  · simp only [C] at hx
    split at hx
    · cases hx; rfl
    · cases hx
  · intro a' w' S' G' q1 q2 q3 q4 q5 q6
    have hpin : ∀ t, t < 24 ∨ (36 < t ∧ t < 44) → a'.tmps.getD t undef = a0.tmps.getD t undef := fun x hx => q3 x _ (if_pos hx)
    have hold : ∀ x, x < w2.heap.size → x ≠ gB → x ≠ gc.blk → w'.heap[x]? = w2.heap[x]? := fun x hx y1 y2 =>
      (q5.block x (show x < w3.heap.size by omega) fun hg => by rcases (hgiv x).1 hg with q | q | q <;> omega).trans (hB3 x hx)
    refine hQ a' w' q1 q2 hpin hold ?_
    obtain ⟨g', gc', ty', es', clk', k', V1, L1, hV, hL, hR⟩ := led_rep (T := []) q4
    obtain ⟨rfl, rfl, rfl⟩ := hR.rest
    simp only [List.cons_append, List.nil_append, List.cons.injEq, FV.list.injEq, FV.int.injEq, true_and, and_true] at hL
    obtain ⟨rfl, rfl, rfl⟩ := hL
    simp only [List.map_cons, List.map_nil, List.cons.injEq, and_true] at hV
    rw [hpin 0 (by omega), h00] at hV
    simp only [Value.pointer.injEq, Option.some.injEq, Addr.mk.injEq, and_true] at hV
    subst hV
    have hclk : 0 ≤ mclk est (sK t.1) (c0 : Int) := mclk_nn (by omega)
    obtain ⟨c', hc'⟩ : ∃ c' : Nat, mclk est (sK t.1) (c0 : Int) = (c' : Int) := ⟨_, (Int.toNat_of_nonneg hclk).symm⟩
    have o0 := q6.own 0 g' _ rfl hR.nil
    have o1 := q6.own 1 gc' _ rfl hR.n2
    have hinj : g'.blk ≠ gc'.blk := fun e' => absurd (q6.inj 0 1 g' gc' _ _ rfl rfl hR.nil hR.n2 e') (by omega)
    have hsb := (leftOf es seen)
    have hmem := mem_left he
    have hshr := left_shrinks es seen e he
    have h1s := h.siz
    refine ⟨S', gc', mput est (sK t.1) (zN (lget (lpost S0 (bare d)) t.1 + t.2.1)) (c0 : Int), c', d ++ [t], ty', ?_⟩
    exact {
      mon := fun x hx => q5.smon x (h.mon x hx)
      bnd := q5.bound
      frm := fun x hx => by
        rcases q5.sfrom x hx with y | y | y
        · exact h.frm x y
        · rcases (hgiv x).1 y with rfl | rfl | rfl
          · exact absurd hx o0.2.1
          · rcases h.gold with z | z
            · exact .inr (.inl z)
            · exact .inr (.inr z)
          · exact .inr (.inr h.siz)
        · have : w3.heap.size ≤ x := y
          omega
      siz := by have : w3.heap.size ≤ w'.heap.size := q5.size
                omega
      old := fun x hx y1 y2 => by
        have hx2 : x < w2.heap.size := by omega
        refine (hold x hx2 y1 fun q => ?_).trans (h.old x hx y1 y2)
        rcases h.gold with z | z <;> omega
      os := q5.os.trans (hos3.1.trans h.os)
      tape := q5.tape.trans (hos3.2.1.trans h.tape)
      output := q5.output.trans (hos3.2.2.trans h.output)
      blk := hR.blk
      gnil := hR.n2
      glt := o1.1
      gS := o1.2.1
      gold := by
        rcases o1.2.2 with y | y
        · rcases (hgiv _).1 y with z | z | z
          · exact absurd z.symm hinj
          · rw [z]; exact h.gold
          · rw [z]; exact .inr h.siz
        · have : w3.heap.size ≤ gc'.blk := y
          omega
      gBS := o0.2.1
      map := by rw [← hc']; exact hR.m2
      acc := by
        have := h.acc.put (asc_post (l := bare d) hA) t.1 t.2.1 (c0 : Int)
        rw [show bare (d ++ [t]) = bare d ++ [(t.1, t.2.1)] by simp [bare], lpost_app]
        exact this
      din := fun x hx => by
        rcases List.mem_append.1 hx with y | y
        · exact h.din x y
        · rw [List.mem_singleton.1 y]; exact htE
      db := by rw [List.map_append, h.db, Array.toList_push, List.map_append, List.map_cons, List.map_nil, List.map_cons, List.map_nil, hborn]
      nd := by
        rw [Array.toList_push, List.nodup_append]
        refine ⟨h.nd, by simp, fun x hx y hy e' => ?_⟩
        simp only [List.mem_singleton] at hy
        subst hy; subst e'
        have := hmem.2
        simp at this
        exact this (by simpa using hx)
      len := by
        have := h.len
        rw [List.length_append, List.length_singleton]
        omega }

end Rf
end

section
/- Ledger.Post: its contract holds. -/
set_option linter.unusedSimpArgs false
set_option linter.unusedVariables false
set_option maxHeartbeats 4000000
namespace Rf
open Go Go.RowKit Go.Proofs

theorem rdE_ne {l : EL} {e : Int} (h : rdE l = .inl e) : e ≠ 0 := by
  induction l generalizing e with
  | nil => simp [rdE] at h
  | cons p r ih =>
    obtain ⟨a, c⟩ := p
    simp only [rdE] at h
    split at h
    · cases hz : pz c.data.toList with
      | none => rw [hz] at h; simp only [Sum.inl.injEq] at h; omega
      | some z =>
        rw [hz] at h
        simp only at h
        cases hr : rdE r with
        | inl e' => rw [hr] at h; simp only [Sum.inl.injEq] at h; subst h; exact ih hr
        | inr q => rw [hr] at h; cases h
    · simp only [Sum.inl.injEq] at h; omega

theorem rdL_ne {l : EL} {e : Int} (h : rdL l = .inl e) : e ≠ 0 := by
  unfold rdL at h
  split at h
  · simp only [Sum.inl.injEq] at h; omega
  split at h
  · simp only [Sum.inl.injEq] at h; omega
  cases hr : rdE l with
  | inl e' => rw [hr] at h; simp only [Sum.inl.injEq] at h; subst h; exact rdE_ne hr
  | inr q =>
    rw [hr] at h
    simp only at h
    split at h
    · cases h
    · simp only [Sum.inl.injEq] at h; omega

theorem rdL_inr {l : EL} {q : LS} (h : rdL l = .inr q) : rdE l = .inr q ∧ l.length ≤ 64 ∧ lsum q = 0 := by
  unfold rdL at h
  split at h
  · cases h
  split at h
  · cases h
  rename_i h1
  cases hr : rdE l with
  | inl e => rw [hr] at h; cases h
  | inr d =>
    rw [hr] at h
    simp only at h
    split at h
    · rename_i h2; cases h; exact ⟨rfl, Nat.not_lt.1 h1, h2⟩
    · cases h

theorem small_bd' {l : EL} {K : Nat} (hK : 4 * 1048576 ≤ K) (h : smallE l = true) : EBd l K := fun p hp => by
  have := List.all_eq_true.1 h p hp
  simp only [Bool.and_eq_true, decide_eq_true_eq] at this
  refine ⟨this.1, this.2, fun z hz => ?_⟩
  have h1 := pz_lt hz
  rw [dsize] at h1
  exact Nat.lt_of_lt_of_le h1 (pow_mono (4 * p.2.size) K (by omega))
theorem small_bd {l : EL} (h : smallE l = true) : EBd l 4194304 := small_bd' (by omega) h

theorem readI_A : EnA.fn 66 = some ⟨[.lst 2], [.skip, .skip, .int .i64], ((fnT 66).getD ⟨[], [], []⟩).ann⟩ := by kernel_rfl
theorem readI_B : EnB.fn 66 = some ⟨[.lst 2], [.skip, .mapt false [.str] zz, .int .i64], ((fnT 66).getD ⟨[], [], []⟩).ann⟩ := by kernel_rfl

/-- a transaction that may not be -/
theorem read_bad {w : World} {S : Nat → Prop} {v : Value} {l : EL} {e : Int} (hS : ∀ b, S b → b < w.heap.size) (hTb : Tabs w S) (hv : FRep w S (.list 2 (l.map enF)) v) (hb : EBd l 4194304) (h : rdL l = .inl e) :
    Calls Tryz.prog 66 #[v] w fun r w1 => ∃ x, r = .returned (.tuple #[x, .int .i64 e]) ∧ Below w.heap.size w w1 := by
  have hrun := read_run (n := 66) (K := 4194304) (by omega) hb (Nat.le_refl _)
  rw [show rdC l = e by unfold rdC; rw [h]] at hrun
  obtain ⟨_, hsp⟩ := evF_ok (E := EnA) envOkA extA_ok 67 _ _ _ _ readI_A hrun
  refine (hsp w S [v] [] hS hTb ⟨_, [], _, [], rfl, rfl, rfl, hv, rfl, rfl, rfl⟩ gok_nil).mono ?_
  rintro r w1 ⟨S1, fin, R, rfl, hT, hk, _⟩
  obtain ⟨v0, V0, hV0, x, V1, hV1, u, V2, y, L2, hV2, hL2, hl, hf, hV3, hL3, _⟩ := hT
  subst hV3 hL3
  simp only [List.cons.injEq, and_true] at hL2
  subst hL2
  cases hf
  simp only [List.cons_append, List.nil_append, List.cons.injEq] at hV0
  obtain ⟨_, rfl⟩ := hV0
  subst hV2
  subst hV1
  exact ⟨x, rfl, hk.os, hk.tape, hk.output, hk.size, fun b hb' => hk.block b hb' (fun hg => by obtain ⟨i, g, sh, hi, _⟩ := hg; simp at hi)⟩

/-- a transaction that may be -/
theorem read_good {w : World} {S : Nat → Prop} {v : Value} {l : EL} {q : LS} (hS : ∀ b, S b → b < w.heap.size) (hTb : Tabs w S) (hv : FRep w S (.list 2 (l.map enF)) v) (hb : EBd l 4194304) (h : rdL l = .inr q) :
    Calls Tryz.prog 66 #[v] w fun r w1 => ∃ (S1 : Nat → Prop) (bc : Nat) (E : TS) (arr : Array MapEntry) (c : Nat), r = .returned (.tuple #[.map (some bc), .int .i64 0]) ∧ bare E = dpost q ∧ w1.heap[bc]? = some (.map arr c) ∧ MapKept.Stamped arr c ∧ All2 (ERep w1 S1 false [.str] zz) (E.map ent) arr.toList ∧
      Below w.heap.size w w1 ∧ (∀ b, S b → S1 b) ∧ (∀ b, S1 b → b < w1.heap.size) ∧ (∀ b, S1 b → S b ∨ w.heap.size ≤ b) ∧ Tabs w1 S1 ∧ w.heap.size ≤ bc := by
  obtain ⟨E, c', hrun, hE, hc⟩ := readB_run (n := 66) (K := 4194304) (by omega) hb (Nat.le_refl _) h
  obtain ⟨_, hsp⟩ := evF_ok (E := EnB) envOkB extB_ok 67 _ _ _ _ readI_B hrun
  refine (hsp w S [v] [] hS hTb ⟨_, [], _, [], rfl, rfl, rfl, hv, rfl, rfl, rfl⟩ gok_nil).mono ?_
  rintro r w1 ⟨S1, fin, R, rfl, hT, hk, hg⟩
  obtain ⟨v0, V0, hV0, gc, es, clk, V1, L1, hV1, hL1, hn, hm, u, V2, y, L2, hV2, hL2, hl, hf, hV3, hL3, hfin⟩ := hT
  subst hV3 hL3
  simp only [List.cons.injEq, FV.list.injEq, FV.int.injEq, true_and, and_true] at hL1
  obtain ⟨rfl, rfl, rfl⟩ := hL1
  simp only [List.cons.injEq, and_true] at hL2
  subst hL2
  cases hf
  simp only [List.cons_append, List.nil_append, List.cons.injEq] at hV0
  obtain ⟨_, rfl⟩ := hV0
  subst hV2
  subst hV1
  subst hfin
  obtain ⟨es0, arr, c, hbk, hlike, hst, hz, hall⟩ := hm
  obtain ⟨_, rfl⟩ := hlike.exact hc
  have ngiv : ∀ b, ¬ Given [] b := fun b hg => by obtain ⟨i, g, sh, hi, _⟩ := hg; simp at hi
  have o := hg.own 0 gc _ rfl hn
  exact ⟨S1, gc.blk, E, arr, c, rfl, hE, hbk, hst, hall, ⟨hk.os, hk.tape, hk.output, hk.size, fun b hb' => hk.block b hb' (ngiv b)⟩, hk.smon, hk.bound, fun b hb' => (hk.sfrom b hb').imp id fun h => h.elim (fun h => absurd h (ngiv b)) id, hk.tabs, o.2.2.elim (fun h => absurd h (ngiv _)) id⟩

end Rf
end

section
/- Ledger.Post: the whole contract. -/
set_option linter.unusedSimpArgs false
set_option linter.unusedVariables false
set_option maxHeartbeats 4000000
namespace Rf
open Go Go.RowKit Go.Proofs

/-- all that was to come has come -/
theorem all_come {w1 : World} {S1 : Nat → Prop} {E d : TS} {es : Array MapEntry} {clock : Nat} {seen : Array Nat} (hall : All2 (ERep w1 S1 false [.str] zz) (E.map ent) es.toList) (hst : MapKept.Stamped es clock)
    (h0 : (leftOf es seen).size = 0) (hd : ∀ t, t ∈ d → t ∈ E) (hb : d.map (·.2.2) = seen.toList.map fun (n : Nat) => (n : Int)) (hn : seen.toList.Nodup) : (bare d).Perm (bare E) := by
  have hborn : E.map (·.2.2) = (es.toList.map (·.born)).map fun (n : Nat) => (n : Int) := by
    have key : ∀ (E : TS) (l : List MapEntry), All2 (ERep w1 S1 false [.str] zz) (E.map ent) l → E.map (·.2.2) = (l.map (·.born)).map fun (n : Nat) => (n : Int) := by
      intro E
      induction E with
      | nil => intro l h; cases h; rfl
      | cons t E ih =>
        intro l h
        cases h with
        | cons h1 h2 =>
          obtain ⟨k, v, he, _⟩ := h1
          simp only [ent, FV.agg.injEq, List.cons.injEq, FV.int.injEq, true_and, and_true] at he
          simp only [List.map_cons, ih _ h2, he.2.2]
    exact key E es.toList hall
  have hnb : (E.map (·.2.2)).Nodup := by
    rw [hborn]
    exact (List.nodup_iff_pairwise_ne.1 ((MapKept.stamped_iff es clock).1 hst).2.1).map _ (fun a b hab e => hab (Int.ofNat.inj e)) |> List.nodup_iff_pairwise_ne.2
  have hnd : (d.map (·.2.2)).Nodup := by
    rw [hb]
    exact (List.nodup_iff_pairwise_ne.1 hn).map _ (fun a b hab e => hab (Int.ofNat.inj e)) |> List.nodup_iff_pairwise_ne.2
  have ndE : E.Nodup := (List.nodup_iff_pairwise_ne.1 hnb).of_map _ (fun a b hab e => hab (by rw [e])) |> List.nodup_iff_pairwise_ne.2
  have ndd : d.Nodup := (List.nodup_iff_pairwise_ne.1 hnd).of_map _ (fun a b hab e => hab (by rw [e])) |> List.nodup_iff_pairwise_ne.2
  have hp : d.Perm E := (List.perm_ext_iff_of_nodup ndd ndE).2 fun t => by
    refine ⟨hd t, fun ht => ?_⟩
    have h1 : t.2.2 ∈ E.map (·.2.2) := List.mem_map.2 ⟨t, ht, rfl⟩
    rw [hborn, List.map_map] at h1
    obtain ⟨x, hx, hxe⟩ := List.mem_map.1 h1
    have h2 := all_seen es seen h0 x hx
    have h3 : t.2.2 ∈ d.map (·.2.2) := by
      rw [hb]
      exact List.mem_map.2 ⟨x.born, by simpa using h2, hxe⟩
    obtain ⟨t', ht', hte⟩ := List.mem_map.1 h3
    have inj : ∀ (l : TS), (l.map (·.2.2)).Nodup → ∀ a b, a ∈ l → b ∈ l → a.2.2 = b.2.2 → a = b := by
      intro l
      induction l with
      | nil => intro _ a b ha; simp at ha
      | cons x l ih =>
        intro hn a b ha hb he
        rw [List.map_cons, List.nodup_cons] at hn
        rcases List.mem_cons.1 ha with ha' | ha' <;> rcases List.mem_cons.1 hb with hb' | hb'
        · rw [ha', hb']
        · subst ha'; exact absurd (List.mem_map.2 ⟨b, hb', he.symm⟩) hn.1
        · subst hb'; exact absurd (List.mem_map.2 ⟨a, ha', he⟩) hn.1
        · exact ih hn.2 a b ha' hb' he
    rw [← inj E hnb t' t (hd t' ht') ht hte]
    exact ht'
  exact hp.map _

theorem post_ok {L L' : List FV} (hL : postExt L = some L') : Enters Tryz.prog 22 ∧ CSpec Tryz.prog 22 postI L L' := by
  refine ⟨⟨Tryz.f22, Tryz.func22, rfl, by kernel_rfl⟩, fun w S V G hS hTb hT hgo => ?_⟩
  obtain ⟨g, g2, ty, es, clk, k, V1, L1, rfl, rfl, hR⟩ := led_rep (T := [.lst 2]) hT
  obtain ⟨v, V2, x, L2, rfl, rfl, hlf, hfr, rfl, rfl, hG⟩ := hR.rest
  cases x with
  | list s xs =>
    obtain rfl : 2 = s := hlf
    simp only [List.cons_append, List.nil_append, postExt] at hL
    split at hL
    · rename_i S0 l hso heo
      split at hL
      · rename_i hc
        obtain ⟨hsm, hl0, hk0, hk1⟩ := hc
        obtain ⟨rfl, hA⟩ := stO_some hso
        obtain rfl := enO_some heo
        have hbd := small_bd hsm
        obtain ⟨K, hKa, hKb⟩ : ∃ K, 4 * 1048576 ≤ K ∧ K + 20 ≤ 1000000000 := ⟨4194304, by omega, by omega⟩
        have hbdK : EBd l K := small_bd' hKa hsm
        have hGi : ∀ b, Given G b ↔ b = g.blk ∨ b = g2.blk := fun b => by
          rw [hG]
          constructor
          · rintro ⟨i, g', sh, hi, hn, rfl⟩
            rcases i with _ | _ | i <;> simp at hi
            · obtain ⟨rfl, _⟩ := hi; exact .inl rfl
            · obtain ⟨rfl, _⟩ := hi; exact .inr rfl
          · rintro (rfl | rfl)
            · exact ⟨0, g, _, rfl, hR.nil, rfl⟩
            · exact ⟨1, g2, _, rfl, hR.n2, rfl⟩
        have hg0 : G[0]? = some (g, (none, some (.n 2))) := by rw [hG]; rfl
        have hg1 : G[1]? = some (g2, (none, some mK)) := by rw [hG]; rfl
        have og := hgo.own 0 g _ hg0 hR.nil
        have og2 := hgo.own 1 g2 _ hg1 hR.n2
        have hne : g.blk ≠ g2.blk := fun e => absurd (hgo.inj 0 1 g g2 _ _ hg0 hg1 hR.nil hR.n2 e) (by omega)
        cases hrd : rdL l with
        | inl e =>
          rw [hrd] at hL
          cases hL
          refine (callsIn_wide (n := 6)).1 ?_
          obtain ⟨ct, hct⟩ : ∃ ct, pC [1, 1, 1] = ct := ⟨_, rfl⟩
          refine callsIn_of_wp (c := (pC [0]).seq ((pC [1, 0]).seq ((pC [1, 1, 0]).seq ct))) Tryz.func22 (by rw [← hct]; rfl) trivial ?_ rfl
          generalize hQ : bodyPost Tryz.prog Tryz.f22 _ = Q
          simp only [Tryz.ntmps22, List.size_toArray, List.length_cons, List.length_nil, Nat.reduceAdd, Nat.reduceSub, Array.replicate_succ, Array.replicate_zero, List.push_toArray, List.append_toArray, List.nil_append, List.cons_append]
          refine post_pre g.blk v w (R := fun x err w1 => err = e ∧ Below w.heap.size w w1) (callsIn_wide.2 ((read_bad hS hTb hfr hbd hrd).mono ?_)) ?_ ?_
          · rintro r w1 ⟨x, rfl, hB⟩
            exact ⟨x, e, rfl, rfl, hB⟩
          · rintro x err w1 a ⟨rfl, hB⟩ hne' h4 hdf
            subst hQ
            refine bodyPost_ret (results_tmp (t := 4) rfl _ _ _) hdf ?_
            rw [h4]
            refine ⟨S, G, [.int .i64 err], rfl, ?_, ⟨hB.size, fun b hb _ => hB.block b hb, hB.os, hB.tape, hB.output, fun b hb => Nat.lt_of_lt_of_le (hS b hb) hB.size, fun b h => h, fun b h => .inl h, ⟨hTb, fun b hb hs => ?_⟩⟩, ⟨fun i g' sh h hn => ?_, hgo.inj⟩⟩
            · exact led_back (U := [.skip, .int .i64]) (V2 := [v, .int .i64 err]) (L2 := [.int .i64 err]) { nil := hR.nil, blk := (hB.block _ og.1).trans hR.blk, n2 := hR.n2, m2 := hR.m2.mono (fun b hb => hB.block b (hS b hb)) (fun _ h => h) (hB.block _ og2.1), rest := ⟨v, _, rfl, _, _, _, _, rfl, rfl, rfl, .int _ _, rfl, rfl, hG⟩ }
            · rcases (hGi b).1 hb with rfl | rfl
              · exact og.2.1 hs
              · exact og2.2.1 hs
            · obtain ⟨h1, h2, h3⟩ := hgo.own i g' sh h hn
              exact ⟨Nat.lt_of_lt_of_le h1 hB.size, h2, h3⟩
          · rintro x w1 t9 t13 t14 t15 ⟨h0, _⟩
            exact absurd h0.symm (rdL_ne hrd)
        | inr q =>
          rw [hrd] at hL
          cases hL
          obtain ⟨hrE, hl64, _⟩ := rdL_inr hrd
          obtain ⟨hql, hqm⟩ := rdE_lim hbdK hrE
          obtain ⟨hdm, hdl⟩ := dpost_lim hqm
          refine (callsIn_wide (n := 6)).1 ?_
          obtain ⟨c7, hc7⟩ : ∃ c7, pR7 = c7 := ⟨_, rfl⟩
          obtain ⟨cz, hcz⟩ : ∃ cz, pZ = cz := ⟨_, rfl⟩
          refine callsIn_of_wp (c := (pC [0]).seq ((pC [1, 0]).seq ((pC [1, 1, 0]).seq ((Code.seq (pC [1, 1, 1, 0, 0]) (.block 0 (.loop (Code.seq (pC [1, 1, 1, 0, 1, 0, 0, 0]) (Code.seq (.cond (.tmp 20) .skip (.exit 0)) (.block 1 (Code.seq (pC [1, 1, 1, 0, 1, 0, 0, 1, 1, 0, 0]) c7))))))).seq cz)))) Tryz.func22 (by rw [← hc7, ← hcz]; rfl) trivial ?_ rfl
          generalize hQ : bodyPost Tryz.prog Tryz.f22 _ = Q
          simp only [Tryz.ntmps22, List.size_toArray, List.length_cons, List.length_nil, Nat.reduceAdd, Nat.reduceSub, Array.replicate_succ, Array.replicate_zero, List.push_toArray, List.append_toArray, List.nil_append, List.cons_append]
          refine post_pre g.blk v w (R := fun x err w1 => err = 0 ∧ ∃ (S1 : Nat → Prop) (bc : Nat) (E : TS) (arr : Array MapEntry) (c : Nat), x = .map (some bc) ∧ bare E = dpost q ∧ w1.heap[bc]? = some (.map arr c) ∧ MapKept.Stamped arr c ∧ All2 (ERep w1 S1 false [.str] zz) (E.map ent) arr.toList ∧
            Below w.heap.size w w1 ∧ (∀ b, S b → S1 b) ∧ (∀ b, S1 b → b < w1.heap.size) ∧ (∀ b, S1 b → S b ∨ w.heap.size ≤ b) ∧ Tabs w1 S1 ∧ w.heap.size ≤ bc) (callsIn_wide.2 ((read_good hS hTb hfr hbd hrd).mono ?_)) ?_ ?_
          · rintro r w1 ⟨S1, bc, E, arr, c, rfl, rest⟩
            exact ⟨_, 0, rfl, rfl, S1, bc, E, arr, c, rfl, rest⟩
          · rintro x err w1 a ⟨rfl, _⟩ h
            exact absurd rfl h
          rintro x w1 t9 t13 t14 t15 ⟨_, S1, bc, E, arr, c, rfl, hE, hbk, hst, hall, hB, m1, m2, m3, htab, hbc⟩
          have hbcl : bc < w1.heap.size := (Array.getElem?_eq_some_iff.1 hbk).1
          have hEl : E.length ≤ 64 := by
            have : (bare E).length = E.length := by simp [bare]
            rw [hE] at this
            omega
          have hLE : Lim (bare E) (64 * 2 ^ K) := by
            rw [hE]
            exact hdm.mono (Nat.mul_le_mul_right _ (by omega))
          have hg1S : ¬ S1 g.blk := fun h => (m3 _ h).elim og.2.1 (by have := og.1; omega)
          have hg2S : ¬ S1 g2.blk := fun h => (m3 _ h).elim og2.2.1 (by have := og2.1; omega)
          have hgl : g.blk < w1.heap.size := Nat.lt_of_lt_of_le og.1 hB.size
          have hg2l : g2.blk < w1.heap.size := Nat.lt_of_lt_of_le og2.1 hB.size
          refine post_rng g.blk bc v t9 t13 t14 t15 arr c w1 (fun seen wr => ∃ Sr gc est c d ty', PJ w1 S1 g.blk g2.blk k S0 E arr seen wr Sr gc est c d ty') hbk hst ?_ ?_ ?_ ?_
          · intro e he
            obtain ⟨j, hj⟩ := List.mem_iff_getElem?.1 he
            obtain ⟨x, hx, k', v', rfl, _, _, hk', hv'⟩ := hall.getR' j e hj
            obtain ⟨t, _, ht⟩ := List.mem_map.1 (List.mem_of_getElem? hx)
            simp only [ent, FV.agg.injEq, List.cons.injEq, and_true] at ht
            obtain ⟨rfl, rfl, _⟩ := ht
            obtain ⟨p, kk, cc, hp⟩ := zN_val hv'
            have hkey : e.key = .string (txt t.1) := by
              generalize e.key = y at hk'
              cases hk'
              rfl
            exact ⟨_, p, kk, cc, _, hkey, hp⟩
          · intro w0 hg0' hs0
            obtain ⟨es0, arr0, c0, hbk0, hlike, hst0, hz0, hall0⟩ := hR.m2
            have hblk : ∀ b, b < w.heap.size → w0.heap[b]? = w.heap[b]? := fun b hb => (hg0'.block b (Nat.lt_of_lt_of_le hb hB.size) (by simp)).trans (hB.block b hb)
            refine ⟨S1, g2, es0, c0, [], ty, ?_⟩
            exact {
              mon := fun _ h => h
              bnd := fun b hb => by have := m2 b hb; omega
              frm := fun _ h => .inl h
              siz := by omega
              old := fun b hb _ _ => hg0'.block b hb (by simp)
              os := hg0'.os
              tape := hg0'.tape
              output := hg0'.output
              blk := (hblk _ og.1).trans hR.blk
              gnil := hR.n2
              glt := by omega
              gS := hg2S
              gold := .inl rfl
              gBS := hg1S
              map := ⟨es0, arr0, c0, (hblk _ og2.1).trans hbk0, .inl ⟨rfl, rfl⟩, hst0, hz0, hall0.mono fun _ _ h => h.mono (fun b hb => hblk b (hS b hb)) m1⟩
              acc := Acc.of (c := c0) (clk := clk) (by rw [zN_zero]; exact hlike)
              din := fun t ht => by simp at ht
              db := rfl
              nd := by simp
              len := by
                have h1 := hall.len
                have h2 : (leftOf arr #[]).size ≤ arr.size := by unfold leftOf; exact Array.size_filter_le
                simp at h1
                simp
                omega }
          · rintro seen wr w2 e q' p kk cc b a0 Q7 hrg ⟨Sr, gc, est, c1, d, ty', hPJ⟩ he hq hv hrg2 hg2' hsz h44 hdf h00 h07 h08 hcont
            have hPJ2 := hPJ.grown hg2' hgl hg2l m2
            obtain ⟨j, hj⟩ := List.mem_iff_getElem?.1 (mem_left he).1
            obtain ⟨x, hx, k', v', rfl, _, _, hk', hv'⟩ := hall.getR' j e hj
            obtain ⟨t, htE, ht⟩ := List.mem_map.1 (List.mem_of_getElem? hx)
            simp only [ent, FV.agg.injEq, List.cons.injEq, FV.int.injEq, true_and, and_true] at ht
            obtain ⟨rfl, rfl, hborn⟩ := ht
            have hkey : e.key = .string (txt t.1) := by
              generalize e.key = y at hk'
              cases hk'
              rfl
            rw [hkey] at hq
            simp only [Value.string.injEq] at hq
            subst hq
            rw [hv] at hv'
            refine wpIn_wide.2 ?_
            rw [← hc7]
            refine post_round hPJ2 hA (K := K) (pow_mono 1000000 K (by omega)) hKb hl0 hLE hEl m2 htab hgl hg2l hne hg1S hg2S htE he hborn hv' a0 h44 hdf h00 h07 h08 Q7 ?_
            intro a' w' y1 y2 y3 y4 y5
            have hlt1 : bc < w2.heap.size := (Array.getElem?_eq_some_iff.1 hrg2.m).1
            have hlt2 : w1.heap.size < w2.heap.size := (Array.getElem?_eq_some_iff.1 hrg2.i).1
            refine hcont a' w' y1 y2 y3 (hrg2.walks (y4 bc hlt1 ?_ ?_) (y4 _ hlt2 ?_ ?_)) y5
            · have := og.1; omega
            · have := og2.1
              rcases hPJ.gold with z | z <;> omega
            · omega
            · rcases hPJ.gold with z | z <;> omega
          · rintro a' w' seen hdone ⟨Sr, gc, est, c1, d, ty', hPJ⟩ h44 hdf h00 h01
            have hper := all_come hall hst hdone hPJ.din hPJ.db hPJ.nd
            have hS' : lpost S0 (bare d) = lpost S0 q := by rw [lpost_perm hper hA, hE, lpost_dpost hA]
            have hacc := hPJ.acc
            rw [hS'] at hacc
            obtain ⟨es1, arr1, c2, hbk1, hlike1, hst1, hz1, hall1⟩ := hPJ.map
            obtain ⟨_, rfl⟩ := hlike1.exact (by omega)
            have hmap : MRep w' Sr gc false [.str] zz (stE (lpost S0 q)) (-1) := ⟨es1, arr1, c2, hbk1, by have := hacc.like c2; rwa [zN_zero] at this, hst1, hz1, hall1⟩
            have hgne : g.blk ≠ gc.blk := by rcases hPJ.gold with z | z <;> omega
            have h1s := hPJ.siz
            refine wpIn_wide.2 ?_
            rw [← hcz, ← hQ]
            have hw : IntKind.wrap .i64 (k + 1) = k + 1 := wrap64_id (by omega) (by omega)
            have hev := (pZ_ev (n := 2) (es := stE (lpost S0 q)) (c := -1) (k := k))
            rw [hw] at hev
            refine tail_ok (E := EnB) envOkB (evF_ok envOkB extB_ok 2) (C := ⟨w, S, Given G, 44, fun t => if t = 0 then some (.pointer (some ⟨g.blk, 0, none⟩)) else none⟩) (i := postI) (fn := Tryz.f22) (n := 2) (ps := postPs) (ts := [0]) (nm := namesFrom 1000 2) (V0 := [.pointer (some ⟨g.blk, 0, none⟩), v])
              (V := [.pointer (some ⟨g.blk, 0, none⟩)]) (T := ledT) (L := [.list 3 (stE (lpost S0 q)), .int .i64 (-1), .int .i64 k]) (G := [(g, (none, some (.n 2))), (gc, (none, some mK))]) (S := Sr)
              pZ_ok (Nat.le_of_eq Tryz.ntmps22) h44 hdf ?_ ?_ ?_ rfl ?_ ?_ rfl rfl (namesFrom_inj 1000 2) ?_ (.cons h00 .nil) hev
            · intro d' hd'
              simp only [postPs, pinsOf, List.mem_singleton] at hd'
              exact if_neg hd'
            · intro t' v' h'
              simp only at h'
              split at h'
              · rename_i h0; subst h0; cases h'; exact h00
              · cases h'
            · intro t' v' h1 h2
              simp only [postPs, pinsOf, List.mem_singleton] at h1
              subst h1
              simp only [if_true]
              simpa using h2
            · refine ⟨by show w.heap.size ≤ _; have := hB.size; omega, fun b hb hg => ?_, hPJ.os.trans hB.os, hPJ.tape.trans hB.tape, hPJ.output.trans hB.output, hPJ.bnd, fun b hb => hPJ.mon b (m1 b hb), fun b hb => ?_, ⟨hTb, fun b hb hs => ?_⟩⟩
              · have hb' : b < w.heap.size := hb
                have h3 : ¬ (b = g.blk ∨ b = g2.blk) := fun h => hg ((hGi b).2 h)
                exact (hPJ.old b (Nat.lt_of_lt_of_le hb' hB.size) (fun h => h3 (.inl h)) (fun h => h3 (.inr h))).trans (hB.block b hb')
              · rcases hPJ.frm b hb with z | z | z
                · rcases m3 b z with y | y
                  · exact .inl y
                  · exact .inr (.inr y)
                · exact .inr (.inl ((hGi b).2 (.inr z)))
                · refine .inr (.inr ?_)
                  show w.heap.size ≤ b
                  have := hB.size
                  omega
              · rcases (hGi b).1 hb with rfl | rfl
                · exact og.2.1 hs
                · exact og2.2.1 hs
            · exact led_back (U := []) (V2 := []) (L2 := []) { nil := hR.nil, blk := hPJ.blk, n2 := hPJ.gnil, m2 := hmap, rest := ⟨rfl, rfl, rfl⟩ }
            · refine ⟨fun i g' sh hi hn => ?_, fun i j g1 g2' s1 s2 hi hj _ _ he => ?_⟩
              · rcases i with _ | _ | i <;> simp at hi
                · obtain ⟨rfl, _⟩ := hi
                  exact ⟨by omega, hPJ.gBS, .inl ((hGi _).2 (.inl rfl))⟩
                · obtain ⟨rfl, _⟩ := hi
                  refine ⟨hPJ.glt, hPJ.gS, ?_⟩
                  rcases hPJ.gold with z | z
                  · exact .inl ((hGi _).2 (.inr z))
                  · refine .inr ?_
                    show w.heap.size ≤ _
                    have := hB.size
                    omega
              · rcases i with _ | _ | i <;> rcases j with _ | _ | j <;> simp at hi hj
                · rfl
                · obtain ⟨rfl, _⟩ := hi; obtain ⟨rfl, _⟩ := hj; exact absurd he hgne
                · obtain ⟨rfl, _⟩ := hi; obtain ⟨rfl, _⟩ := hj; exact absurd he.symm hgne
                · rfl
      · cases hL
    · cases hL
  | _ => cases hlf

end Rf
end
