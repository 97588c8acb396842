/- Contracts that are made by hand: they hold. -/
import Derived.Test.YtecinekkgnhhoaaExtOk
namespace Rf
open Go Go.RowKit Go.Proofs

/-- what reads as a step -/
theorem step_val {w : World} {S : Nat → Prop} {x : FV} {u : Value} (h : stepOk x = true) (hr : FRep w S x u) : ∃ y : StV, u = y.v ∧ x = y.fv := by
  unfold stepOk at h
  split at h
  · rename_i s a b c d e f
    cases hr with
    | agg cs vs hs hc =>
      have g := fun j c (q : _) => hc j c q
      have hl : vs.size = 7 := hs
      have e0 := g 0 _ rfl
      have e1 := g 1 _ rfl
      have e2 := g 2 _ rfl
      have e3 := g 3 _ rfl
      have e4 := g 4 _ rfl
      have e5 := g 5 _ rfl
      have e6 := g 6 _ rfl
      refine ⟨⟨s, a, b, c, d, e, f⟩, ?_, rfl⟩
      obtain ⟨l⟩ := vs
      simp only [List.size_toArray] at hl
      obtain ⟨x0, l, rfl⟩ : ∃ x0 l', l = x0 :: l' := by cases l with | nil => simp at hl | cons x l => exact ⟨_, _, rfl⟩
      obtain ⟨x1, l, rfl⟩ : ∃ x0 l', l = x0 :: l' := by cases l with | nil => simp at hl | cons x l => exact ⟨_, _, rfl⟩
      obtain ⟨x2, l, rfl⟩ : ∃ x0 l', l = x0 :: l' := by cases l with | nil => simp at hl | cons x l => exact ⟨_, _, rfl⟩
      obtain ⟨x3, l, rfl⟩ : ∃ x0 l', l = x0 :: l' := by cases l with | nil => simp at hl | cons x l => exact ⟨_, _, rfl⟩
      obtain ⟨x4, l, rfl⟩ : ∃ x0 l', l = x0 :: l' := by cases l with | nil => simp at hl | cons x l => exact ⟨_, _, rfl⟩
      obtain ⟨x5, l, rfl⟩ : ∃ x0 l', l = x0 :: l' := by cases l with | nil => simp at hl | cons x l => exact ⟨_, _, rfl⟩
      obtain ⟨x6, l, rfl⟩ : ∃ x0 l', l = x0 :: l' := by cases l with | nil => simp at hl | cons x l => exact ⟨_, _, rfl⟩
      obtain rfl : l = [] := by simpa using hl
      simp at e0 e1 e2 e3 e4 e5 e6
      cases e0; cases e1; cases e2; cases e3; cases e4; cases e5; cases e6
      rfl
  · cases h

/-- a map's values -/
theorem step_vals {w : World} {S : Nat → Prop} {kag : Bool} {ks : List CK} {z : FV} : ∀ {es : List FV} {arr : List MapEntry}, All2 (ERep w S kag ks z) es arr → (es.map entVal).all stepOk = true →
    ∃ ys : List StV, arr.map (·.val) = ys.map StV.v ∧ es.map entVal = ys.map StV.fv
  | _, _, .nil, _ => ⟨[], rfl, rfl⟩
  | _, _, .cons h t, ha => by
    simp only [List.map_cons, List.all_cons, Bool.and_eq_true] at ha
    obtain ⟨ys, h1, h2⟩ := step_vals t ha.2
    obtain ⟨k, v, rfl, _, _, _, hr⟩ := h
    obtain ⟨y, q1, q2⟩ := step_val ha.1 hr
    exact ⟨y :: ys, by simp [h1, q1], by simp only [List.map_cons, h2, q2]⟩

def vFV : Value → FV
  | .agg ⟨[.string s, .int _ a, .int _ b, .int _ c, .bool d, .int _ e, .int _ f]⟩ => .agg [.str s, .int .i64 a, .int .i64 b, .int .i64 c, .bool d, .int .i64 e, .int .i64 f]
  | _ => .agg []

theorem vFV_v (x : StV) : vFV x.v = x.fv := rfl

theorem perm_fv {xs ys : List StV} (h : (xs.map StV.v).Perm (ys.map StV.v)) : (xs.map StV.fv).Perm (ys.map StV.fv) := by
  have := h.map vFV
  simpa [List.map_map, Function.comp_def, vFV_v] using this

def stepsI : FnI := (fnT 24).getD ⟨[], [], []⟩
theorem stepsI_is : En.fn 24 = some stepsI := by kernel_rfl

def zStep : FV := .agg [.str ⟨#[]⟩, .int .i64 0, .int .i64 0, .int .i64 0, .bool false, .int .i64 0, .int .i64 0]
def zBlk : FV := .agg [.str ⟨#[]⟩, .int .i64 0, .int .i64 0, .bool false, .int .i64 0, .list 1 [], .int .i64 0, .int .i64 0]
def zAcc : FV := .agg [.int .i64 0, .int .i64 0, .int .i64 0, .int .i64 0, .int .i64 0]
/-- a book, by tokens -/
def bookT : List Tok := [.obj 4, .mapt true [.str, .int .i64] zStep, .mapt true [.str, .int .i64] zBlk, .mapt true [.str, .int .i64] (.int .i64 0), .mapt false [.str] zAcc]

theorem stepsI_eq : stepsI = ⟨bookT, bookT ++ [.lst 7], []⟩ := by kernel_rfl

/-- how a book lies -/
structure BookRep (w : World) (S : Nat → Prop) (V : List Value) (L : List FV) (G : GA) (g g0 g1 g2 g3 : Gh) (ty : TypeId) (e0 e1 e2 e3 : List FV) (c0 c1 c2 c3 : Int) : Prop where
  V : V = [.pointer (some ⟨g.blk, 0, none⟩)]
  L : L = [.list 3 e0, .int .i64 c0, .list 3 e1, .int .i64 c1, .list 3 e2, .int .i64 c2, .list 3 e3, .int .i64 c3]
  nil : g.nil = false
  blk : w.heap[g.blk]? = some (.cells #[.map (some g0.blk), .map (some g1.blk), .map (some g2.blk), .map (some g3.blk)] ty (0, 0))
  n0 : g0.nil = false
  m0 : MRep w S g0 true [.str, .int .i64] zStep e0 c0
  n1 : g1.nil = false
  m1 : MRep w S g1 true [.str, .int .i64] zBlk e1 c1
  n2 : g2.nil = false
  m2 : MRep w S g2 true [.str, .int .i64] (.int .i64 0) e2 c2
  n3 : g3.nil = false
  m3 : MRep w S g3 false [.str] zAcc e3 c3
  G : G = [(g, (none, some (.n 4))), (g0, (none, some (.m true [.str, .int .i64] zStep))), (g1, (none, some (.m true [.str, .int .i64] zBlk))), (g2, (none, some (.m true [.str, .int .i64] (.int .i64 0)))), (g3, (none, some (.m false [.str] zAcc)))]

theorem book_rep {w : World} {S : Nat → Prop} {V : List Value} {L : List FV} {G : GA} (h : TRep w S bookT V L [] G) : ∃ g g0 g1 g2 g3 ty e0 e1 e2 e3 c0 c1 c2 c3, BookRep w S V L G g g0 g1 g2 g3 ty e0 e1 e2 e3 c0 c1 c2 c3 := by
  obtain ⟨g, vals, e, V', rfl, hn, hb, hs, h⟩ := h
  obtain ⟨g0, e0, c0, V0, L0, hV0, rfl, n0, m0, h⟩ := h
  obtain ⟨g1, e1, c1, V1, L1, rfl, rfl, n1, m1, h⟩ := h
  obtain ⟨g2, e2, c2, V2, L2, rfl, rfl, n2, m2, h⟩ := h
  obtain ⟨g3, e3, c3, V3, L3, rfl, rfl, n3, m3, h⟩ := h
  obtain ⟨rfl, rfl, rfl⟩ := h
  have hl := congrArg List.length hV0
  obtain ⟨l⟩ := vals
  simp only [List.size_toArray] at hs
  simp [hs] at hl
  subst hl
  simp at hV0
  subst hV0
  exact ⟨g, g0, g1, g2, g3, e, e0, e1, e2, e3, c0, c1, c2, c3, ⟨rfl, rfl, hn, hb, n0, m0, n1, m1, n2, m2, n3, m3, rfl⟩⟩

/-- a book that was left alone, and a frozen list beside it -/
theorem book_back {w w' : World} {S S' : Nat → Prop} {V : List Value} {L : List FV} {G : GA} {g g0 g1 g2 g3 : Gh} {ty : TypeId} {e0 e1 e2 e3 : List FV} {c0 c1 c2 c3 : Int} (h : BookRep w S V L G g g0 g1 g2 g3 ty e0 e1 e2 e3 c0 c1 c2 c3)
    (hS : ∀ b, S b → b < w.heap.size) (hB : Below w.heap.size w w') (hSS : ∀ b, S b → S' b) {sz : Nat} {ys : List FV} {v : Value} (hv : FRep w' S' (.list sz ys) v) :
    TRep w' S' (bookT ++ [.lst sz]) (V ++ [v]) (L ++ [.list sz ys]) [] G := by
  have hw : ∀ b, S b → w'.heap[b]? = w.heap[b]? := fun b hb => hB.block b (hS b hb)
  have mm : ∀ {g : Gh} {kag ks z es clk}, MRep w S g kag ks z es clk → MRep w' S' g kag ks z es clk := fun {g kag ks z es clk} hm => by
    refine hm.mono hw hSS (hB.block _ ?_)
    obtain ⟨arr, c, a, _⟩ := hm
    exact (Array.getElem?_eq_some_iff.1 a).1
  obtain ⟨rfl, rfl, hn, hb, n0, m0, n1, m1, n2, m2, n3, m3, rfl⟩ := h
  refine ⟨g, #[.map (some g0.blk), .map (some g1.blk), .map (some g2.blk), .map (some g3.blk)], ty, [v], rfl, hn, (hB.block _ (Array.getElem?_eq_some_iff.1 hb).1).trans hb, rfl, ?_⟩
  refine ⟨g0, e0, c0, _, _, rfl, rfl, n0, mm m0, ?_⟩
  refine ⟨g1, e1, c1, _, _, rfl, rfl, n1, mm m1, ?_⟩
  refine ⟨g2, e2, c2, _, _, rfl, rfl, n2, mm m2, ?_⟩
  refine ⟨g3, e3, c3, _, _, rfl, rfl, n3, mm m3, ?_⟩
  exact ⟨v, [], .list sz ys, [], rfl, rfl, rfl, hv, rfl, rfl, rfl⟩

theorem steps_ok {L L' : List FV} (hL : stepsExt L = some L') : Enters En.P 24 ∧ CSpec En.P 24 stepsI L L' := by
  refine ⟨⟨Try.f24, Try.func24, rfl, by kernel_rfl⟩, fun w S V G hS hT hgo => ?_⟩
  rw [stepsI_eq] at hT ⊢
  obtain ⟨g, g0, g1, g2, g3, ty, e0, e1, e2, e3, c0, c1, c2, c3, hb⟩ := book_rep hT
  have hbV := hb.V
  have hbL := hb.L
  subst hbV
  rw [hbL] at hL
  simp only [stepsExt] at hL
  split at hL
  · rename_i hc
    cases hL
    obtain ⟨arr, c, ha, hcc, hst, hz, hall⟩ := hb.m0
    obtain ⟨ys, hy1, hy2⟩ := step_vals hall hc.2
    have hlen : arr.size = e0.length := by have := hall.len; simpa using this.symm
    have hyl : ys.length ≤ 1 := by have := congrArg List.length hy2; simp at this; omega
    have one : ∀ xs : List StV, (xs.map StV.v).Perm (arr.toList.map (·.val)) → xs.map StV.fv = e0.map entVal := fun xs hp => by
      rw [hy1] at hp
      have hp2 := perm_fv hp
      rw [hy2]
      have hl := hp2.length_eq
      simp only [List.length_map] at hl
      match xs, ys, hyl, hp2, hl with
      | [], [], _, _, _ => rfl
      | [x], [y], _, hp2, _ => exact List.perm_singleton.1 hp2
      | [], _ :: _, _, _, hl => simp at hl
      | _ :: _, [], _, _, hl => simp at hl
      | _ :: _ :: _, [_], _, _, hl => simp at hl
      | _, _ :: _ :: _, h, _, _ => simp at h
    have hel : ∀ e, e ∈ arr.toList → ∃ x : StV, e.val = x.v := fun e he => by
      have : e.val ∈ arr.toList.map (·.val) := List.mem_map.2 ⟨e, he, rfl⟩
      rw [hy1] at this
      obtain ⟨x, _, hx⟩ := List.mem_map.1 this
      exact ⟨x, hx.symm⟩
    refine (callsIn_wide.1 (steps_walk 6 (Nat.le_refl _) g.blk g0.blk g1.blk g2.blk g3.blk arr c w hS hb.blk ha hst hel (by omega) (m := 5) (srt := id) (fun xs hp => by rw [one xs hp]; exact sort_one (by simpa using hc.1)))).mono ?_
    rintro e w' ⟨v, xs, S1, gr, rfl, hp, rfl, hvr, hgr, hB, q1, q2, q3⟩
    simp only [id] at hvr
    rw [one xs hp] at hvr
    have hrow := hvr.2
    have hfr : FRep w' (fun b => S1 b ∨ (gr.nil = false ∧ b = gr.blk)) (.list 7 (e0.map entVal)) (.slice gr.base (e0.map entVal).length gr.cap) := by
      cases hn : gr.nil with
      | true =>
        rw [if_pos hn] at hrow
        rw [hrow.1]
        exact nil_list
      | false =>
        rw [if_neg (by simp [hn])] at hrow
        obtain ⟨vals, e, h1, h2, h3⟩ := hrow
        exact FRep.list_iff.2 ⟨_, _, gr.blk, gr.off, rfl, hvr.1, fun _ => ⟨by simp [Gh.base, hn], .inr ⟨rfl, rfl⟩⟩, h3.mono (fun _ _ => rfl) (fun _ h => .inl h) rfl⟩
    refine ⟨fun b => S1 b ∨ (gr.nil = false ∧ b = gr.blk), G, [.slice gr.base (e0.map entVal).length gr.cap], by simp only [id]; rw [one xs hp]; rfl, ?_, ⟨hB.size, fun b h _ => hB.block b h, hB.os, hB.tape, hB.output, fun b h => ?_, fun b h => .inl (q1 b h), fun b h => ?_⟩, ⟨fun i g' sh h hn => ?_, hgo.inj⟩⟩
    · have := book_back hb hS hB (S' := fun b => S1 b ∨ (gr.nil = false ∧ b = gr.blk)) (fun b h => .inl (q1 b h)) hfr
      rw [hbL] at this
      exact this
    · rcases h with h | ⟨h1, rfl⟩
      · exact q2 b h
      · exact (hgr h1).2.1
    · rcases h with h | ⟨h1, rfl⟩
      · rcases q3 b h with h | h
        · exact .inl h
        · exact .inr (.inr h)
      · exact .inr (.inr (hgr h1).1)
    · obtain ⟨h1, h2, h3⟩ := hgo.own i g' sh h hn
      refine ⟨Nat.lt_of_lt_of_le h1 hB.size, fun h => ?_, h3⟩
      rcases h with h | ⟨h4, h5⟩
      · rcases q3 _ h with h | h
        · exact h2 h
        · omega
      · have := (hgr h4).1
        omega
  · cases hL

theorem ext_ok : ExtOk En := by
  intro f g i L L' hf hi hL
  have : extT f = some g := hf
  unfold extT lookN at this
  cases hb : Nat.beq 24 f with
  | true =>
    obtain rfl := Nat.eq_of_beq_eq_true hb
    rw [hb] at this
    simp at this
    subst this
    rw [stepsI_is] at hi
    cases hi
    exact steps_ok hL
  | false => rw [hb] at this; simp [lookN] at this

end Rf
