/- Contracts that are made by hand: they hold. -/
import Derived.Test.YtlenaaghkiedbaaExtOk
import Derived.Test.YtlenaaghkiedbaaChild
import Derived.Test.YtlenaaghkiedbaaClone
namespace Rf
open Go Go.RowKit Go.Proofs

/-- what reads as a step -/
theorem step_val {w : World} {S : Nat → Prop} {x : FV} {u : Value} (h : stepOk x = true) (hr : FRep w S x u) : ∃ y : StV, u = y.v ∧ x = y.fv := by
  unfold stepOk at h
  split at h
  · rename_i s a b c d e f
    cases hr with
    | agg cs vs hs hc =>
      have g := fun j c (q : _) => hc j c q
      have hl : vs.size = 7 := hs
      have e0 := g 0 _ rfl
      have e1 := g 1 _ rfl
      have e2 := g 2 _ rfl
      have e3 := g 3 _ rfl
      have e4 := g 4 _ rfl
      have e5 := g 5 _ rfl
      have e6 := g 6 _ rfl
      refine ⟨⟨s, a, b, c, d, e, f⟩, ?_, rfl⟩
      obtain ⟨l⟩ := vs
      simp only [List.size_toArray] at hl
      obtain ⟨x0, l, rfl⟩ : ∃ x0 l', l = x0 :: l' := by cases l with | nil => simp at hl | cons x l => exact ⟨_, _, rfl⟩
      obtain ⟨x1, l, rfl⟩ : ∃ x0 l', l = x0 :: l' := by cases l with | nil => simp at hl | cons x l => exact ⟨_, _, rfl⟩
      obtain ⟨x2, l, rfl⟩ : ∃ x0 l', l = x0 :: l' := by cases l with | nil => simp at hl | cons x l => exact ⟨_, _, rfl⟩
      obtain ⟨x3, l, rfl⟩ : ∃ x0 l', l = x0 :: l' := by cases l with | nil => simp at hl | cons x l => exact ⟨_, _, rfl⟩
      obtain ⟨x4, l, rfl⟩ : ∃ x0 l', l = x0 :: l' := by cases l with | nil => simp at hl | cons x l => exact ⟨_, _, rfl⟩
      obtain ⟨x5, l, rfl⟩ : ∃ x0 l', l = x0 :: l' := by cases l with | nil => simp at hl | cons x l => exact ⟨_, _, rfl⟩
      obtain ⟨x6, l, rfl⟩ : ∃ x0 l', l = x0 :: l' := by cases l with | nil => simp at hl | cons x l => exact ⟨_, _, rfl⟩
      obtain rfl : l = [] := by simpa using hl
      simp at e0 e1 e2 e3 e4 e5 e6
      cases e0; cases e1; cases e2; cases e3; cases e4; cases e5; cases e6
      rfl
  · cases h

/-- a map's values -/
theorem step_vals {w : World} {S : Nat → Prop} {kag : Bool} {ks : List CK} {z : FV} : ∀ {es : List FV} {arr : List MapEntry}, All2 (ERep w S kag ks z) es arr → (es.map entVal).all stepOk = true →
    ∃ ys : List StV, arr.map (·.val) = ys.map StV.v ∧ es.map entVal = ys.map StV.fv
  | _, _, .nil, _ => ⟨[], rfl, rfl⟩
  | _, _, .cons h t, ha => by
    simp only [List.map_cons, List.all_cons, Bool.and_eq_true] at ha
    obtain ⟨ys, h1, h2⟩ := step_vals t ha.2
    obtain ⟨k, v, rfl, _, _, _, hr⟩ := h
    obtain ⟨y, q1, q2⟩ := step_val ha.1 hr
    exact ⟨y :: ys, by simp [h1, q1], by simp only [List.map_cons, h2, q2]⟩

def vFV : Value → FV
  | .agg ⟨[.string s, .int _ a, .int _ b, .int _ c, .bool d, .int _ e, .int _ f]⟩ => .agg [.str s, .int .i64 a, .int .i64 b, .int .i64 c, .bool d, .int .i64 e, .int .i64 f]
  | _ => .agg []

theorem vFV_v (x : StV) : vFV x.v = x.fv := rfl

theorem perm_fv {xs ys : List StV} (h : (xs.map StV.v).Perm (ys.map StV.v)) : (xs.map StV.fv).Perm (ys.map StV.fv) := by
  have := h.map vFV
  simpa [List.map_map, Function.comp_def, vFV_v] using this

def stepsI : FnI := (fnT 24).getD ⟨[], [], []⟩
theorem stepsI_is : En.fn 24 = some stepsI := by kernel_rfl

def zStep : FV := .agg [.str ⟨#[]⟩, .int .i64 0, .int .i64 0, .int .i64 0, .bool false, .int .i64 0, .int .i64 0]
def zBlk : FV := .agg [.str ⟨#[]⟩, .int .i64 0, .int .i64 0, .bool false, .int .i64 0, .list 1 [], .int .i64 0, .int .i64 0]
def zAcc : FV := .agg [.int .i64 0, .int .i64 0, .int .i64 0, .int .i64 0, .int .i64 0]
/-- a book, by tokens -/
def bookT : List Tok := [.obj 4, .mapt true [.str, .int .i64] zStep, .mapt true [.str, .int .i64] zBlk, .mapt true [.str, .int .i64] (.int .i64 0), .mapt false [.str] zAcc]

theorem stepsI_eq : stepsI = ⟨bookT, bookT ++ [.lst 7], []⟩ := by kernel_rfl

/-- how a book lies -/
structure BookRep (w : World) (S : Nat → Prop) (V : List Value) (L : List FV) (G : GA) (T : List Tok) (V1 : List Value) (L1 : List FV) (g g0 g1 g2 g3 : Gh) (ty : TypeId) (e0 e1 e2 e3 : List FV) (c0 c1 c2 c3 : Int) : Prop where
  V : V = .pointer (some ⟨g.blk, 0, none⟩) :: V1
  L : L = [.list 3 e0, .int .i64 c0, .list 3 e1, .int .i64 c1, .list 3 e2, .int .i64 c2, .list 3 e3, .int .i64 c3] ++ L1
  nil : g.nil = false
  blk : w.heap[g.blk]? = some (.cells #[.map (some g0.blk), .map (some g1.blk), .map (some g2.blk), .map (some g3.blk)] ty (0, 0))
  n0 : g0.nil = false
  m0 : MRep w S g0 true [.str, .int .i64] zStep e0 c0
  n1 : g1.nil = false
  m1 : MRep w S g1 true [.str, .int .i64] zBlk e1 c1
  n2 : g2.nil = false
  m2 : MRep w S g2 true [.str, .int .i64] (.int .i64 0) e2 c2
  n3 : g3.nil = false
  m3 : MRep w S g3 false [.str] zAcc e3 c3
  rest : TRep w S T V1 L1 [(g, (none, some (.n 4))), (g0, (none, some (.m true [.str, .int .i64] zStep))), (g1, (none, some (.m true [.str, .int .i64] zBlk))), (g2, (none, some (.m true [.str, .int .i64] (.int .i64 0)))), (g3, (none, some (.m false [.str] zAcc)))] G

theorem book_rep {w : World} {S : Nat → Prop} {T : List Tok} {V : List Value} {L : List FV} {G : GA} (h : TRep w S (bookT ++ T) V L [] G) : ∃ V1 L1 g g0 g1 g2 g3 ty e0 e1 e2 e3 c0 c1 c2 c3, BookRep w S V L G T V1 L1 g g0 g1 g2 g3 ty e0 e1 e2 e3 c0 c1 c2 c3 := by
  obtain ⟨g, vals, e, V', rfl, hn, hb, hs, h⟩ := h
  obtain ⟨g0, e0, c0, V0, L0, hV0, rfl, n0, m0, h⟩ := h
  obtain ⟨g1, e1, c1, V1, L1, rfl, rfl, n1, m1, h⟩ := h
  obtain ⟨g2, e2, c2, V2, L2, rfl, rfl, n2, m2, h⟩ := h
  obtain ⟨g3, e3, c3, V3, L3, rfl, rfl, n3, m3, h⟩ := h
  obtain ⟨l⟩ := vals
  simp only [List.size_toArray] at hs
  obtain ⟨x0, l, rfl⟩ : ∃ x0 l', l = x0 :: l' := by cases l with | nil => simp at hs | cons x l => exact ⟨_, _, rfl⟩
  obtain ⟨x1, l, rfl⟩ : ∃ x0 l', l = x0 :: l' := by cases l with | nil => simp at hs | cons x l => exact ⟨_, _, rfl⟩
  obtain ⟨x2, l, rfl⟩ : ∃ x0 l', l = x0 :: l' := by cases l with | nil => simp at hs | cons x l => exact ⟨_, _, rfl⟩
  obtain ⟨x3, l, rfl⟩ : ∃ x0 l', l = x0 :: l' := by cases l with | nil => simp at hs | cons x l => exact ⟨_, _, rfl⟩
  obtain rfl : l = [] := by simpa using hs
  simp only [List.cons_append, List.nil_append, List.cons.injEq] at hV0
  obtain ⟨rfl, rfl, rfl, rfl, rfl⟩ := hV0
  exact ⟨V', L3, g, g0, g1, g2, g3, e, e0, e1, e2, e3, c0, c1, c2, c3, ⟨rfl, rfl, hn, hb, n0, m0, n1, m1, n2, m2, n3, m3, h⟩⟩

/-- a book that was left alone, and what is handed back beside it -/
theorem book_back {w w' : World} {S S' : Nat → Prop} {V : List Value} {L : List FV} {G G' : GA} {T U : List Tok} {V1 V2 : List Value} {L1 L2 : List FV} {g g0 g1 g2 g3 : Gh} {ty : TypeId} {e0 e1 e2 e3 : List FV} {c0 c1 c2 c3 : Int} (h : BookRep w S V L G T V1 L1 g g0 g1 g2 g3 ty e0 e1 e2 e3 c0 c1 c2 c3)
    (hS : ∀ b, S b → b < w.heap.size) (hB : Below w.heap.size w w') (hSS : ∀ b, S b → S' b)
    (hr : TRep w' S' U V2 L2 [(g, (none, some (.n 4))), (g0, (none, some (.m true [.str, .int .i64] zStep))), (g1, (none, some (.m true [.str, .int .i64] zBlk))), (g2, (none, some (.m true [.str, .int .i64] (.int .i64 0)))), (g3, (none, some (.m false [.str] zAcc)))] G') :
    TRep w' S' (bookT ++ U) (.pointer (some ⟨g.blk, 0, none⟩) :: V2) ([.list 3 e0, .int .i64 c0, .list 3 e1, .int .i64 c1, .list 3 e2, .int .i64 c2, .list 3 e3, .int .i64 c3] ++ L2) [] G' := by
  have hw : ∀ b, S b → w'.heap[b]? = w.heap[b]? := fun b hb => hB.block b (hS b hb)
  have mm : ∀ {g : Gh} {kag ks z es clk}, MRep w S g kag ks z es clk → MRep w' S' g kag ks z es clk := fun {g kag ks z es clk} hm => by
    refine hm.mono hw hSS (hB.block _ ?_)
    obtain ⟨arr, c, a, _⟩ := hm
    exact (Array.getElem?_eq_some_iff.1 a).1
  obtain ⟨rfl, rfl, hn, hb, n0, m0, n1, m1, n2, m2, n3, m3, _⟩ := h
  refine ⟨g, #[.map (some g0.blk), .map (some g1.blk), .map (some g2.blk), .map (some g3.blk)], ty, V2, rfl, hn, (hB.block _ (Array.getElem?_eq_some_iff.1 hb).1).trans hb, rfl, ?_⟩
  refine ⟨g0, e0, c0, _, _, rfl, rfl, n0, mm m0, ?_⟩
  refine ⟨g1, e1, c1, _, _, rfl, rfl, n1, mm m1, ?_⟩
  refine ⟨g2, e2, c2, _, _, rfl, rfl, n2, mm m2, ?_⟩
  refine ⟨g3, e3, c3, _, _, rfl, rfl, n3, mm m3, ?_⟩
  exact hr

theorem fless_ok : LessOk fless := ⟨fun _ _ _ h1 h2 => kless_ok.tr _ _ _ h1 h2, fun _ _ h => kless_ok.to _ _ h⟩

/-- in whatever order the values come -/
theorem sorted_one {l l' : List FV} (hp : l.Perm l') (hd : (l'.map fkey).Nodup) : isort fless l = isort fless l' :=
  isort_perm fless_ok hp fun a b ha hb h1 h2 => nodup_inj hd a b (hp.mem_iff.1 ha) (hp.mem_iff.1 hb) (kless_eq h1 h2)

theorem steps_ok {L L' : List FV} (hL : stepsExt L = some L') : Enters En.P 24 ∧ CSpec En.P 24 stepsI L L' := by
  refine ⟨⟨Try.f24, Try.func24, rfl, by kernel_rfl⟩, fun w S V G hS hT hgo => ?_⟩
  rw [stepsI_eq] at hT ⊢
  obtain ⟨V1, L1, g, g0, g1, g2, g3, ty, e0, e1, e2, e3, c0, c1, c2, c3, hb⟩ := book_rep (T := []) hT
  have hbV := hb.V
  have hbL := hb.L
  obtain ⟨rfl, rfl, hG⟩ := hb.rest
  subst hbV
  rw [hbL] at hL
  simp only [List.append_nil, stepsExt] at hL
  split at hL
  · rename_i hc
    cases hL
    obtain ⟨arr, c, ha, hcc, hst, hz, hall⟩ := hb.m0
    obtain ⟨ys, hy1, hy2⟩ := step_vals hall hc.2.1
    have hlen : arr.size = e0.length := by have := hall.len; simpa using this.symm
    have one : ∀ xs : List StV, (xs.map StV.v).Perm (arr.toList.map (·.val)) → isort fless (xs.map StV.fv) = isort fless (e0.map entVal) := fun xs hp => by
      rw [hy1] at hp
      have hp2 := perm_fv hp
      rw [← hy2] at hp2
      exact sorted_one hp2 (by rw [List.map_map]; exact hc.2.2)
    have hel : ∀ e, e ∈ arr.toList → ∃ x : StV, e.val = x.v := fun e he => by
      have : e.val ∈ arr.toList.map (·.val) := List.mem_map.2 ⟨e, he, rfl⟩
      rw [hy1] at this
      obtain ⟨x, _, hx⟩ := List.mem_map.1 this
      exact ⟨x, hx.symm⟩
    have hkey : ∀ xs : List StV, (xs.map StV.v).Perm (arr.toList.map (·.val)) → (xs.map StV.key).Nodup := fun xs hp => by
      rw [hy1] at hp
      have hp2 := perm_fv hp
      rw [← hy2] at hp2
      have hn : ((e0.map entVal).map fkey).Nodup := by rw [List.map_map]; exact hc.2.2
      have := ((hp2.map fkey).nodup_iff).2 hn
      rw [List.map_map] at this
      exact this
    refine (callsIn_wide.1 (steps_walk 6 (Nat.le_refl _) g.blk g0.blk g1.blk g2.blk g3.blk arr c w hS hb.blk ha hst hel (by omega) (srt := isort fless) (fun xs => by rw [isort_map]; rfl) hkey)).mono ?_
    rintro e w' ⟨v, xs, S1, gr, rfl, hp, rfl, hvr, hgr, hB, q1, q2, q3⟩
    rw [one xs hp] at hvr
    have hrow := hvr.2
    have hfr : FRep w' (fun b => S1 b ∨ (gr.nil = false ∧ b = gr.blk)) (.list 7 (isort fless (e0.map entVal))) (.slice gr.base (isort fless (e0.map entVal)).length gr.cap) := by
      cases hn : gr.nil with
      | true =>
        rw [if_pos hn] at hrow
        rw [hrow.1]
        exact nil_list
      | false =>
        rw [if_neg (by simp [hn])] at hrow
        obtain ⟨vals, e, h1, h2, h3⟩ := hrow
        exact FRep.list_iff.2 ⟨_, _, gr.blk, gr.off, rfl, hvr.1, fun _ => ⟨by simp [Gh.base, hn], .inr ⟨rfl, rfl⟩⟩, h3.mono (fun _ _ => rfl) (fun _ h => .inl h) rfl⟩
    refine ⟨fun b => S1 b ∨ (gr.nil = false ∧ b = gr.blk), G, [.slice gr.base (isort fless (e0.map entVal)).length gr.cap], by rw [one xs hp]; rfl, ?_, ⟨hB.size, fun b h _ => hB.block b h, hB.os, hB.tape, hB.output, fun b h => ?_, fun b h => .inl (q1 b h), fun b h => ?_⟩, ⟨fun i g' sh h hn => ?_, hgo.inj⟩⟩
    · exact book_back (U := [.lst 7]) (G' := G) hb hS hB (S' := fun b => S1 b ∨ (gr.nil = false ∧ b = gr.blk)) (fun b h => .inl (q1 b h)) ⟨_, [], .list 7 _, [], rfl, rfl, rfl, hfr, rfl, rfl, hG⟩
    · rcases h with h | ⟨h1, rfl⟩
      · exact q2 b h
      · exact (hgr h1).2.1
    · rcases h with h | ⟨h1, rfl⟩
      · rcases q3 b h with h | h
        · exact .inl h
        · exact .inr (.inr h)
      · exact .inr (.inr (hgr h1).1)
    · obtain ⟨h1, h2, h3⟩ := hgo.own i g' sh h hn
      refine ⟨Nat.lt_of_lt_of_le h1 hB.size, fun h => ?_, h3⟩
      rcases h with h | ⟨h4, h5⟩
      · rcases q3 _ h with h | h
        · exact h2 h
        · omega
      · have := (hgr h4).1
        omega
  · cases hL

/-! ### child -/

theorem name_val {w : World} {S : Nat → Prop} {x : FV} {u : Value} (h : nameOk x = true) (hr : FRep w S x u) : ∃ (t : ByteArray) (j : Int), u = .agg #[.string t, .int .i64 j] ∧ x = .agg [.str t, .int .i64 j] := by
  unfold nameOk at h
  split at h
  · rename_i t j
    cases hr with
    | agg cs vs hs hc =>
      have hl : vs.size = 2 := hs
      have e0 := hc 0 _ rfl
      have e1 := hc 1 _ rfl
      obtain ⟨l⟩ := vs
      simp only [List.size_toArray] at hl
      obtain ⟨x0, l, rfl⟩ : ∃ x0 l', l = x0 :: l' := by cases l with | nil => simp at hl | cons x l => exact ⟨_, _, rfl⟩
      obtain ⟨x1, l, rfl⟩ : ∃ x0 l', l = x0 :: l' := by cases l with | nil => simp at hl | cons x l => exact ⟨_, _, rfl⟩
      obtain rfl : l = [] := by simpa using hl
      simp at e0 e1
      cases e0; cases e1
      exact ⟨t, j, rfl, rfl⟩
  · cases h

def BlV.fv (x : BlV) (q : List FV) : FV := .agg [.str x.w, .int .i64 x.a, .int .i64 x.b, .bool x.c, .int .i64 x.d, .list 1 q, .int .i64 x.e, .int .i64 x.f]

theorem block_val {w : World} {S : Nat → Prop} {x : FV} {u : Value} (h : blockOk x = true) (hr : FRep w S x u) : ∃ (y : BlV) (q : List FV), u = y.v ∧ x = y.fv q ∧ y.n = q.length ∧ FRep w S (.list 1 q) (.slice y.q y.n y.k) := by
  unfold blockOk at h
  split at h
  · rename_i s a b c d q e f
    cases hr with
    | agg cs vs hs hc =>
      have hl : vs.size = 8 := hs
      have e0 := hc 0 _ rfl
      have e1 := hc 1 _ rfl
      have e2 := hc 2 _ rfl
      have e3 := hc 3 _ rfl
      have e4 := hc 4 _ rfl
      have e5 := hc 5 _ rfl
      have e6 := hc 6 _ rfl
      have e7 := hc 7 _ rfl
      obtain ⟨l⟩ := vs
      simp only [List.size_toArray] at hl
      obtain ⟨x0, l, rfl⟩ : ∃ x0 l', l = x0 :: l' := by cases l with | nil => simp at hl | cons x l => exact ⟨_, _, rfl⟩
      obtain ⟨x1, l, rfl⟩ : ∃ x0 l', l = x0 :: l' := by cases l with | nil => simp at hl | cons x l => exact ⟨_, _, rfl⟩
      obtain ⟨x2, l, rfl⟩ : ∃ x0 l', l = x0 :: l' := by cases l with | nil => simp at hl | cons x l => exact ⟨_, _, rfl⟩
      obtain ⟨x3, l, rfl⟩ : ∃ x0 l', l = x0 :: l' := by cases l with | nil => simp at hl | cons x l => exact ⟨_, _, rfl⟩
      obtain ⟨x4, l, rfl⟩ : ∃ x0 l', l = x0 :: l' := by cases l with | nil => simp at hl | cons x l => exact ⟨_, _, rfl⟩
      obtain ⟨x5, l, rfl⟩ : ∃ x0 l', l = x0 :: l' := by cases l with | nil => simp at hl | cons x l => exact ⟨_, _, rfl⟩
      obtain ⟨x6, l, rfl⟩ : ∃ x0 l', l = x0 :: l' := by cases l with | nil => simp at hl | cons x l => exact ⟨_, _, rfl⟩
      obtain ⟨x7, l, rfl⟩ : ∃ x0 l', l = x0 :: l' := by cases l with | nil => simp at hl | cons x l => exact ⟨_, _, rfl⟩
      obtain rfl : l = [] := by simpa using hl
      simp at e0 e1 e2 e3 e4 e5 e6 e7
      obtain ⟨aa, cap, bb, oo, rfl, hq⟩ := FRep.list_iff.1 e5
      have e5' := e5
      cases e0; cases e1; cases e2; cases e3; cases e4; cases e6; cases e7
      exact ⟨⟨s, a, b, c, d, aa, q.length, cap, e, f⟩, q, rfl, rfl, rfl, e5'⟩
  · cases h

/-- a map's entries, as the range meets them -/
theorem child_ents {w : World} {S : Nat → Prop} {kag : Bool} {ks : List CK} {z : FV} {s : ByteArray} {m : Int} : ∀ {es : List FV} {arr : List MapEntry}, All2 (ERep w S kag ks z) es arr → (es.map entKey).all nameOk = true → (es.map entVal).all blockOk = true →
    (∀ e, e ∈ arr → ∃ (t : ByteArray) (j : Int) (x : BlV), e.key = .agg #[.string t, .int .i64 j] ∧ e.val = x.v) ∧ (es.any (childB s m) = true ↔ ∃ x, x ∈ arr ∧ isChild s m x.key x.val)
  | _, _, .nil, _, _ => ⟨(fun e h => by cases h), by simp⟩
  | _, _, .cons (x := x) (y := y) h t, hk, hv => by
    simp only [List.map_cons, List.all_cons, Bool.and_eq_true] at hk hv
    obtain ⟨q1, q2⟩ := child_ents (s := s) (m := m) t hk.2 hv.2
    obtain ⟨k, v, rfl, _, _, hrk, hrv⟩ := h
    obtain ⟨tt, j, hy1, hx1⟩ := name_val hk.1 hrk
    obtain ⟨yb, q, hy2, hx2, _, _⟩ := block_val hv.1 hrv
    simp only [entKey, entVal] at hx1 hx2
    subst hx1 hx2
    refine ⟨fun e he => ?_, ?_⟩
    · rcases List.mem_cons.1 he with rfl | he
      · exact ⟨tt, j, yb, hy1, hy2⟩
      · exact q1 e he
    · rw [List.any_cons, Bool.or_eq_true, q2]
      have hc : childB s m (.agg [.agg [.str tt, .int .i64 j], yb.fv q, .int .i64 y.born]) = true ↔ isChild s m y.key y.val := by
        simp only [childB, entKey, entVal, BlV.fv, Bool.and_eq_true, decide_eq_true_eq]
        constructor
        · rintro ⟨⟨h1, h2⟩, h3⟩
          exact ⟨tt, j, yb, hy1, hy2, h1, h2, h3⟩
        · rintro ⟨t', j', x', p1, p2, p3, p4, p5⟩
          rw [hy1] at p1
          rw [hy2] at p2
          simp only [Value.agg.injEq, Array.mk.injEq, List.cons.injEq, Value.string.injEq, Value.int.injEq, and_true, true_and] at p1 p2
          obtain ⟨rfl, _⟩ := p1
          have p6 : yb.e = x'.e := by simp_all
          exact ⟨⟨p3, p6.trans p4⟩, p5⟩
      rw [hc]
      constructor
      · rintro (h | ⟨z, hz, h⟩)
        · exact ⟨y, by simp, h⟩
        · exact ⟨z, List.mem_cons_of_mem _ hz, h⟩
      · rintro ⟨z, hz, h⟩
        rcases List.mem_cons.1 hz with rfl | hz
        · exact .inl h
        · exact .inr ⟨z, hz, h⟩

def childI : FnI := (fnT 63).getD ⟨[], [], []⟩
theorem childI_is : En.fn 63 = some childI := by kernel_rfl
theorem childI_eq : childI = ⟨bookT ++ [.agg 2, .str, .int .i64], bookT ++ [.skip, .bool], []⟩ := by kernel_rfl

theorem child_ok {L L' : List FV} (hL : childExt L = some L') : Enters En.P 63 ∧ CSpec En.P 63 childI L L' := by
  refine ⟨⟨Try.f63, Try.func63, rfl, by kernel_rfl⟩, fun w S V G hS hT hgo => ?_⟩
  rw [childI_eq] at hT ⊢
  obtain ⟨V1, L1, g, g0, g1, g2, g3, ty, e0, e1, e2, e3, c0, c1, c2, c3, hb⟩ := book_rep hT
  have hbV := hb.V
  have hbL := hb.L
  obtain ⟨cs, V2, rfl, hcs, hr⟩ := hb.rest
  obtain ⟨v1, V3, x1, L2, hV3, rfl, ht1, hf1, hr⟩ := hr
  obtain ⟨v2, V4, x2, L3, rfl, rfl, ht2, hf2, hr⟩ := hr
  obtain ⟨rfl, rfl, hG⟩ := hr
  obtain ⟨l⟩ := cs
  simp only [List.size_toArray] at hcs
  obtain ⟨y0, l, rfl⟩ : ∃ x0 l', l = x0 :: l' := by cases l with | nil => simp at hcs | cons x l => exact ⟨_, _, rfl⟩
  obtain ⟨y1, l, rfl⟩ : ∃ x0 l', l = x0 :: l' := by cases l with | nil => simp at hcs | cons x l => exact ⟨_, _, rfl⟩
  obtain rfl : l = [] := by simpa using hcs
  simp only [List.cons_append, List.nil_append, List.cons.injEq] at hV3
  obtain ⟨rfl, rfl, rfl⟩ := hV3
  cases hf1 <;> simp only [leafT] at ht1
  cases hf2 <;> simp only [leafT] at ht2
  rename_i s k m
  subst ht2
  subst hbV
  rw [hbL] at hL
  simp only [List.cons_append, List.nil_append, childExt] at hL
  split at hL
  · rename_i hc
    cases hL
    obtain ⟨arr, c, ha, hcc, hst, hz, hall⟩ := hb.m1
    obtain ⟨hel, hany⟩ := child_ents (s := s) (m := m) hall hc.1 hc.2
    refine (callsIn_wide.1 (child_walk 6 g.blk g1.blk g0.blk g2.blk g3.blk arr c s m w hb.blk ha hst hel)).mono ?_
    rintro e w' ⟨r, rfl, hr, hB⟩
    have hr2 : r = e1.any (childB s m) := by rw [Bool.eq_iff_iff, hr, hany]
    subst hr2
    refine ⟨S, G, [.bool (e1.any (childB s m))], rfl, ?_, ⟨hB.size, fun b h _ => hB.block b h, hB.os, hB.tape, hB.output, fun b h => Nat.lt_of_lt_of_le (hS b h) hB.size, fun b h => h, fun b h => .inl h⟩, ⟨fun i g' sh h hn => ?_, hgo.inj⟩⟩
    · exact book_back (U := [.skip, .bool]) (G' := G) hb hS hB (S' := S) (fun b h => h) ⟨_, _, rfl, _, [], .bool _, [], rfl, rfl, trivial, .bool _, rfl, rfl, hG⟩
    · obtain ⟨h1, h2, h3⟩ := hgo.own i g' sh h hn
      exact ⟨Nat.lt_of_lt_of_le h1 hB.size, h2, h3⟩
  · cases hL

theorem clone_is : En.fn 44 = some ⟨[.lst 1], [.skip, .lst 1], []⟩ := by kernel_rfl

end Rf
