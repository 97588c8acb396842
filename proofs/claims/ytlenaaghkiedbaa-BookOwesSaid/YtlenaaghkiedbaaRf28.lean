/- A law's row: out of what is computed of its leaves. -/
import Derived.Test.YtlenaaghkiedbaaRf27
import Derived.Carry
import Derived.WideShapes
namespace Rf
open Go Go.RowKit

def tokOf : Shp → Tok
  | .int k => .int k
  | .bool => .bool
  | .str => .str
  | .lst _ _ es => .lst es.length

def toksOf (x : Bool × List Shp) : List Tok := bif x.1 then .agg x.2.length :: x.2.map tokOf else x.2.map tokOf

/-- the shapes of several types, and their tokens -/
def shpsOf (ty : Nat → Option TyI) (n : Nat) : List TypeId → Option (List Shp × List Tok)
  | [] => some ([], [])
  | t :: ts => match shpOf ty n t, shpsOf ty n ts with
    | some x, some (ss, T) => some (x.2 ++ ss, toksOf x ++ T)
    | _, _ => none

section
variable {E : Env} {H : Type} {enc : TypeId × Value → H} {W : World}

theorem leaf_tok {s : Shp} {x : FV} (h : Fits s x) : leafT (tokOf s) x := by
  cases h with
  | int _ _ => rfl
  | bool _ => trivial
  | str _ => trivial
  | lst _ _ _ => rfl

theorem trep_leaves {S : Nat → Prop} : ∀ {ss : List Shp} {fs : List FV} {cs : List Value}, All2 Fits ss fs → All2 (FRep W S) fs cs → ∀ {T : List Tok} {V : List Value} {L : List FV} {acc fin : GA}, TRep W S T V L acc fin →
    TRep W S (ss.map tokOf ++ T) (cs ++ V) (fs ++ L) acc fin
  | _, _, _, .nil, .nil, T, V, L, acc, fin, h => h
  | _, _, _, .cons (x := s) (y := x) hf tf, .cons (y := v) hr tr, T, V, L, acc, fin, h => by
    have ih := trep_leaves tf tr h
    have hl := leaf_tok hf
    cases hf with
    | int h1 h2 => exact ⟨v, _, _, _, rfl, rfl, hl, hr, ih⟩
    | bool b => exact ⟨v, _, _, _, rfl, rfl, hl, hr, ih⟩
    | str h1 => exact ⟨v, _, _, _, rfl, rfl, hl, hr, ih⟩
    | lst h1 h2 h3 => exact ⟨v, _, _, _, rfl, rfl, hl, hr, ih⟩

theorem arg_rep (hE : EnvOk E) {n : Nat} {t : TypeId} {x : Bool × List Shp} (hx : shpOf E.ty n t = some x) {base : Nat} {sp : Nat → Bool} {held : Bool} {v : Value} {d : DataW H} {p : List MemPlace} (hd : DataW.Trod enc E.P W 0 sp held t v d p) (hv : Value.okWide E.P W .any base t v)
    (hw : (d.weights E.P t).all (· ≤ reachBytes) = true) :
    ∃ fs, All2 Fits x.2 fs ∧ ∀ {T : List Tok} {V : List Value} {L : List FV} {acc fin : GA}, TRep W (Old W) T V L acc fin → TRep W (Old W) (toksOf x ++ T) (v :: V) (fs ++ L) acc fin := by
  obtain ⟨ag, ss⟩ := x
  obtain ⟨fuel, hf⟩ := hd
  obtain ⟨fs, h1, h2⟩ := trod_rep hE n t ag ss hx fuel _ d p hf hw
  refine ⟨fs, h1, fun hT => ?_⟩
  obtain ⟨i, hi⟩ := ty_of_shp hx
  obtain ⟨inf, dd, z, hTy⟩ := chkTy_ok (hE.ty _ _ hi)
  obtain ⟨s1, s2, _, _⟩ := shpOf_size hTy hi hx
  cases n with
  | zero => simp [shpOf] at hx
  | succ n =>
    have hdesc := hTy.desc
    cases ag with
    | true =>
      have hagg : ∃ cs, v = .agg cs := by
        cases dd <;> simp only [descOk, ← s2, Bool.not_true, Bool.false_and, Bool.false_eq_true] at hdesc
        · unfold Value.okWide at hv
          rw [hTy.und] at hv
          obtain ⟨cs, h, _⟩ := hv
          exact ⟨cs, h⟩
        · unfold Value.okWide at hv
          rw [hTy.und] at hv
          obtain ⟨cs, h, _⟩ := hv
          exact ⟨cs, h⟩
      obtain ⟨cs, rfl⟩ := hagg
      simp only [Value.cells] at h2
      have e1 : ss.length = fs.length := h1.len
      have e2 : fs.length = cs.size := by have := h2.len; simpa using this
      exact ⟨cs, _, rfl, by rw [← e2, ← e1], trep_leaves h1 h2 hT⟩
    | false =>
      have hone : v.cells = #[v] := by
        have hsc := hTy.scalar s2.symm
        unfold shpOf at hx
        rw [hi] at hx
        simp only at hx
        split at hx
        · rename_i _ ha; rw [← s2] at ha; cases ha
        all_goals first | (cases hx; done) | skip
        all_goals (rename_i hk; rw [hk] at hsc; unfold ck1 at hsc; split at hsc <;> first | (simp at hsc; done) | (rename_i q; cases q; done) | skip)
        · obtain ⟨m, rfl⟩ := WideShapes.okWide_int hTy.und hv; rfl
        · obtain ⟨m, rfl⟩ := WideShapes.okWide_bool hTy.und hv; rfl
        · obtain ⟨m, rfl⟩ := WideShapes.okWide_string hTy.und hv; rfl
        · obtain ⟨a, l, c, rfl⟩ := WideShapes.okWide_slice hTy.und hv; rfl
      rw [hone] at h2
      exact trep_leaves h1 h2 hT

theorem args_rep (hE : EnvOk E) {n base : Nat} {sp : Nat → Bool} {held : Bool} : ∀ {ts : List TypeId} {ss : List Shp} {T : List Tok}, shpsOf E.ty n ts = some (ss, T) → ∀ {vs : List Value} {ds : List (DataW H)} {p : List MemPlace},
    DataW.TrodAll enc E.P W 0 sp held ts vs ds p → (∀ (j : Nat) t v, ts[j]? = some t → vs[j]? = some v → Value.okWide E.P W .any base t v) → (DataW.weightsEach E.P ts ds).all (· ≤ reachBytes) = true →
    ∃ L, All2 Fits ss L ∧ TRep W (Old W) T vs L [] []
  | [], ss, T, h, vs, ds, p, hA, _, _ => by
    simp only [shpsOf, Option.some.injEq, Prod.mk.injEq] at h
    obtain ⟨rfl, rfl⟩ := h
    cases vs <;> cases ds <;> simp only [DataW.TrodAll] at hA
    exact ⟨[], .nil, rfl, rfl, rfl⟩
  | t :: ts, ss, T, h, vs, ds, p, hA, hv, hw => by
    unfold shpsOf at h
    split at h
    · rename_i x ss' T' hx hs
      cases h
      cases vs <;> cases ds <;> simp only [DataW.TrodAll] at hA
      rename_i v vs d ds
      obtain ⟨p1, p2, h1, h2, _⟩ := hA
      simp only [DataW.weightsEach, List.all_append, Bool.and_eq_true] at hw
      obtain ⟨L, l1, l2⟩ := args_rep hE hs h2 (fun j t v q1 q2 => hv (j + 1) t v (by simpa using q1) (by simpa using q2)) hw.2
      obtain ⟨fs, f1, f2⟩ := arg_rep hE hx h1 (hv 0 t v rfl rfl) hw.1
      exact ⟨fs ++ L, f1.app l1, f2 l2⟩
    · cases h

theorem skips_rep {S : Nat → Prop} : ∀ {n : Nat} {V R : List Value} {L : List FV} {fin : GA}, V.length = n → TRep W S (List.replicate n .skip ++ [.bool]) (V ++ R) L [] fin → L = [.bool true] → R = [.bool true]
  | 0, V, R, L, fin, hV, h, hL => by
    have : V = [] := List.length_eq_zero_iff.1 hV
    subst this
    subst hL
    obtain ⟨v, V', x, L', h1, h2, h3, h4, h5⟩ := h
    cases h2
    cases h4
    obtain ⟨rfl, _, _⟩ := h5
    simpa using h1
  | n + 1, V, R, L, fin, hV, h, hL => by
    cases V with
    | nil => simp at hV
    | cons v V =>
      obtain ⟨v', V', h1, h2⟩ := h
      simp only [List.cons_append, List.cons.injEq] at h1
      obtain ⟨_, rfl⟩ := h1
      exact skips_rep (by simpa using hV) h2 hL

/-- A LAW: called with whatever reads as data, it returns true, and leaves what was there as it was, if it computes true of all leaves that fit. -/
theorem law_calls (hE : EnvOk E) (hX : ExtOk E) {f : FuncId} {i : FnI} (hf : E.fn f = some i) {n base : Nat} {sp : Nat → Bool} {held : Bool} {ts : List TypeId} {ss : List Shp} (hs : shpsOf E.ty n ts = some (ss, i.tin)) (ho : i.tout = List.replicate ts.length .skip ++ [.bool])
    {args : Array Value} {ds : List (DataW H)} {p : List MemPlace} (hA : DataW.TrodAll enc E.P W 0 sp held ts args.toList ds p) (hv : ∀ (j : Nat) t v, ts[j]? = some t → args.toList[j]? = some v → Value.okWide E.P W .any base t v)
    (hw : (DataW.weightsEach E.P ts ds).all (· ≤ reachBytes) = true) (pure : ∀ L, All2 Fits ss L → ∃ n, evF E n f L = some [.bool true]) :
    Calls E.P f args W fun e W' => e = .returned (.bool true) ∧ Below W.heap.size W W' := by
  obtain ⟨L, l1, l2⟩ := args_rep hE hs hA hv hw
  obtain ⟨m, hm⟩ := pure L l1
  obtain ⟨_, hC⟩ := evF_ok hE hX m f i L _ hf hm
  have hlen : args.toList.length = ts.length := by
    have : ∀ {ts : List TypeId} {vs : List Value} {ds : List (DataW H)} {p : List MemPlace}, DataW.TrodAll enc E.P W 0 sp held ts vs ds p → vs.length = ts.length := by
      intro ts
      induction ts with
      | nil => intro vs ds p h; cases vs <;> cases ds <;> simp only [DataW.TrodAll] at h; rfl
      | cons t ts ih =>
        intro vs ds p h
        cases vs <;> cases ds <;> simp only [DataW.TrodAll] at h
        obtain ⟨_, _, _, h, _⟩ := h
        simp [ih h]
    exact this hA
  have := hC W (Old W) args.toList [] (fun b h => h) l2 ⟨fun i g sh h => by simp at h, fun i j g g' sh sh' h => by simp at h⟩
  rw [show args.toList.toArray = args by simp] at this
  refine this.mono fun e W' ⟨S', fin', R, h1, h2, h3, _⟩ => ?_
  rw [ho] at h2
  have hR := skips_rep hlen h2 rfl
  subst hR
  exact ⟨h1, h3.os, h3.tape, h3.output, h3.size, fun b hb => h3.block b hb fun ⟨i, g, sh, q, _⟩ => by simp at q⟩

/-- the arguments read as they did -/
theorem trodAll_below (hl : laidOutB E.P = true) {W' : World} (hb : Below W.heap.size W W') : ∀ {ts : List TypeId} {vs : List Value} {ds : List (DataW H)} {p : List MemPlace}, ts.all (fun t => E.P.readableRec t && decide (t < E.P.types.size)) = true →
    DataW.TrodAll enc E.P W 0 (fun _ => true) true ts vs ds p → (∀ x ∈ p, x.block < W.heap.size) → DataW.TrodAll enc E.P W' 0 (fun b => decide (b < W.heap.size)) true ts vs ds p
  | [], vs, ds, p, _, h, _ => by cases vs <;> cases ds <;> simp only [DataW.TrodAll] at h ⊢; exact h
  | t :: ts, vs, ds, p, hr, h, hlt => by
    cases vs <;> cases ds <;> simp only [DataW.TrodAll] at h ⊢
    obtain ⟨p1, p2, h1, h2, rfl⟩ := h
    simp only [List.all_cons, Bool.and_eq_true, decide_eq_true_eq] at hr
    exact ⟨p1, p2, Below.trod hl hr.1.1 hr.1.2 h1 hb fun x hx => hlt x (List.mem_append_left _ hx), trodAll_below hl hb hr.2 h2 fun x hx => hlt x (List.mem_append_right _ hx), rfl⟩

end
end Rf
