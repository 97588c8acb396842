/- Maps: what is written. -/
import Derived.Test.YtlenaaghkiedbaaRf14N
namespace Rf
open Go

section
variable {w : World} {S : Nat → Prop}

theorem key_one {kag : Bool} {ks : List CK} {x y : FV} {v : Value} (hx : keyIs kag ks x = true) (hy : keyIs kag ks y = true) (hv : FRep w S x v) (hu : FRep w S y v) : x = y := by
  cases kag with
  | false =>
    obtain ⟨c, rfl, h1, _⟩ := keyIs_one hx
    obtain ⟨c', hc, h2, _⟩ := keyIs_one hy
    cases hc
    exact kfit_one h1 h2 hv hu
  | true =>
    obtain ⟨cs, rfl, h1⟩ := keyIs_agg hx
    obtain ⟨ds, rfl, h2⟩ := keyIs_agg hy
    obtain ⟨vs, rfl, c1⟩ := agg_cells hv
    obtain ⟨us, hu', c2⟩ := agg_cells hu
    cases hu'
    have key : ∀ {ks : List CK} {cs ds : List FV} {j : Nat}, kfits ks cs = true → kfits ks ds = true → CellsAt w S cs j vs → CellsAt w S ds j vs → cs = ds := by
      intro ks
      induction ks with
      | nil => intro cs ds j h1 h2 _ _; cases cs <;> cases ds <;> simp_all [kfits]
      | cons c ks ih =>
        intro cs ds j h1 h2 q1 q2
        cases cs with
        | nil => simp [kfits] at h1
        | cons x cs =>
          cases ds with
          | nil => simp [kfits] at h2
          | cons y ds =>
            simp only [kfits, Bool.and_eq_true] at h1 h2
            obtain ⟨v, a1, a2⟩ := q1 0 x rfl
            obtain ⟨u, b1, b2⟩ := q2 0 y rfl
            rw [a1] at b1; cases b1
            rw [kfit_one h1.1 h2.1 a2 b2, ih h1.2 h2.2 q1.tail q2.tail]
    rw [key h1 h2 c1 c2]

theorem All2.getR' {α β : Type} {R : α → β → Prop} {xs : List α} {ys : List β} (h : All2 R xs ys) : ∀ (j : Nat) (y : β), ys[j]? = some y → ∃ x, xs[j]? = some x ∧ R x y := by
  induction h with
  | nil => intro j x hj; simp at hj
  | cons h _ ih =>
    intro j x hj
    cases j with
    | zero => simp at hj; subst hj; exact ⟨_, rfl, h⟩
    | succ j => simpa using ih j x (by simpa using hj)

theorem fnd_none {kag : Bool} {ks : List CK} {z k : FV} {kv : Value} (hk : keyIs kag ks k = true) (hkv : FRep w S k kv) {es : List FV} {l : List MapEntry} (h : All2 (ERep w S kag ks z) es l) (hn : ∀ e, e ∈ es → keq k (entKey e) = false) :
    ∀ x ∈ l, x.key ≠ kv := by
  intro x hx he
  obtain ⟨j, hj⟩ := List.mem_iff_getElem?.1 hx
  obtain ⟨e, h1, h2⟩ := h.getR' j x hj
  obtain ⟨q1, q2, _⟩ := h2.key
  rw [he] at q2
  have := hn e (List.mem_of_getElem? h1)
  rw [(keq_eq hk q1).2 (key_one hk q1 hkv q2)] at this
  cases this
theorem But.setBlock (w : World) (b : Nat) (ob : Obj) : But b w { w with heap := w.heap.setIfInBounds b ob } :=
  ⟨by simp, fun k hk _ => by simp only [Array.getElem?_setIfInBounds]; rw [if_neg (Ne.symm hk)], rfl, rfl, rfl⟩

end

section
variable {E : Env} {call : FuncId → List FV → Res} {X : Cx} {M : Mem} {a : Act} {w : World} {γ : Nat → Gh} {S : Nat → Prop} {us : List (Key × Ent)} {o : Oper}

/-- a map is written -/
theorem Rel.mapWrite (h : Rel X M a w γ S) {id : Nat} {kag : Bool} {ks : List CK} {z : FV} (he : hdOf M id = some (.mapH kag ks z)) {M' : Mem} (hM : SameBut id M M') (he' : hdOf M' id = some (.mapH kag ks z))
    {es es2 : List FV} {clk2 : Int} {arr : Array MapEntry} {c : Nat} (g0 : Mem.get (.cell id 0) M' = some (.map es c)) (g1 : Mem.get (.cell id 1) M' = some (.map es2 clk2)) (hv : ∀ k, mgetD es2 k z = mgetD es k z)
    (hs : MapKept.Stamped arr c) (hzz : valIs z z = true) (hall : All2 (ERep w S kag ks z) es arr.toList) : Rel X M' a { w with heap := w.heap.setIfInBounds (γ id).blk (.map arr c) } γ S := by
  have own := h.own id _ he trivial
  have hb := But.setBlock w (γ id).blk (.map arr c)
  have hw := h.toHRel.sblock hb own.2.1
  have hn := (h.head id _ he).1
  refine h.change hM he trivial he' ⟨rfl, rfl, by simp⟩ hb (fun hh => ⟨hn, es, c, es2, clk2, g0, g1, hv, arr, c, ?_, rfl, hs, hzz, hall.mono fun _ _ q => q.mono hw (fun _ h => h)⟩) trivial
  simp [own.1]

theorem sameBut_cells {id : Nat} {e0 e1 : Ent} {M : Mem} : SameBut id M ((.cell id 0, e0) :: (.cell id 1, e1) :: M) := by
  refine ⟨fun i hi => ?_, fun i j hi => ?_, fun t => ?_⟩
  · rw [hdOf, hdOf, Mem.get_cons, if_neg (by simp), Mem.get_cons, if_neg (by simp)]
  · rw [Mem.get_cons, if_neg (by simp [hi]), Mem.get_cons, if_neg (by simp [hi])]
  · rw [Mem.get_cons, if_neg (by simp), Mem.get_cons, if_neg (by simp)]

theorem sameBut_cell {id : Nat} {e0 : Ent} {M : Mem} : SameBut id M ((.cell id 0, e0) :: M) := by
  refine ⟨fun i hi => ?_, fun i j hi => ?_, fun t => ?_⟩
  · rw [hdOf, hdOf, Mem.get_cons, if_neg (by simp)]
  · rw [Mem.get_cons, if_neg (by simp [hi])]
  · rw [Mem.get_cons, if_neg (by simp)]

/-- both of a map's cells are written -/
theorem Rel.mapWrite2 (h : Rel X M a w γ S) {id : Nat} {kag : Bool} {ks : List CK} {z : FV} (he : hdOf M id = some (.mapH kag ks z)) {es : List FV} {arr : Array MapEntry} {c : Nat} {clk : Int} (hclk : clk = c)
    (hs : MapKept.Stamped arr c) (hzz : valIs z z = true) (hall : All2 (ERep w S kag ks z) es arr.toList) : Rel X (wrMap id es clk M) a { w with heap := w.heap.setIfInBounds (γ id).blk (.map arr c) } γ S := by
  subst hclk
  refine h.mapWrite (M' := (.cell id 0, .map es c) :: (.cell id 1, .map es c) :: M) he sameBut_cells (by rw [hdOf, Mem.get_cons, if_neg (by simp), Mem.get_cons, if_neg (by simp)]; exact he) (es := es) (es2 := es) (clk2 := c) (by rw [Mem.get_cons, if_pos rfl]) (by rw [Mem.get_cons, if_neg (by simp), Mem.get_cons, if_pos rfl]) (fun _ => rfl) hs hzz hall

theorem wrMap_app (id : Nat) (es : List FV) (clk : Int) (us : List (Key × Ent)) : wrMap id es clk us ++ M = wrMap id es clk (us ++ M) := rfl

/-- what is frozen leaves a map as it was -/
theorem FzList.mapH {fz : List (Key × Ent)} (h : FzList M fz) {id : Nat} {kag : Bool} {ks : List CK} {z : FV} (he : hdOf M id = some (.mapH kag ks z)) :
    hdOf (fz ++ M) id = some (.mapH kag ks z) ∧ ∀ j, Mem.get (.cell id j) (fz ++ M) = Mem.get (.cell id j) M := by
  refine ⟨?_, fun j => ?_⟩
  · rcases h.get (.head id) with ⟨q, _⟩ | ⟨id', s, xs, q1, q2, q3⟩
    · rw [hdOf, q]; exact he
    · cases q1
      rcases q3 with q3 | q3 <;> rw [he] at q3 <;> cases q3
  · rcases h.get (.cell id j) with ⟨q, _⟩ | ⟨id', s, xs, q1, q2, q3⟩
    · exact q
    · cases q1

theorem mput_rep {kag : Bool} {ks : List CK} {z k y : FV} {kv yv : Value} {es : List FV} {arr : Array MapEntry} {c : Nat} (hall : All2 (ERep w S kag ks z) es arr.toList) (hs : MapKept.Stamped arr c) (hk : keyIs kag ks k = true) (hkv : FRep w S k kv)
    (hy : valIs z y = true) (hyv : FRep w S y yv) :
    ∃ arr' c', (match fnd k es arr.toList 0 with | some (i, _) => (arr.modify i fun e => { e with key := kv, val := yv }, c) | none => (arr.push { key := kv, val := yv, born := c }, c + 1)) = (arr', c') ∧
      mclk es k c = (c' : Int) ∧ MapKept.Stamped arr' c' ∧ All2 (ERep w S kag ks z) (mput es k y c) arr'.toList := by
  rcases fnd_spec (k := k) (i := 0) hall with ⟨h1, h2, _, h4⟩ | ⟨j, x, e, h1, h2, h3, h4, h5, h6, _, h8⟩
  · rw [h1]
    refine ⟨_, _, rfl, by simp [mclk, h2], MapKept.stamped_push hs (fnd_none hk hkv hall h4), ?_⟩
    rw [(mput_new h4 y c).1, Array.toList_push]
    exact hall.app (.cons ⟨k, y, rfl, hk, hy, hkv, hyv⟩ .nil)
  · rw [h1]
    obtain ⟨q1, q2, q3, q4, q5⟩ := h4.key
    have hkx : k = entKey x := (keq_eq hk q1).1 h5
    have hkk : e.key = kv := by rw [← hkx] at q2; exact (key_val hk q2 hkv).1
    simp only [Nat.zero_add]
    refine ⟨_, _, rfl, by simp [mclk, h6], MapKept.stamped_modify hs _ _ (fun _ _ => rfl) (fun e' _ he' => ?_), ?_⟩
    · have : arr[j]? = some e := by simpa using h3
      rw [this] at he'; cases he'; exact hkk.symm
    · rw [(h8 y c).2.1, modify_toList arr j e _ h3]
      exact hall.set ⟨k, y, by rw [q5], hk, hy, hkv, hyv⟩ j

theorem sim_mapUpdate {t : TypeId} {m k x : Operand} (hE : EnvOk E) (h : Rel X M a w γ S) (hop : o.op = .mapUpdate t m k x ∨ o.op = .insert t m k x) (hg0 : Gets (rtOp E call o) M us) : Goal E.P X M o a w us := by
  have hg1 : Gets (opd m fun m => opd k fun k => opd x fun x => theMap E t m fun id _ kag ks z => keyOf' kag ks k fun k => frz x fun y us =>
    bif valIs z y && o.dst.isNone then rdMap id 0 fun es clk => .ret (wrMap id (mput es k y clk) (mclk es k clk) us) else .fail) M us := by
    rcases hop with hop | hop <;> (unfold rtOp at hg0; simp only [hop] at hg0; exact hg0)
  clear hg0
  have hex : ∀ w', (Instr.mapUpdate t (a.eval m) (a.eval k) (a.eval x)).run E.P w = .ok () w' → (execOp a.eval o).run E.P w = .ok .skip w' := fun w' hw => by
    rcases hop with hop | hop <;> simp [execOp, hop, hw]
  obtain ⟨sm, hm, hg⟩ := gets_opd h hg1
  obtain ⟨sk, hks, hg⟩ := gets_opd h hg
  obtain ⟨sx, hx, hg⟩ := gets_opd h hg
  obtain ⟨id, kt, et, ki, ei, inf, d, z, rfl, hmv, he, hu, hc, hT, hg⟩ := gets_theMap hE hm hg
  obtain ⟨kf, hk, hkv, hg⟩ := gets_keyOf' h hks hg
  obtain ⟨y, fz, hfz, hyo, hg⟩ := gets_frz2 hg
  obtain ⟨hb, hg⟩ := gets_bif hg
  simp only [Bool.and_eq_true, Option.isNone_iff_eq_none] at hb
  obtain ⟨hval, hdst⟩ := hb
  obtain ⟨es, clk, c0, hg⟩ := gets_rdMap hg
  have hus := gets_ret hg
  subst hus
  obtain ⟨S', k1, _, hR⟩ := h.freezes hfz
  obtain ⟨m1, m2⟩ := hfz.mapH he
  obtain ⟨es1, clk1, es', clk', d0, d1, _, arr, c, hbk, hclk, hst, hzz, hall⟩ := mapH_rep hR m1
  rw [m2 0, c0] at d0; cases d0
  have hkv' : FRep w S' kf (a.eval k) := hkv.mono (fun _ _ => rfl) k1
  have hyv : FRep w S' y (a.eval x) := hyo.frep hfz hR (hx.mono (fun _ _ => rfl) k1 hfz.hdLe)
  obtain ⟨arr', c', p1, p2, p3, p4⟩ := mput_rep hall hst hk hkv' hval hyv
  have hf := run_findKey' (w' := w) hc hk hkv' hall
  have hck := run_checkKey' (w' := w) false hc hk hkv'
  refine .skip (γ' := γ) (S' := S') (hex _ ?_) (by rw [hdst, wrMap_app]; exact hR.mapWrite2 m1 (by rw [hclk]; exact p2) p3 hzz (by rw [hclk]; exact p4))
  rw [hmv]
  simp only [Instr.mapUpdate, Sem.run_bind, run_underlying hu, Result.andThen_ok, MapKept.run_getObj_map hbk, hck, hf]
  rcases fnd_spec (k := kf) (i := 0) hall with ⟨h1, h2, _, h4⟩ | ⟨j, x', e, h1, h2, h3, h4, h5, h6, _, h8⟩
  · rw [h1] at p1 ⊢
    cases p1
    simp only [MapKept.run_setObj_map _ hbk]
  · rw [h1] at p1 ⊢
    simp only [Nat.zero_add] at p1 ⊢
    cases p1
    obtain ⟨q1, q2, _⟩ := h4.key
    have hkx : kf = entKey x' := (keq_eq hk q1).1 h5
    rw [← hkx] at q2
    have hj : arr[j]? = some e := by simpa using h3
    simp only [Sem.run_bind, hj, Option.map_some, Option.getD_some, run_keyStays hk q2 hkv', Result.andThen_ok, MapKept.run_setObj_map _ hbk]

theorem ment_rep {kag : Bool} {ks : List CK} {z k : FV} {kv zv : Value} {es : List FV} {arr : Array MapEntry} {c : Nat} (hall : All2 (ERep w S kag ks z) es arr.toList) (hs : MapKept.Stamped arr c) (hk : keyIs kag ks k = true) (hkv : FRep w S k kv)
    (hzz : valIs z z = true) (hzv : FRep w S z zv) :
    ∃ arr' c', (match fnd k es arr.toList 0 with | some (i, _) => (arr.modify i fun e => { e with key := kv }, c) | none => (arr.push { key := kv, val := zv, born := c }, c + 1)) = (arr', c') ∧
      mclk es k c = (c' : Int) ∧ MapKept.Stamped arr' c' ∧ All2 (ERep w S kag ks z) (ment es k z c) arr'.toList := by
  rcases fnd_spec (k := k) (i := 0) hall with ⟨h1, h2, _, h4⟩ | ⟨j, x, e, h1, h2, h3, h4, h5, h6, _, h8⟩
  · rw [h1]
    refine ⟨_, _, rfl, by simp [mclk, h2], MapKept.stamped_push hs (fnd_none hk hkv hall h4), ?_⟩
    rw [(mput_new h4 z c).2.1, Array.toList_push]
    exact hall.app (.cons ⟨k, z, rfl, hk, hzz, hkv, hzv⟩ .nil)
  · rw [h1]
    obtain ⟨q1, q2, q3, q4, q5⟩ := h4.key
    have hkx : k = entKey x := (keq_eq hk q1).1 h5
    have hkk : e.key = kv := by rw [← hkx] at q2; exact (key_val hk q2 hkv).1
    simp only [Nat.zero_add]
    refine ⟨_, _, rfl, by simp [mclk, h6], MapKept.stamped_modify hs _ _ (fun _ _ => rfl) (fun e' _ he' => ?_), ?_⟩
    · have : arr[j]? = some e := by simpa using h3
      rw [this] at he'; cases he'; exact hkk.symm
    · rw [(h8 z c).2.2.1, modify_toList arr j e (fun e => { e with key := kv }) h3]
      have hr : ERep w S kag ks z (.agg [k, entVal x, .int .i64 (entBorn x)]) { e with key := kv } := ⟨k, entVal x, by rw [q5], hk, q3, hkv, q4⟩
      exact hall.set hr j

theorem sim_mapEntry {t : TypeId} {m k : Operand} (hE : EnvOk E) (h : Rel X M a w γ S) (hd : ∀ d, o.dst = some d → X.Dst d) (hop : o.op = .mapEntry t m k) (hg0 : Gets (rtOp E call o) M us) : Goal E.P X M o a w us := by
  unfold rtOp at hg0
  simp only [hop] at hg0
  obtain ⟨sm, hm, hg⟩ := gets_opd h hg0
  obtain ⟨sk, hks, hg⟩ := gets_opd h hg
  obtain ⟨id, kt, et, ki, ei, inf, d, z, rfl, hmv, he, hu, hc, hT, hg⟩ := gets_theMap hE hm hg
  obtain ⟨kf, hk, hkv, hg⟩ := gets_keyOf' h hks hg
  obtain ⟨es, clk, c0, hg⟩ := gets_rdMap hg
  split at hg
  · rename_i dd hdst
    have hus := gets_ret hg
    subst hus
    obtain ⟨es1, clk1, es', clk', d0, d1, hview, arr, c, hbk, rfl, hst, hzz, hall⟩ := mapH_rep h he
    rw [c0] at d0; cases d0
    obtain ⟨hz, _⟩ := zeroF_rep (w := w) (S := S) hT
    obtain ⟨arr', c', p1, p2, p3, p4⟩ := ment_rep hall hst hk hkv hzz hz
    have hR := h.mapWrite he (M' := (.cell id 0, .map (ment es kf ei.zeroF c) (mclk es kf c)) :: M) sameBut_cell (by rw [hdOf, Mem.get_cons, if_neg (by simp)]; exact he) (es := ment es kf ei.zeroF c) (es2 := es') (clk2 := clk') (arr := arr') (c := c')
      (by rw [Mem.get_cons, if_pos rfl, p2]) (by rw [Mem.get_cons, if_neg (by simp)]; exact d1) (fun k' => by rw [hview k', mgetD_ment k' fun k2 h2 => keq_trans h2]) p3 hzz p4
    have hf := run_findKey' (w' := w) hc hk hkv hall
    have hck := run_checkKey' (w' := w) false hc hk hkv
    have fin : ∀ v, (Instr.mapEntry t (.map (some (γ id).blk)) (a.eval k)).run E.P w = .ok (.tuple #[v, goInt (mborn es kf c)]) { w with heap := w.heap.setIfInBounds (γ id).blk (.map arr' c') } → Goal E.P X M o a w
        ((.slot dd, .sv (.tup [.dead, .fv (.int .i64 (mborn es kf c))])) :: [(.cell id 0, .map (ment es kf ei.zeroF c) (mclk es kf c))]) := fun v hv => by
      refine .value (v := .tuple #[v, goInt (mborn es kf c)]) (w' := { w with heap := w.heap.setIfInBounds (γ id).blk (.map arr' c') }) (γ' := γ) (S' := S) (by simp [execOp, hop, hmv, hv]) ?_
      rw [hdst]
      refine hR.put (hd dd hdst) (.tup (by simp) fun j s hj => ?_)
      match j with
      | 0 => simp at hj; subst hj; exact .dead
      | 1 => simp at hj; subst hj; exact .fv (.int _ _)
      | j + 2 => simp at hj
    rcases fnd_spec (k := kf) (i := 0) hall with ⟨h1, h2, _, h4⟩ | ⟨j, x', e, h1, h2, h3, h4, h5, h6, _, h8⟩
    · refine fin z ?_
      rw [h1] at p1
      cases p1
      rw [(mput_new h4 ei.zeroF c).2.2.1]
      simp only [Instr.mapEntry, Sem.run_bind, run_underlying hu, Result.andThen_ok, MapKept.run_getObj_map hbk, hck, hf, h1, hT.runZ, MapKept.run_setObj_map _ hbk, Sem.run_pure]
    · refine fin e.val ?_
      rw [h1] at p1
      simp only [Nat.zero_add] at p1
      cases p1
      obtain ⟨q1, q2, _, _, q5⟩ := h4.key
      have hkx : kf = entKey x' := (keq_eq hk q1).1 h5
      rw [← hkx] at q2
      have hj : arr[j]? = some e := by simpa using h3
      rw [(h8 ei.zeroF c).1, q5]
      simp only [Instr.mapEntry, Sem.run_bind, run_underlying hu, Result.andThen_ok, MapKept.run_getObj_map hbk, hck, hf, h1, Nat.zero_add, hj, Option.map_some, Option.getD_some, run_keyStays hk q2 hkv, MapKept.run_setObj_map _ hbk, Sem.run_pure]
  · exact (gets_fail hg).elim

theorem run_asInt {P : Program} (k : IntKind) (n : Int) (w : World) : (Go.asInt (.int k n)).run P w = .ok n w := rfl

theorem sim_entryStore {t : TypeId} {m s x : Operand} (hE : EnvOk E) (h : Rel X M a w γ S) (hop : o.op = .entryStore t m s x) (hg0 : Gets (rtOp E call o) M us) : Goal E.P X M o a w us := by
  unfold rtOp at hg0
  simp only [hop] at hg0
  obtain ⟨sm, hm, hg1⟩ := gets_opd h hg0
  obtain ⟨ss, hss, hg2⟩ := gets_opd h hg1
  obtain ⟨sx, hx, hg3⟩ := gets_opd h hg2
  obtain ⟨id, kt, et, ki, ei, inf, d, z, rfl, hmv, he, hu, hc, hT, hg⟩ := gets_theMap hE hm hg3
  clear hg0 hg1 hg2 hg3
  split at hg
  · rename_i kk b
    have hsv := hss.int_inv
    obtain ⟨y, fz, hfz, hyo, hg⟩ := gets_frz2 hg
    obtain ⟨hb, hg⟩ := gets_bif hg
    simp only [Bool.and_eq_true, Option.isNone_iff_eq_none] at hb
    obtain ⟨hval, hdst⟩ := hb
    obtain ⟨es, clk, c0, hg⟩ := gets_rdMap hg
    rcases gets_cnd hg with ⟨hhas, hg⟩ | ⟨_, hg⟩
    · have hus := gets_ret hg
      subst hus
      obtain ⟨S', k1, _, hR⟩ := h.freezes hfz
      obtain ⟨m1, m2⟩ := hfz.mapH he
      obtain ⟨es1, clk1, es', clk', d0, d1, _, arr, c, hbk, hclk, hst, hzz, hall⟩ := mapH_rep hR m1
      rw [m2 0, c0] at d0; cases d0
      have hyv : FRep w S' y (a.eval x) := hyo.frep hfz hR (hx.mono (fun _ _ => rfl) k1 hfz.hdLe)
      obtain ⟨j, e, p1, p2, p3⟩ := msetB_spec hval hyv hall hhas
      have hj : arr[j]? = some e := by simpa using p2
      refine .skip (γ' := γ) (S' := S') (w' := { w with heap := w.heap.setIfInBounds (γ id).blk (.map (arr.modify j fun e => { e with val := a.eval x }) c) }) ?_ (by
        rw [hdst, wrMap_app]
        refine hR.mapWrite2 m1 hclk (MapKept.stamped_modify hst _ _ (fun _ _ => rfl) (fun _ _ _ => rfl)) hzz ?_
        rw [modify_toList arr j e _ p2]; exact p3)
      have hfi : arr.findIdx? (fun e => (e.born : Int) == b) = some j := by rw [← p1, ← List.findIdx?_toArray, Array.toArray_toList]
      have hrun : (Instr.entryStore t (.map (some (γ id).blk)) (.int kk b) (a.eval x)).run E.P w = .ok () { w with heap := w.heap.setIfInBounds (γ id).blk (.map (arr.modify j fun e => { e with val := a.eval x }) c) } := by
        simp only [Instr.entryStore, Sem.run_bind, Result.andThen_ok, MapKept.run_getObj_map hbk, run_asInt, hfi, MapKept.run_setObj_map _ hbk]
      simp [execOp, hop, hmv, hsv, hrun]
    · exact (gets_fail hg).elim
  · exact (gets_fail hg).elim

theorem sim_makeMap {t : TypeId} (hE : EnvOk E) (h : Rel X M a w γ S) (hd : ∀ d, o.dst = some d → X.Dst d) (hop : o.op = .makeMap t none) (hg0 : Gets (rtOp E call o) M us) : Goal E.P X M o a w us := by
  unfold rtOp at hg0
  simp only [hop] at hg0
  obtain ⟨kt, et, ki, ei, inf, d, z, hu, hc, hT, hg⟩ := gets_mapTy hE hg0
  split at hg
  · rename_i dd hdst
    obtain ⟨hf, hg⟩ := gets_fresh hg
    have hus := gets_ret hg
    subst hus
    have hM : SameBut dd M ((.head dd, .mapH ki.agg ki.ck ei.zeroF) :: wrMap dd [] 0 M) := by
      refine ⟨fun i hi => ?_, fun i j hi => ?_, fun t => ?_⟩
      · rw [hdOf, hdOf, Mem.get_cons, if_neg (by simpa using hi), wrMap, Mem.get_cons, if_neg (by simp), Mem.get_cons, if_neg (by simp)]
      · rw [Mem.get_cons, if_neg (by simp), wrMap, Mem.get_cons, if_neg (by simp [hi]), Mem.get_cons, if_neg (by simp [hi])]
      · rw [Mem.get_cons, if_neg (by simp), wrMap, Mem.get_cons, if_neg (by simp), Mem.get_cons, if_neg (by simp)]
    have he : hdOf ((.head dd, .mapH ki.agg ki.ck ei.zeroF) :: wrMap dd [] 0 M) dd = some (.mapH ki.agg ki.ck ei.zeroF) := by rw [hdOf, Mem.get_cons, if_pos rfl]
    have hb : But w.heap.size w (w.alloc (.map #[] 0)) := But.alloc w _
    have hS : ¬ S w.heap.size := fun hq => Nat.lt_irrefl _ (h.keep.bound _ hq)
    have hR := h.gain (g := ⟨w.heap.size, 0, 0, false⟩) hf hM he hb hS (fun i e h1 h2 hq => by have := (h.own i e h1 h2).1; simp only at hq; omega) (by simp) (.inr h.keep.size) (fun hh => by
      refine ⟨by rw [Gh.upd_same], [], 0, [], 0, by rw [Mem.get_cons, if_neg (by simp), wrMap, Mem.get_cons, if_pos rfl], by rw [Mem.get_cons, if_neg (by simp), wrMap, Mem.get_cons, if_neg (by simp), Mem.get_cons, if_pos rfl], fun _ => rfl, #[], 0, by rw [Gh.upd_same]; exact heap_new w _, rfl, MapKept.stamped_empty 0, (zeroF_rep (w := w) (S := S) hT).2, .nil⟩)
    refine .value (v := .map (some w.heap.size)) (w' := w.alloc (.map #[] 0)) (γ' := Gh.upd γ dd ⟨w.heap.size, 0, 0, false⟩) (S' := S) (by simp [execOp, hop, show (Instr.makeMap t none).run E.P w = .ok (.map (some w.heap.size)) (w.alloc (.map #[] 0)) from rfl]) ?_
    rw [hdst]
    exact hR.put (hd dd hdst) (s := .mp dd) (by
      have := SRep.mp (w := w.alloc (.map #[] 0)) (S := S) (γ := Gh.upd γ dd ⟨w.heap.size, 0, 0, false⟩) he rfl
      rwa [Gh.upd_same] at this)
  · exact (gets_fail hg).elim

theorem run_len_map {t kt et : TypeId} (hu : E.P.underlying t = some (.map kt et)) {b : Nat} {arr : Array MapEntry} {c : Nat} (hb : w.heap[b]? = some (.map arr c)) (ty : TypeId) :
    (Builtin.len_ #[t] ty #[.map (some b)]).run E.P w = .ok (goInt arr.size) w := by
  simp [Builtin.len_, run_underlying hu, MapKept.run_getObj_map hb]

/-- delete -/
theorem map_delete {t : TypeId} {s1 s2 : SV} {v1 v2 : Value} (hE : EnvOk E) (h : Rel X M a w γ S) (hd : ∀ d, o.dst = some d → X.Dst d) (h1 : SRep w S γ (hdOf M) s1 v1) (h2 : SRep w S γ (hdOf M) s2 v2) {ats : Array TypeId} {r : List TypeId} (hats : ats.toList = t :: r)
    (hg : Gets (theMap E t s1 fun id _ kag ks _ => keyOf' kag ks s2 fun k => rdMap id 0 fun es clk => out o.dst .dead (wrMap id (mdel es k) clk [])) M us)
    (run : ∀ w', (Builtin.delete_ ats o.type #[v1, v2]).run E.P w = .ok (.tuple #[]) w' → (execOp a.eval o).run E.P w = .ok (.value (.tuple #[])) w') : Goal E.P X M o a w us := by
  obtain ⟨id, kt, et, ki, ei, inf, d, z, rfl, rfl, he, hu, hc, hT, hg⟩ := gets_theMap hE h1 hg
  obtain ⟨kf, hk, hkv, hg⟩ := gets_keyOf' h h2 hg
  obtain ⟨es, clk, c0, hg⟩ := gets_rdMap hg
  obtain ⟨es1, clk1, es', clk', d0, d1, _, arr, c, hbk, hclk, hst, hzz, hall⟩ := mapH_rep h he
  rw [c0] at d0; cases d0
  have hf := run_findKey' (w' := w) hc hk hkv hall
  have hck := run_checkKey' (w' := w) arr.isEmpty hc hk hkv
  have hat0 : ats[0]? = some t := by rw [← Array.getElem?_toList, hats]; rfl
  have go : ∀ arr', MapKept.Stamped arr' c → All2 (ERep w S ki.agg ki.ck ei.zeroF) (mdel es kf) arr'.toList → (Builtin.delete_ ats o.type #[.map (some (γ id).blk), v2]).run E.P w = .ok (.tuple #[]) { w with heap := w.heap.setIfInBounds (γ id).blk (.map arr' c) } → Goal E.P X M o a w us := fun arr' q1 q2 q3 => by
    have hR := h.mapWrite2 he hclk q1 hzz q2
    refine .value (v := .tuple #[]) (run _ q3) (γ' := γ) (S' := S) ?_
    unfold out at hg
    cases hdst : o.dst with
    | none => rw [hdst] at hg; rw [gets_ret hg]; exact hR
    | some dd => rw [hdst] at hg; rw [gets_ret hg]; exact hR.put (hd dd hdst) .dead
  rcases fnd_spec (k := kf) (i := 0) hall with ⟨h1, h2, _, h4⟩ | ⟨j, x', e, h1, h2, h3, h4, h5, h6, _, h8⟩
  · refine go arr hst (by rw [(mput_new h4 ei.zeroF clk).2.2.2]; exact hall) ?_
    simp only [Builtin.delete_, hat0, List.getElem?_toArray, List.getElem?_cons_zero, List.getElem?_cons_succ, Sem.run_bind, run_underlying hu, Result.andThen_ok, MapKept.run_getObj_map hbk, hck, hf, h1, MapKept.run_setObj_map _ hbk, Sem.run_pure]
  · refine go (arr.eraseIdxIfInBounds j) (MapKept.stamped_erase hst _) ?_ ?_
    · have hlt : j < arr.size := by have := (List.getElem?_eq_some_iff.1 h3).1; simpa using this
      rw [(h8 ei.zeroF clk).2.2.2, Array.eraseIdxIfInBounds, dif_pos hlt, Array.toList_eraseIdx]
      exact hall.erase j
    · simp only [Builtin.delete_, hat0, List.getElem?_toArray, List.getElem?_cons_zero, List.getElem?_cons_succ, Sem.run_bind, run_underlying hu, Result.andThen_ok, MapKept.run_getObj_map hbk, hck, hf, h1, Nat.zero_add, MapKept.run_setObj_map _ hbk, Sem.run_pure]

end
end Rf
