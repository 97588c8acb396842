/- A call of a function: what the caller's memory is behind it. -/
import Derived.Test.YtebaohjeodeaoaaGreatDoorRf19
namespace Rf
open Go

theorem tops_len {w : World} {S : Nat → Prop} : ∀ {T : List Tok} {n : Nat} {V : List Value} {L : List FV} {acc fin : GA}, TRep w S T V L acc fin → fin.length = acc.length + (tops n T).length
  | [], n, V, L, acc, fin, h => by rw [h.2.2]; simp [tops]
  | t :: T, n, V, L, acc, fin, h => by
    cases t with
    | skip => obtain ⟨v, V', _, h⟩ := h; have := tops_len (n := n - 1) h; simpa [tops] using this
    | own sz => obtain ⟨g, xs, V', L', _, _, _, h⟩ := h; have := tops_len (n := n - 1) h; simp [tops] at this ⊢; omega
    | obj k => obtain ⟨g, vals, e, V', _, _, _, _, h⟩ := h; have := tops_len (n := n - 1 + k) h; simp [tops] at this ⊢; omega
    | ref j => obtain ⟨g, r, k, V', _, _, _, h⟩ := h; have := tops_len (n := n - 1) h; simpa [tops] using this
    | agg k => obtain ⟨cs, V', _, _, h⟩ := h; have := tops_len (n := bif Nat.beq n 0 then 0 else n - 1 + k) h; simpa only [tops] using this
    | clo fn k => obtain ⟨cs, V', _, _, h⟩ := h; have := tops_len (n := bif Nat.beq n 0 then 0 else n - 1 + k) h; simpa only [tops] using this
    | mapt kag ks z => obtain ⟨g, es, clk, V', L', _, _, _, _, h⟩ := h; have := tops_len (n := n - 1) h; simp [tops] at this ⊢; omega
    | _ => obtain ⟨v, V', x, L', _, _, _, _, h⟩ := h; have := tops_len (n := n - 1) h; simpa [tops] using this
  termination_by T => T.length

/-- what names there are behind a call -/
theorem nameAll_get : ∀ {bs : List Bool} {ids : List (Option Nat)} {base n j id : Nat}, (nameAll base bs ids n)[j]? = some id →
    (bs[j]? = some true ∧ ids[j]? = some (some id)) ∨ (id ∈ newOf bs ids (nameAll base bs ids n) ∧ id = base + j)
  | [], ids, base, n, j, id, h => by
    simp only [nameAll, newOf] at h ⊢
    exact .inr ⟨List.mem_of_getElem? h, namesFrom_get h⟩
  | b :: bs, [], base, n, j, id, h => by
    simp only [nameAll, newOf] at h ⊢
    exact .inr ⟨List.mem_of_getElem? h, namesFrom_get h⟩
  | b :: bs, o :: ids, base, n, j, id, h => by
    simp only [nameAll] at h ⊢
    cases j with
    | zero =>
      simp only [List.getElem?_cons_zero, Option.some.injEq] at h
      cases b <;> cases o <;> simp only at h <;> subst h
      · exact .inr ⟨by simp [newOf], rfl⟩
      · exact .inr ⟨by simp [newOf], rfl⟩
      · exact .inr ⟨by simp [newOf], rfl⟩
      · exact .inl ⟨rfl, rfl⟩
    | succ j =>
      rcases nameAll_get (by simpa using h) with ⟨h1, h2⟩ | ⟨h1, h2⟩
      · exact .inl ⟨by simpa using h1, by simpa using h2⟩
      · refine .inr ⟨?_, by omega⟩
        cases b <;> cases o <;> simp only [newOf] <;> first | exact List.mem_cons_of_mem _ h1 | exact h1

/-- a name at the top stands where it stood -/
theorem nameAll_top {bs : List Bool} : ∀ {ids : List (Option Nat)} {base n j id : Nat}, bs[j]? = some true → ids[j]? = some (some id) → (nameAll base bs ids n)[j]? = some id := by
  induction bs with
  | nil => intro ids base n j id h; simp at h
  | cons b bs ih =>
    intro ids base n j id h1 h2
    cases ids with
    | nil => simp at h2
    | cons o ids =>
      simp only [nameAll]
      cases j with
      | zero => simp at h1 h2; subst h1; subst h2; rfl
      | succ j => simpa using ih (by simpa using h1) (by simpa using h2)

theorem tombs_mem : ∀ {bs : List Bool} {ids : List (Option Nat)} {p : Key × Ent}, p ∈ tombsOf bs ids → ∃ (j id : Nat), ids[j]? = some (some id) ∧ p = (.head id, .tomb)
  | [], ids, p, h => by simp [tombsOf] at h
  | b :: bs, [], p, h => by simp [tombsOf] at h
  | b :: bs, o :: ids, p, h => by
    have rest : p ∈ tombsOf bs ids → ∃ (j id : Nat), (o :: ids)[j]? = some (some id) ∧ p = (.head id, .tomb) := fun h => by
      obtain ⟨j, id, h1, h2⟩ := tombs_mem h
      exact ⟨j + 1, id, by simpa using h1, h2⟩
    cases b <;> cases o <;> simp only [tombsOf] at h
    · exact rest h
    · rcases List.mem_cons.1 h with rfl | h
      · exact ⟨0, _, rfl, rfl⟩
      · exact rest h
    · exact rest h
    · exact rest h

theorem tombs_has {bs : List Bool} : ∀ {ids : List (Option Nat)} {j id : Nat}, bs[j]? = some false → ids[j]? = some (some id) → (Key.head id, Ent.tomb) ∈ tombsOf bs ids := by
  induction bs with
  | nil => intro ids j id h; simp at h
  | cons b bs ih =>
    intro ids j id h1 h2
    cases ids with
    | nil => simp at h2
    | cons o ids =>
      cases j with
      | zero => simp at h1 h2; subst h1; subst h2; simp [tombsOf]
      | succ j =>
        have := ih (by simpa using h1) (by simpa using h2)
        cases b <;> cases o <;> simp only [tombsOf] <;> first | exact List.mem_cons_of_mem _ this | exact this

theorem GSim.symm {x y : Gh × Sh} (h : GSim x y) : GSim y x := by
  obtain ⟨h1, h2, h3, h4⟩ := h
  refine ⟨h1.symm, h2.symm, fun h => (h3 (h2.trans h)).symm, fun h => ?_⟩
  obtain ⟨q1, q2⟩ := h4 (by rw [h1]; exact h)
  exact ⟨q1.symm, fun h => (q2 (h2.trans h)).symm⟩

theorem GSim.refl (x : Gh × Sh) : GSim x x := ⟨rfl, rfl, fun _ => rfl, fun _ => ⟨rfl, fun _ => rfl⟩⟩

theorem TRep.scalar {w : World} {S S2 : Nat → Prop} : ∀ {T : List Tok} {V : List Value} {L : List FV} {acc fin : GA}, TRep w S T V L acc fin → scalarOut T = true → TRep w S2 T V L acc fin
  | [], V, L, acc, fin, h, _ => h
  | t :: T, V, L, acc, fin, h, hs => by
    cases t with
    | skip => obtain ⟨v, V', h1, h⟩ := h; exact ⟨v, V', h1, h.scalar (by simpa [scalarOut] using hs)⟩
    | own sz => simp [scalarOut] at hs
    | obj k => obtain ⟨g, vals, e, V', h1, h2, h3, h4, h⟩ := h; exact ⟨g, vals, e, V', h1, h2, h3, h4, h.scalar (by simpa [scalarOut] using hs)⟩
    | ref j => obtain ⟨g, r, k, V', h1, h2, h3, h⟩ := h; exact ⟨g, r, k, V', h1, h2, h3, h.scalar (by simpa [scalarOut] using hs)⟩
    | agg k => obtain ⟨cs, V', h1, h2, h⟩ := h; exact ⟨cs, V', h1, h2, h.scalar (by simpa [scalarOut] using hs)⟩
    | clo fn k => obtain ⟨cs, V', h1, h2, h⟩ := h; exact ⟨cs, V', h1, h2, h.scalar (by simpa [scalarOut] using hs)⟩
    | mapt kag ks z => simp [scalarOut] at hs
    | lst sz => simp [scalarOut] at hs
    | int k =>
      obtain ⟨v, V', x, L', h1, h2, h3, h4, h⟩ := h
      cases x <;> simp only [leafT] at h3
      cases h4
      exact ⟨_, V', _, L', h1, h2, h3, .int _ _, h.scalar (by simpa [scalarOut] using hs)⟩
    | bool =>
      obtain ⟨v, V', x, L', h1, h2, h3, h4, h⟩ := h
      cases x <;> simp only [leafT] at h3
      cases h4
      exact ⟨_, V', _, L', h1, h2, h3, .bool _, h.scalar (by simpa [scalarOut] using hs)⟩
    | str =>
      obtain ⟨v, V', x, L', h1, h2, h3, h4, h⟩ := h
      cases x <;> simp only [leafT] at h3
      cases h4
      exact ⟨_, V', _, L', h1, h2, h3, .str _, h.scalar (by simpa [scalarOut] using hs)⟩
    | raw u =>
      obtain ⟨v, V', x, L', h1, h2, h3, h4, h⟩ := h
      cases x <;> simp only [leafT] at h3
      cases h4
      exact ⟨_, V', _, L', h1, h2, h3, .raw _, h.scalar (by simpa [scalarOut] using hs)⟩
    | fn =>
      obtain ⟨v, V', x, L', h1, h2, h3, h4, h⟩ := h
      cases x <;> simp only [leafT] at h3
      cases h4
      exact ⟨_, V', _, L', h1, h2, h3, .raw _, h.scalar (by simpa [scalarOut] using hs)⟩
  termination_by T => T.length

/-- what is handed over -/
def Given (G : GA) (b : Nat) : Prop := ∃ (i : Nat) (g : Gh) (sh : Sh), G[i]? = some (g, sh) ∧ g.nil = false ∧ b = g.blk

section
variable {X : Cx} {M : Mem} {a : Act} {w : World} {γ : Nat → Gh}

theorem rel_called {S1 S2 S' S'' : Nat → Prop} {us0 fz : List (Key × Ent)} {ids : List (Option Nat)} {G fin' : GA} {tin tout : List Tok} {V R : List Value} {L L' : List FV} {w' : World} {base n : Nat} {ws : List (Key × Ent)} {rs : List SV}
    (h1 : Rel X (fz ++ M) a w γ S1) (h : Rel X (us0 ++ M) a w γ S2) (hus : FzList M us0) (hG : All2 (GRel γ M) ids G) (hi : IdsOk M ids) (ha : apartB ids fz = true) (ha0 : apartB ids us0 = true)
    (hT : TRep w S1 tin V L [] G) (hU : TRep w' S'' tout (V ++ R) L' [] fin') (hk : Keep ⟨w, S1, Given G, 0, fun _ => none⟩ w' S') (hgo : GOk ⟨w, S1, Given G, 0, fun _ => none⟩ w' S' fin') (hio : ioOk 0 tin tout = true) (hfl : flatOk 0 tout = true)
    (hb : bld (nameAll base (tops 0 tin) ids n) 0 tout L' = some (ws, rs, [])) (hfresh : ∀ id, id ∈ newOf (tops 0 tin) ids (nameAll base (tops 0 tin) ids n) → hdOf M id = none)
    (s12 : ∀ b, S2 b → S1 b) (s2 : ∀ b, S2 b → S'' b) (s' : ∀ b, S'' b → S' b) (sf : ∀ b, S'' b → S2 b ∨ Given G b ∨ w.heap.size ≤ b) :
    ∃ γ', Rel X (ws ++ (tombsOf (tops 0 tin) ids ++ us0) ++ M) a w' γ' S'' ∧ All2 (SRep w' S'' γ' (hdOf (ws ++ (tombsOf (tops 0 tin) ids ++ us0) ++ M))) rs (V ++ R) ∧
      ∀ t, Mem.get (.slot t) (ws ++ (tombsOf (tops 0 tin) ids ++ us0) ++ M) = Mem.get (.slot t) M := by
  have gok1 : GOk X w S1 G := .of h1 hG hi ha
  generalize hnm : nameAll base (tops 0 tin) ids n = nm at hb hfresh
  generalize hbs : tops 0 tin = bs at hfresh
  rw [hbs] at hnm
  have hlen : bs.length = ids.length := by
    have := tops_len (n := 0) hT
    rw [hbs] at this
    rw [hG.len]; simpa using this.symm
  -- names
  have hname : ∀ j id, nm[j]? = some id → (bs[j]? = some true ∧ ids[j]? = some (some id)) ∨ (hdOf M id = none ∧ id = base + j) := fun j id hj => by
    subst hnm
    rcases nameAll_get hj with q | ⟨q1, q2⟩
    · exact .inl q
    · exact .inr ⟨hfresh id q1, q2⟩
  have hidM : ∀ j id, ids[j]? = some (some id) → ∃ e, hdOf M id = some e ∧ ((∃ s xs, e = .vec s xs) ∨ (∃ n, e = .obj n) ∨ ∃ kag ks z, e = .mapH kag ks z) := hi.live
  have hinj : NInj nm := fun i j id q1 q2 => by
    rcases hname i id q1 with ⟨_, p1⟩ | ⟨p1, p2⟩ <;> rcases hname j id q2 with ⟨_, p3⟩ | ⟨p3, p4⟩
    · exact hi.inj i j id p1 p3
    · obtain ⟨e, r, _⟩ := hidM i id p1; rw [p3] at r; cases r
    · obtain ⟨e, r, _⟩ := hidM j id p3; rw [p1] at r; cases r
    · omega
  obtain ⟨b1, b2⟩ := bld_keys hinj hb
  -- the new places
  let γ' : Nat → Gh := fun id => if (hdOf M id).isSome = true then γ id else ghAt nm fin' id
  have hγold : ∀ id e, hdOf M id = some e → γ' id = γ id := fun id e he => by simp [γ', he]
  let fin2 : GA := fin'.zipIdx.map fun p => ((match nm[p.2]? with | some id => γ' id | none => p.1.1), p.1.2)
  have hf2 : ∀ i : Nat, fin2[i]? = (fin'[i]?).map fun (x : Gh × Sh) => ((match nm[i]? with | some id => γ' id | none => x.1), x.2) := fun i => by
    simp only [fin2, List.getElem?_map, List.getElem?_zipIdx, Nat.zero_add]
    cases fin'[i]? <;> simp
  have htop : ∀ j id, bs[j]? = some true → ids[j]? = some (some id) → ∃ sh g', fin'[j]? = some (g', sh) ∧ G[j]? = some (γ id, sh) ∧ GSim (γ id, sh) (g', sh) ∧ ∃ e, hdOf M id = some e ∧ sh = (e.row, e.ob) := fun j id q1 q2 => by
    obtain ⟨⟨g, sh⟩, ⟨g', sh'⟩, p1, p2, p3⟩ := io_ok (V1 := []) (V2 := []) hio rfl rfl hT hU rfl j (by rw [hbs]; exact q1)
    simp only [List.length_nil, Nat.zero_add] at p1 p2
    obtain ⟨y, r1, r2, e, r3, r4⟩ := hG.get j _ q2
    rw [p1] at r1; cases r1
    simp only at r2 r4
    subst r2
    have hs : sh = sh' := p3.1
    subst hs
    exact ⟨sh, g', p2, p1, p3, e, r3, r4⟩
  have hsim : ∀ (i : Nat) (x y : Gh × Sh), fin'[i]? = some x → fin2[i]? = some y → GSim x y := fun i x y q1 q2 => by
    rw [hf2, q1] at q2
    simp only [Option.map_some, Option.some.injEq] at q2
    subst q2
    cases hn : nm[i]? with
    | none => exact .refl x
    | some id =>
      rcases hname i id hn with ⟨p1, p2⟩ | ⟨p1, p2⟩
      · obtain ⟨sh, g', r1, r2, r3, e, r4, r5⟩ := htop i id p1 p2
        rw [q1] at r1; cases r1
        simp only [hγold id e r4]
        exact r3.symm
      · have : γ' id = ghAt nm fin' id := by simp [γ', p1]
        simp only [this, ghAt_get hinj i x.1 x.2 id q1 hn]
        exact .refl x
  have hU2 : TRep w' S'' tout (V ++ R) L' [] fin2 := hU.sim (by simp [fin2]) hsim rfl
  -- what is found
  have hslot : ∀ t, Mem.get (.slot t) ws = none := fun t => get_miss fun e he => by
    obtain ⟨i, id, _, _, q⟩ := b1 _ he
    exact q.noSlot
  have htslot : ∀ k, (∀ id, k ≠ .head id) → Mem.get k (tombsOf bs ids) = none := fun k hk => get_miss fun e he => by
    obtain ⟨j, id, _, q⟩ := tombs_mem he
    exact hk id (congrArg Prod.fst q)
  have huslot : ∀ k, (∀ id, k ≠ .head id) → Mem.get k us0 = none := fun k hk => get_miss fun e he => by
    obtain ⟨id, s, xs, q, _⟩ := hus _ he
    exact hk id (congrArg Prod.fst q)
  have hget : ∀ k, Mem.get k (ws ++ (tombsOf bs ids ++ us0) ++ M) = (Mem.get k ws).or ((Mem.get k (tombsOf bs ids)).or (Mem.get k (us0 ++ M))) := fun k => by
    rw [List.append_assoc, List.append_assoc, Mem.get_append, Mem.get_append]
  obtain ⟨_, k2, _, k4, k5⟩ := bld_ok (M' := ws ++ (tombsOf bs ids ++ us0) ++ M) (γ' := γ') (n := 0) hU2 hb (fun p hp => by rw [hget, b2 p hp]; rfl) (fun i g k id q1 q2 => by
    rw [hf2] at q1
    cases hfi : fin'[i]? with
    | none => rw [hfi] at q1; simp at q1
    | some x => rw [hfi] at q1; simp only [Option.map_some, q2, Option.some.injEq, Prod.mk.injEq] at q1; exact q1.1) (fun i g q k h => by simp at h) hfl
  -- cases of a head
  have cases' : ∀ id e, hdOf (ws ++ (tombsOf bs ids ++ us0) ++ M) id = some e →
      ((Key.head id, e) ∈ ws) ∨ (e = .tomb ∧ Mem.get (.head id) ws = none) ∨ (hdOf (us0 ++ M) id = some e ∧ Mem.get (.head id) ws = none ∧ some id ∉ ids ∧ ∀ j, Mem.get (.cell id j) ws = none) := fun id e he => by
    rw [hdOf, hget] at he
    cases q1 : Mem.get (.head id) ws with
    | some e' => rw [q1] at he; cases he; exact .inl (get_mem q1)
    | none =>
      rw [q1, Option.none_or] at he
      cases q2 : Mem.get (.head id) (tombsOf bs ids) with
      | some e' =>
        rw [q2] at he
        cases he
        obtain ⟨_, _, _, q⟩ := tombs_mem (get_mem q2)
        cases q
        exact .inr (.inl ⟨rfl, rfl⟩)
      | none =>
        rw [q2, Option.none_or] at he
        have hno : some id ∉ ids := fun hm => by
          obtain ⟨j, hj⟩ := List.mem_iff_getElem?.1 hm
          have hjl : j < bs.length := by rw [hlen]; exact (List.getElem?_eq_some_iff.1 hj).1
          cases hbj : bs[j] with
          | true =>
            obtain ⟨sh, g', r1, _⟩ := htop j id (by rw [List.getElem?_eq_getElem hjl, hbj]) hj
            obtain ⟨id', e', p1, p2⟩ := k5 j _ (Nat.zero_le _) (by rw [hf2, r1]; rfl)
            have : nm[j]? = some id := by rw [← hnm]; exact nameAll_top (by rw [List.getElem?_eq_getElem hjl, hbj]) hj
            rw [this] at p1; cases p1
            have := b2 _ p2
            simp only at this
            rw [this] at q1; cases q1
          | false =>
            have hm := tombs_has (bs := bs) (by rw [List.getElem?_eq_getElem hjl, hbj]) hj
            have : ∀ {us : List (Key × Ent)} {k : Key} {e : Ent}, (k, e) ∈ us → Mem.get k us ≠ none := by
              intro us k e
              induction us with
              | nil => intro h; simp at h
              | cons p us ih =>
                obtain ⟨k', e'⟩ := p
                intro h
                rw [Mem.get_cons]
                split
                · simp
                · rename_i hk
                  rcases List.mem_cons.1 h with h | h
                  · cases h; exact absurd rfl hk
                  · exact ih h
            exact this hm q2
        refine .inr (.inr ⟨he, rfl, hno, fun j => get_miss fun e' hm => ?_⟩)
        obtain ⟨i, id', _, p1, p2⟩ := b1 _ hm
        have hid : id' = id := KeyOf.inj p2 (.inr ⟨j, rfl⟩)
        subst hid
        rcases hname i id' p1 with ⟨_, p3⟩ | ⟨p3, _⟩
        · exact hno (List.mem_of_getElem? p3)
        · have := FzList.head_none hus p3
          rw [show Mem.get (.head id') (us0 ++ M) = hdOf (us0 ++ M) id' from rfl, this] at he; cases he
  have hw0 : ∀ b, b < w.heap.size → ¬ Given G b → w'.heap[b]? = w.heap[b]? := hk.block
  have hws : ∀ b, S2 b → w'.heap[b]? = w.heap[b]? := fun b hb => hw0 b (h.keep.bound b hb) fun ⟨i, g, sh, q1, q2, q3⟩ => by
    subst q3
    exact (gok1.own i g sh q1 q2).2.1 (s12 _ hb)
  have hhd : HdLe (hdOf (us0 ++ M)) (hdOf (ws ++ (tombsOf bs ids ++ us0) ++ M)) γ γ' := fun id e he => by
    have hM : ∃ e0, hdOf M id = some e0 := by
      cases q : hdOf M id with
      | some e0 => exact ⟨e0, rfl⟩
      | none => have := FzList.head_none hus q; rw [this] at he; cases he
    obtain ⟨e0, he0⟩ := hM
    have hg := hγold id e0 he0
    cases q : hdOf (ws ++ (tombsOf bs ids ++ us0) ++ M) id with
    | none =>
      rw [hdOf, hget] at q
      rw [show Mem.get (.head id) (us0 ++ M) = some e from he] at q
      simp at q
    | some e' =>
      refine ⟨e', rfl, ?_⟩
      rcases cases' id e' q with q1 | ⟨q1, _⟩ | ⟨q1, _, _, _⟩
      · obtain ⟨_, i, g, _, p1, p2, p3⟩ := k4 id e' q1
        rcases hname i id p1 with ⟨p4, p5⟩ | ⟨p4, _⟩
        · obtain ⟨sh, g', r1, r2, r3, e1, r4, r5⟩ := htop i id p4 p5
          have he1 : hdOf (us0 ++ M) id = hdOf M id := apart_head ha0 (List.mem_of_getElem? p5)
          rw [he1, r4] at he; cases he
          rw [hf2, r1] at p2
          simp only [Option.map_some, Option.some.injEq, Prod.mk.injEq] at p2
          have hsh : (e.row, e.ob) = (e'.row, e'.ob) := by rw [← r5]; exact p2.2
          simp only [Prod.mk.injEq] at hsh
          refine .inr ⟨hsh.1.symm, hsh.2.symm, fun ht => ?_, hg⟩
          subst ht
          obtain ⟨e2, t1, t2⟩ := hidM i id p5
          rw [r4] at t1; cases t1
          rcases t2 with ⟨_, _, t2⟩ | ⟨_, t2⟩ | ⟨_, _, _, t2⟩ <;> cases t2
        · rw [p4] at he0; cases he0
      · exact .inl q1
      · rw [he] at q1; cases q1
        exact .inr ⟨rfl, rfl, fun h => h, hg⟩
  -- blocks of what is not handed over
  have hother : ∀ id e, hdOf (us0 ++ M) id = some e → some id ∉ ids → Owned γ id e → ¬ Given G (γ id).blk := fun id e he hno ho ⟨i, g, sh, q1, q2, q3⟩ => by
    obtain ⟨x, p1, p2⟩ := hG.getR i _ q1
    cases x with
    | none => obtain ⟨p2, _⟩ := p2; simp only at p2; subst p2; simp at q2
    | some id' =>
      obtain ⟨p2, e', p3, p4⟩ := p2
      simp only at p2
      subst p2
      have he' : hdOf (us0 ++ M) id' = some e' := by rw [apart_head ha0 (List.mem_of_getElem? p1)]; exact p3
      have ho' : Owned γ id' e' := by
        obtain ⟨e2, t1, t2⟩ := hidM i id' p1
        rw [p3] at t1; cases t1
        rcases t2 with ⟨_, _, rfl⟩ | ⟨_, rfl⟩ | ⟨_, _, _, rfl⟩
        · exact q2
        · trivial
        · trivial
      have := h.inj id e id' e' he he' ho ho' q3
      subst this
      exact hno (List.mem_of_getElem? p1)
  have hgiven : ∀ b, Given G b → b < w.heap.size ∧ (X.W0 b ∨ X.w0.heap.size ≤ b) := fun b ⟨i, g, sh, q1, q2, q3⟩ => by
    subst q3
    have := gok1.own i g sh q1 q2
    exact ⟨this.1, this.2.2⟩
  have hsz : w.heap.size ≤ w'.heap.size := hk.size
  -- what is new
  have hnew : ∀ id e, (Key.head id, e) ∈ ws → ∃ (i : Nat) (g' : Gh), nm[i]? = some id ∧ fin'[i]? = some (g', (e.row, e.ob)) ∧ (Owned γ' id e → g'.nil = false ∧ (γ' id).blk = g'.blk) := fun id e hm => by
    obtain ⟨q0, i, g, _, p1, p2, p3⟩ := k4 id e hm
    rw [hf2] at p2
    cases hfi : fin'[i]? with
    | none => rw [hfi] at p2; simp at p2
    | some x =>
      rw [hfi] at p2
      simp only [Option.map_some, p1, Option.some.injEq, Prod.mk.injEq] at p2
      obtain ⟨x1, x2⟩ := x
      simp only at p2
      refine ⟨i, x1, p1, by rw [hfi, p2.2], fun ho => ?_⟩
      have hs := hsim i _ (γ' id, x2) hfi (by rw [hf2, hfi]; simp [p1])
      have hn : (γ' id).nil = false := by
        rcases p3 with ⟨_, _, rfl⟩ | ⟨_, rfl⟩ | ⟨_, _, _, rfl⟩
        · exact ho
        · exact q0.1
        · exact q0.1
      have : x1.nil = false := by have := hs.2.1; simp only at this; rw [this]; exact hn
      exact ⟨this, (hs.2.2.1 this).symm⟩
  refine ⟨γ', { keep := ?_, head := fun id e he => ?_, own := fun id e he ho => ?_, inj := fun id e id' e' he he' ho ho' hbk => ?_, nt := h.nt, nodef := h.nodef, pin := h.pin, slot := fun t s hs => ?_ }, k2, fun t => ?_⟩
  · exact { size := Nat.le_trans h.keep.size hsz
            block := fun b q1 q2 => by
              rw [hw0 b (Nat.lt_of_lt_of_le q1 h.keep.size) fun hg => ?_, h.keep.block b q1 q2]
              rcases (hgiven b hg).2 with q | q
              · exact q2 q
              · omega
            os := hk.os.trans h.keep.os, tape := hk.tape.trans h.keep.tape, output := hk.output.trans h.keep.output
            tab := h.keep.tab
            bound := fun b q => hk.bound b (s' b q), smon := fun b q => s2 b (h.keep.smon b q)
            sfrom := fun b q => by
              rcases sf b q with q | q | q
              · exact h.keep.sfrom b q
              · exact .inr (hgiven b q).2
              · exact .inr (.inr (Nat.le_trans h.keep.size q)) }
  · rcases cases' id e he with q1 | ⟨q1, _⟩ | ⟨q1, q2, q3, q4⟩
    · exact (k4 id e q1).1
    · subst q1; trivial
    · have hM : ∃ e0, hdOf M id = some e0 := by
        cases q : hdOf M id with
        | some e0 => exact ⟨e0, rfl⟩
        | none => have := FzList.head_none hus q; rw [this] at q1; cases q1
      obtain ⟨e0, he0⟩ := hM
      refine (h.head id e q1).go hws s2 hhd (hγold id e0 he0) (fun j => ?_) fun ho => ?_
      · rw [hget, q4, htslot _ (by simp)]; simp
      · exact hw0 _ (h.own id e q1 ho).1 (hother id e q1 q3 ho)
  · rcases cases' id e he with q1 | ⟨q1, _⟩ | ⟨q1, q2, q3, q4⟩
    · obtain ⟨i, g', p1, p2, p3⟩ := hnew id e q1
      obtain ⟨p4, p5⟩ := p3 ho
      obtain ⟨r1, r2, r3⟩ := hgo.own i g' _ p2 p4
      rw [p5]
      refine ⟨r1, fun q => r2 (s' _ q), ?_⟩
      rcases r3 with r3 | r3
      · exact (hgiven _ r3).2
      · exact .inr (Nat.le_trans h.keep.size r3)
    · subst q1; exact ho.elim
    · have hM : ∃ e0, hdOf M id = some e0 := by
        cases q : hdOf M id with
        | some e0 => exact ⟨e0, rfl⟩
        | none => have := FzList.head_none hus q; rw [this] at q1; cases q1
      obtain ⟨e0, he0⟩ := hM
      have hg := hγold id e0 he0
      have ho' := Owned.congr hg ho
      obtain ⟨r1, r2, r3⟩ := h.own id e q1 ho'
      rw [hg]
      refine ⟨Nat.lt_of_lt_of_le r1 hsz, fun q => ?_, r3⟩
      rcases sf _ q with q | q | q
      · exact r2 q
      · exact hother id e q1 q3 ho' q
      · omega
  · have old : ∀ id e, hdOf (us0 ++ M) id = some e → γ' id = γ id := fun id e he => by
      cases q : hdOf M id with
      | some e0 => exact hγold id e0 q
      | none => have := FzList.head_none hus q; rw [this] at he; cases he
    have mix : ∀ id e id' e', (Key.head id, e) ∈ ws → Owned γ' id e → hdOf (us0 ++ M) id' = some e' → some id' ∉ ids → Owned γ' id' e' → (γ' id).blk ≠ (γ' id').blk := fun id e id' e' q1 q2 q3 q4 q5 q6 => by
      obtain ⟨i, g', p1, p2, p3⟩ := hnew id e q1
      obtain ⟨p4, p5⟩ := p3 q2
      have hg := old id' e' q3
      have ho' := Owned.congr hg q5
      have hlt := (h.own id' e' q3 ho').1
      have hno := hother id' e' q3 q4 ho'
      rw [hg, p5] at q6
      rcases (hgo.own i g' _ p2 p4).2.2 with r | r
      · rw [q6] at r; exact hno r
      · simp only at r; omega
    rcases cases' id e he with q1 | ⟨q1, _⟩ | ⟨q1, _, q3, _⟩
    · rcases cases' id' e' he' with p1 | ⟨p1, _⟩ | ⟨p1, _, p3, _⟩
      · obtain ⟨i, g, r1, r2, r3⟩ := hnew id e q1
        obtain ⟨r4, r5⟩ := r3 ho
        obtain ⟨i', g', t1, t2, t3⟩ := hnew id' e' p1
        obtain ⟨t4, t5⟩ := t3 ho'
        have := hgo.inj i i' g g' _ _ r2 t2 r4 t4 (by rw [← r5, ← t5]; exact hbk)
        subst this
        rw [r1] at t1; cases t1; rfl
      · subst p1; exact ho'.elim
      · exact absurd hbk (mix id e id' e' q1 ho p1 p3 ho')
    · subst q1; exact ho.elim
    · rcases cases' id' e' he' with p1 | ⟨p1, _⟩ | ⟨p1, _, p3, _⟩
      · exact absurd hbk.symm (mix id' e' id e p1 ho' q1 q3 ho)
      · subst p1; exact ho'.elim
      · have g1 := old id e q1
        have g2 := old id' e' p1
        rw [g1, g2] at hbk
        exact h.inj id e id' e' q1 p1 (Owned.congr g1 ho) (Owned.congr g2 ho') hbk
  · rw [hget, hslot, htslot _ (by simp)] at hs
    simp only [Option.none_or] at hs
    exact (h.slot t s hs).mono hws s2 hhd
  · rw [hget, hslot, htslot _ (by simp), Mem.get_append, huslot _ (by simp)]
    simp

end
end Rf
