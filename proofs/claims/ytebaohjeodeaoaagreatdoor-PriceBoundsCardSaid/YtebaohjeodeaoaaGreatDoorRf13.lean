/- append, len, min, max; a struct that is built. -/
import Derived.Test.YtebaohjeodeaoaaGreatDoorRf12
import Derived.Laws.BytesArg
namespace Rf
open Go

/-- append with room, into a block of whatever element -/
theorem append_room {P : Program} (w : World) (t ty e te : TypeId) (i : TypeInfo) (ht : P.underlying t = some (.slice e)) (hi : P.info? e = some i)
    (g off sLen sCap : Nat) (cur : Array Value) (hg : w.heap[g]? = some (.cells cur te (0, 0)))
    (a : Addr) (m c : Nat) (news : List Value) (hl : news.length = m * i.size) (hnews : ∀ (j : Nat) (u : Value), news[j]? = some u → w.cell? (a.add j) = some u) (h1 : ∀ u ∈ news, u.oneCell' = true)
    (hroom : sLen + m ≤ sCap) (hfit : off + sLen * i.size + news.length ≤ cur.size) :
    (Builtin.append_ #[t, t] ty #[.slice (some ⟨g, off, none⟩) sLen sCap, .slice (some a) m c]).run P w =
      .ok (.slice (some ⟨g, off, none⟩) (sLen + m) sCap) (w.setRow g (cur.toList.take (off + sLen * i.size) ++ news ++ cur.toList.drop (off + sLen * i.size + news.length)).toArray) := by
  have hf := run_firstCells_some (P := P) w i.size m a m c news hl hnews
  have hst := run_storeCells_at P g (off + sLen * i.size) te news 0 cur w hg (by simpa using hfit) h1
  simp only [Nat.add_zero] at hst
  simp [Builtin.append_, run_underlying ht, Go.sizeOf, typeInfo, hi, Builtin.lenOf, hroom, hf, addr_add, hst]

section
variable {E : Env} {call : FuncId → List FV → Res} {X : Cx} {M : Mem} {a : Act} {w : World} {γ : Nat → Gh} {S : Nat → Prop} {us : List (Key × Ent)} {o : Oper}

/-- What a slice reads as: where its elements lie. -/
theorem gets_seq (h : Rel X M a w γ S) {sz : Nat} {s : SV} {v : Value} (hs : SRep w S γ (hdOf M) s v) {f : List FV → RT} (hg : Gets (seq sz s f) M us) :
    ∃ xs aa cap b p, v = .slice aa xs.length cap ∧ xs.length ≤ cap ∧ (xs ≠ [] → aa = some ⟨b, p, none⟩) ∧ Row w S b p sz xs ∧ Gets (f xs) M us := by
  unfold seq at hg
  split at hg
  · have e := hs.nilS_inv
    exact ⟨[], none, 0, 0, 0, e, Nat.le_refl _, fun h => absurd rfl h, ⟨fun x hx => by simp at hx, fun i j x c hi => by simp at hi⟩, hg⟩
  · rename_i x
    split at hg
    · rename_i xs hx
      unfold lstOf at hx
      split at hx
      · rename_i s0 ys
        have hrep := hs.list_inv
        obtain ⟨aa, cap, b, p, h1, h2, h3, h4⟩ := FRep.list_iff.1 hrep
        cases hb : Nat.beq s0 sz with
        | true =>
          rw [hb] at hx
          simp only [cond_true, Option.some.injEq] at hx
          subst hx
          have := Nat.eq_of_beq_eq_true hb
          subst this
          exact ⟨ys, aa, cap, b, p, h1, h2, fun hne => (h3 hne).1, h4, hg⟩
        | false =>
          rw [hb] at hx
          simp only [cond_false] at hx
          split at hx
          · cases hx
            exact ⟨[], aa, cap, b, p, h1, h2, fun hne => absurd rfl hne, ⟨fun x hx => by simp at hx, fun i j x c hi => by simp at hi⟩, hg⟩
          · simp at hx
      · simp at hx
    · exact (gets_fail hg).elim
  · rename_i id view
    obtain ⟨e, he, hg⟩ := gets_rdHead hg
    have go : ∀ s0 xs, e.row = some (s0, xs.length) → (e = .vec s0 xs ∨ e = .frz s0 xs) → Gets (bif Nat.beq s0 sz then (match (generalizing := false) view with | none => f xs | some (o, n) => f ((xs.drop o).take n)) else .fail) M us →
        ∃ xs aa cap b p, v = .slice aa xs.length cap ∧ xs.length ≤ cap ∧ (xs ≠ [] → aa = some ⟨b, p, none⟩) ∧ Row w S b p sz xs ∧ Gets (f xs) M us := by
      clear hg
      intro s0 xs hrow hcase hg0
      obtain ⟨hb, hgA⟩ := gets_bif hg0
      clear hg0
      have := Nat.eq_of_beq_eq_true hb
      subst this
      have ho := h.head id e he
      have hcap : xs.length ≤ (γ id).cap := len_cap h he hrow
      have hR : (γ id).nil = true → xs = [] := fun hn => by
        rcases hcase with rfl | rfl <;> (have := ho.2; rw [if_pos hn] at this; exact this.1)
      have hrowR : (γ id).nil = false → Row w S (γ id).blk (γ id).off s0 xs := fun hn => by
        rcases hcase with rfl | rfl
        · have := ho.2; rw [if_neg (by simp [hn])] at this; obtain ⟨_, _, _, _, q⟩ := this; exact q
        · have := ho.2; rw [if_neg (by simp [hn])] at this; exact this.2
      have empty : Row w S 0 0 s0 ([] : List FV) := ⟨fun x hx => by simp at hx, fun i j x c hi => by simp at hi⟩
      rcases hs.sl_inv he hrow with ⟨rfl, rfl⟩ | ⟨o', n, aa, c, rfl, rfl, h1, h2, h3, h4⟩
      · by_cases hn : (γ id).nil = true
        · have := hR hn
          subst this
          exact ⟨[], _, _, 0, 0, rfl, hcap, fun h => absurd rfl h, empty, hgA⟩
        · have hn' : (γ id).nil = false := by simpa using hn
          exact ⟨xs, _, _, (γ id).blk, (γ id).off, rfl, hcap, fun _ => by simp [Gh.base, hn'], hrowR hn', hgA⟩
      · have hlen : ((xs.drop o').take n).length = n := by simp; omega
        by_cases h0 : n = 0
        · subst h0
          simp only [List.take_zero] at hgA
          exact ⟨[], aa, c, 0, 0, rfl, Nat.zero_le _, fun h => absurd rfl h, empty, hgA⟩
        · obtain ⟨hn, rfl⟩ := h3 h0
          exact ⟨(xs.drop o').take n, _, c, (γ id).blk, (γ id).off + o' * s0, by rw [hlen], by rw [hlen]; exact h2, fun _ => rfl, (hrowR hn).sub' o' n, hgA⟩
    split at hg
    · exact go _ _ rfl (.inl rfl) hg
    · exact go _ _ rfl (.inr rfl) hg
    · exact (gets_fail hg).elim
  · exact (gets_fail hg).elim

/-- the cells of a row, one behind the other -/
def rowVals (w : World) (b p sz n : Nat) : List Value := (List.range (n * sz)).map fun k => (cellAt w b (p + k)).getD undef

theorem rowVals_get {b p sz n k : Nat} (hk : k < n * sz) : (rowVals w b p sz n)[k]? = some ((cellAt w b (p + k)).getD undef) := by
  simp [rowVals, hk]

theorem FRep.one {x : FV} {v : Value} (h : FRep w S x v) (hx : x.flat = true) : v.oneCell' = true := by
  cases h <;> first | rfl | exact hx | (simp [FV.flat] at hx)

/-- bytes, put together -/
theorem convert_bytes {P : Program} {w : World} {S : Nat → Prop} {src dst el : TypeId} (hs : P.underlying src = some (.slice el)) (he : P.underlying el = some (.int .u8)) (hd : P.underlying dst = some .string)
    {xs : List FV} {aa : Option Addr} {cap b p : Nat} {str : ByteArray} (haa : xs ≠ [] → aa = some ⟨b, p, none⟩) (hrow : Row w S b p 1 xs) (hb : bytesO xs = some str) :
    (Go.convert src dst (.slice aa xs.length cap)).run P w = .ok (.string str) w := by
  unfold bytesO at hb
  split at hb
  · rename_i hall
    simp only [Option.some.injEq] at hb
    have hns : ∃ ns : List Int, xs = ns.map (FV.int .u8) := by
      clear hb haa hrow
      induction xs with
      | nil => exact ⟨[], rfl⟩
      | cons x xs ih =>
        simp only [List.all_cons, Bool.and_eq_true] at hall
        obtain ⟨ns, rfl⟩ := ih hall.2
        have h1 := hall.1
        split at h1
        · rename_i n; exact ⟨n :: ns, rfl⟩
        · cases h1
    obtain ⟨ns, rfl⟩ := hns
    have hstr : str = strOfNums ns := by
      rw [← hb, List.map_map]; rfl
    subst hstr
    cases ns with
    | nil =>
      cases aa with
      | none => exact (run_convert_bytes_nil w src el hs he 0 cap dst hd).trans rfl
      | some ad =>
        have hl : (loadCells ad 0).run P w = .ok (([] : List Int).map (Value.int .u8)).toArray w := by simpa using run_loadCells_list (P := P) w ad [] (fun j v h => by simp at h)
        have := run_bytesToString w ad 0 cap [] hl
        rw [List.map_nil, List.length_nil, run_convert_bytes_string w src dst el _ 0 cap hs he hd, this]
        rfl
    | cons n ns =>
      rw [haa (by simp)]
      refine run_convert_bytes_arg w src el hs he b p _ cap (n :: ns) (by simp) (fun i hi => ?_) dst hd
      have hi' : i < (n :: ns).length := by simpa using hi
      obtain ⟨v, h1, h2⟩ := hrow.2 i 0 (.int .u8 ((n :: ns)[i])) (.int .u8 ((n :: ns)[i])) (by rw [List.getElem?_map, List.getElem?_eq_getElem hi']; rfl) rfl
      have e : v = .int .u8 ((n :: ns)[i]) := by cases h2; rfl
      subst e
      rw [show p + (i * 1 + 0) = p + i by omega] at h1
      rw [List.getD_eq_getElem?_getD, List.getElem?_eq_getElem hi']
      exact h1
  · cases hb

theorem sim_convert {src dst : TypeId} {x : Operand} (hE : EnvOk E) (h : Rel X M a w γ S) (hd : ∀ d, o.dst = some d → X.Dst d) (hop : o.op = .convert src dst x) (hg0 : Gets (rtOp E call o) M us) : Goal E.P X M o a w us := by
  simp only [rtOp, hop] at hg0
  obtain ⟨s, hs, hg1⟩ := gets_opd h hg0
  obtain ⟨i1, inf1, d1, z1, hT1, hg2⟩ := gets_ty hE hg1
  obtain ⟨i2, inf2, d2, z2, hT2, hg⟩ := gets_ty hE hg2
  clear hg0 hg1 hg2
  split at hg
  · rename_i k n k' ha hck
    have hc := hT2.scalar ha
    rw [hck] at hc
    have : d2 = .int k' := by cases d2 <;> simp [ck1, kindEq_iff] at hc; rw [hc]
    subst this
    have e := hs.int_inv
    refine .value0 (v := .int _ _) ?_ (put_end h hd (.fv (.int _ _)) hg)
    simp [execOp, hop, e, Go.convert, hT1.runU, hT2.runU, Conv.intToInt]
  · rename_i n ha hck
    have hc := hT2.scalar ha
    rw [hck] at hc
    have : d2 = .string := by cases d2 <;> simp [ck1] at hc; rfl
    subst this
    have e := hs.str_inv
    refine .value0 (v := .string _) ?_ (put_end h hd (.fv (.str _)) hg)
    simp [execOp, hop, e, Go.convert, hT1.runU, hT2.runU]
  · have hck : i2.ck = [.str] := by assumption
    have hc := hT2.scalar (by assumption)
    rw [hck] at hc
    have : d2 = .string := by cases d2 <;> simp [ck1] at hc; rfl
    subst this
    obtain ⟨el, te, inf, dd, z, hu, hT, hG⟩ := gets_sliceTy hE hg
    split at hG
    · rename_i hag hek
      have hc := hT.scalar hag
      rw [hek] at hc
      have : dd = .int .u8 := by cases dd <;> simp [ck1, kindEq_iff] at hc; rw [hc]
      subst this
      obtain ⟨xs, aa, cap, b, p, e, hcap, haa, hrow, hG2⟩ := gets_seq h hs hG
      obtain ⟨str, hstr, hG3⟩ := gets_str hG2
      refine .value0 (v := .string str) ?_ (put_end h hd (.fv (.str str)) hG3)
      have hrun := convert_bytes (src := src) (dst := dst) hu hT.und hT2.und haa hrow hstr (cap := cap)
      rw [← e] at hrun
      simp [execOp, hop, hrun]
    · exact (gets_fail hG).elim
  · exact (gets_fail hg).elim

end
end Rf
