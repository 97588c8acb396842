/- Control: what is computed of the abstract memory is what the code does. -/
import Derived.Scope
import Derived.Test.YtebaohjeodeaoaaGreatDoorRf23
import Derived.LoopN
namespace Rf
open Go

def toExit : X → Exit
  | .normal => .normal
  | .exit id => .exit id
  | .ret => .ret

/-- what follows is right -/
def KOk (C : Cx) (R : List FV) (K : Kont) (Q : Exit → Act → World → Prop) : Prop := ∀ x M a w γ S, Rel C M a w γ S → K x M = some R → Q (toExit x) a w

section
variable {E : Env} {call : FuncId → List FV → Res} {C : Cx} {M : Mem} {a : Act} {w : World} {γ : Nat → Gh} {S : Nat → Prop} {us : List (Key × Ent)} {R : List FV} {an : Ann}

theorem gets_slotsOf (h : Rel C M a w γ S) : ∀ {ts : List Nat} {f : List SV → RT}, Gets (slotsOf ts f) M us → ∃ svs, All2 (SRep w S γ (hdOf M)) svs (ts.map fun t => a.tmps.getD t undef) ∧ Gets (f svs) M us
  | [], f, hg => ⟨[], .nil, hg⟩
  | t :: ts, f, hg => by
    unfold slotsOf at hg
    obtain ⟨e, he, hg⟩ := gets_rd hg
    split at hg
    · rename_i v
      obtain ⟨svs, h1, h2⟩ := gets_slotsOf h hg
      exact ⟨v :: svs, .cons (h.slot t v he) h1, h2⟩
    · exact (gets_fail hg).elim

theorem told_some {t : RT} {K : List FV → Res} (h : t.told M K = some R) : ∃ k L, Gets t M [(k, .sv (.fv (.agg L)))] ∧ K L = some R := by
  obtain ⟨us, l, h1, h2⟩ := run_get h
  split at h2
  · rename_i k L
    exact ⟨k, L, ⟨l, h1⟩, h2⟩
  · simp at h2

theorem rel_nil (h : Rel C M a w γ S) : Rel C [] a w γ S :=
  { keep := h.keep, head := fun id e he => by simp [hdOf, Mem.get] at he, own := fun id e he => by simp [hdOf, Mem.get] at he, inj := fun id e id' e' he => by simp [hdOf, Mem.get] at he, nt := h.nt, nodef := h.nodef, pin := h.pin,
    slot := fun t s hs => by simp [Mem.get] at hs }

/-- past a point -/
theorem prune_ok (h : Rel C M a w γ S) {id : Nat} {K : Mem → Res} (hp : prune an id M K = some R) : ∃ M' γ' S', Rel C M' a w γ' S' ∧ K M' = some R := by
  unfold prune at hp
  split at hp
  · exact ⟨M, γ, S, h, hp⟩
  · rename_i ts T hT
    cases hfl : flatOk 0 T with
    | false => rw [hfl] at hp; simp at hp
    | true =>
      rw [hfl, cond_true] at hp
      obtain ⟨k, L, hg, hK⟩ := told_some hp
      obtain ⟨svs, hs, hg1⟩ := gets_slotsOf h hg
      obtain ⟨L1, ids, fz, G, hG, hfz, _, hap, hids, _, hg2, hTr⟩ := gets_ext h hs (acc := []) (accG := []) ⟨fun j id h => by simp at h, fun i j id h => by simp at h⟩ .nil (FzList.nil M) hg1
      have := gets_ret hg2
      simp only [List.cons.injEq, Prod.mk.injEq, Ent.sv.injEq, SV.fv.injEq, FV.agg.injEq, and_true] at this
      obtain ⟨_, rfl⟩ := this
      obtain ⟨S1, s1, _, hR⟩ := h.freezes hfz
      have hT1 := hTr S1 s1 hR
      cases hb : bld (namesFrom 1000 (owns T)) 0 T L with
      | none => rw [memOf, hb] at hK; exact ⟨[], γ, S, rel_nil h, hK⟩
      | some p =>
        obtain ⟨us, vs, r⟩ := p
        rw [memOf, hb] at hK
        have hsl : All2 (fun t v => a.tmps.getD t undef = v) ts (ts.map fun t => a.tmps.getD t undef) := by
          clear hK hb hT1 hR hTr hg hg1 hs hT hp
          induction ts with
          | nil => exact .nil
          | cons t ts ih => exact .cons rfl ih
        obtain ⟨_, hR', _⟩ := rel_fresh hR.keep h.nt h.nodef h.pin hT1 hfl hb (namesFrom_inj _ _) (.of hR hG hids hap) hsl
        exact ⟨_, _, _, hR', hK⟩

/-- a region -/
theorem evR_ok (hE : EnvOk E) (hC : CallOk E call) {nt : Nat} {pins : List Nat} (hnt : nt ≤ C.nt) (hpin : ∀ d, d ∉ pins → C.pin d = none) {id : Nat} {ops : Array Oper} {draw : Bool} {K : Kont} {Q : Exit → Act → World → Prop}
    (hops : opsOk nt pins 0 ops.toList = true) (h : Rel C M a w γ S) (hev : evR E call ops draw K M = some R) (hK : KOk C R K Q) : (Code.region id ops draw).wp E.P Q a w := by
  unfold evR at hev
  obtain ⟨tr, M', t1, t2, t3, t4⟩ := evOps_trace hev
  simp only [List.append_nil] at t4
  have hlen : tr.length = ops.size := by simpa using t1
  have hspec := opsOk_spec hops
  have ho : ∀ (i : Nat) (o : Oper), ops[i]? = some o → opOk nt pins o = true := fun i o hi => (hspec i o (by rw [Array.getElem?_toList]; exact hi)).1
  have htr : ∀ (i : Nat) (o : Oper) (u : List (Key × Ent) × List Key), ops[i]? = some o → tr[i]? = some u → StepOk E call ops o (seqM tr M i) u.1 u.2 := fun i o u h1 h2 => t2 i o u (by rw [Array.getElem?_toList]; exact h1) h2
  cases hc : (!draw || fpOk (Region.before ops) (ops.size - 1) (tr.map fun u => (u.2, keysOf u.1)).reverse) with
  | false => rw [hc] at t4; simp at t4
  | true =>
    rw [hc, cond_true] at t4
    have t3' : MEq (seqM tr M ops.size) M' := by simpa using t3
    have hQ : ∀ a' w' γ' S', Rel C (seqM tr M ops.size) a' w' γ' S' → Q .normal a' w' := fun a' w' γ' S' hR => hK .normal M' a' w' γ' S' (hR.congr t3') t4
    cases draw with
    | false =>
      refine wp_region ?_
      rw [List.range_eq_range']
      exact range_sim hE hC hnt hpin ho hlen htr hQ ops.size 0 a w γ S (by omega) h
    | true =>
      simp only [Bool.not_true, Bool.false_or] at hc
      refine wp_region_any hE.mixed ?_
      have htopo : Topo ops := fun i o hi => by
        have := (hspec i o (by rw [Array.getElem?_toList]; exact hi)).2
        rw [Nat.zero_add] at this
        exact topoEdges_spec this
      have h0 : ∀ i, (Array.replicate ops.size false).getD i false = false := fun i => by
        rw [Array.getD_eq_getD_getElem?]
        by_cases hi : i < ops.size
        · rw [Array.getElem?_replicate, if_pos hi]; rfl
        · rw [Array.getElem?_replicate, if_neg hi]; rfl
      refine any_sim hE hC hnt hpin ho htopo hlen htr (fun i j u v => fpOk_tr hlen hc i j u v) hQ ops.size _ a _ γ S (by simp) (fun j _ hj => by simp only [h0] at hj; cases hj) ?_ ?_
      · exact Nat.le_trans (List.length_filter_le _ _) (by simp)
      · have : ∀ m, memD tr M (fun i => (Array.replicate ops.size false).getD i false) m = M := fun m => by
          induction m with
          | zero => rfl
          | succ m ih => rw [memD, if_neg (by rw [h0]; simp), ih]
        rw [this]
        exact h.drew (w.drawn + 1)

theorem kSeq_ok {K : Kont} {Q : Exit → Act → World → Prop} {g : Mem → Res} {next : Act → World → Prop} (hg : ∀ M a w γ S, Rel C M a w γ S → g M = some R → next a w) (hK : KOk C R K Q) : KOk C R (kSeq g K) (Exit.then next Q) := fun x M a w γ S h hk => by
  cases x with
  | normal => exact hg M a w γ S h hk
  | exit id => exact hK (.exit id) M a w γ S h hk
  | ret => exact hK .ret M a w γ S h hk

theorem evC_ok (hE : EnvOk E) (hC : CallOk E call) {nt : Nat} {pins : List Nat} (hnt : nt ≤ C.nt) (hpin : ∀ d, d ∉ pins → C.pin d = none) (n : Nat) :
    ∀ (c : Code) {M : Mem} {a : Act} {w : World} {γ : Nat → Gh} {S : Nat → Prop} {K : Kont} {Q : Exit → Act → World → Prop}, codeOk nt pins c = true → Rel C M a w γ S → evC E call an n c K M = some R → KOk C R K Q → c.wp E.P Q a w := by
  intro c
  induction c with
  | skip => intro M a w γ S K Q _ h hev hK; exact wp_skip (hK .normal M a w γ S h hev)
  | label l => intro M a w γ S K Q _ h hev hK; exact wp_label (hK .normal M a w γ S h hev)
  | ret => intro M a w γ S K Q _ h hev hK; exact wp_ret (hK .ret M a w γ S h hev)
  | exit id => intro M a w γ S K Q _ h hev hK; exact wp_exit (hK (.exit id) M a w γ S h hev)
  | region id ops draw =>
    intro M a w γ S K Q hc h hev hK
    obtain ⟨M', γ', S', h', hev'⟩ := prune_ok h hev
    exact evR_ok hE hC hnt hpin hc h' hev' hK
  | seq x y ihx ihy =>
    intro M a w γ S K Q hc h hev hK
    simp only [codeOk, Bool.and_eq_true] at hc
    refine wp_seq (ihx hc.1 h hev (kSeq_ok (fun M a w γ S h hev => ihy hc.2 h hev hK) hK))
  | cond x p q ihp ihq =>
    intro M a w γ S K Q hc h hev hK
    simp only [codeOk, Bool.and_eq_true] at hc
    simp only [evC] at hev
    split at hev
    · rename_i t
      split at hev
      · rename_i b hb
        have hv : a.eval (.tmp t) = .bool b := (h.slot t _ hb).bool_inv
        cases b with
        | true => exact wp_cond_true hv (ihp hc.1 h hev hK)
        | false => exact wp_cond_false hv (ihq hc.2 h hev hK)
      · simp at hev
    · exact wp_cond_true rfl (ihp hc.1 h hev hK)
    · exact wp_cond_false rfl (ihq hc.2 h hev hK)
    · simp at hev
  | block id x ih =>
    intro M a w γ S K Q hc h hev hK
    refine wp_block (ih hc h hev fun x M a w γ S h hk => ?_)
    cases x with
    | normal => exact hK .normal M a w γ S h hk
    | ret => exact hK .ret M a w γ S h hk
    | exit j =>
      simp only [kBlock] at hk
      simp only [toExit, Exit.inBlock]
      cases hb : Nat.beq j id with
      | true =>
        rw [hb] at hk
        rw [if_pos (Nat.eq_of_beq_eq_true hb)]
        exact hK .normal M a w γ S h hk
      | false =>
        rw [hb] at hk
        rw [if_neg (Nat.ne_of_beq_eq_false hb)]
        exact hK (.exit j) M a w γ S h hk
  | scope x ih =>
    intro M a w γ S K Q hc h hev hK
    refine wp_scope_straight (ih hc h hev fun x M a w γ S h hk => ?_)
    cases x with
    | normal => exact hK .normal M a w γ S h hk
    | ret => exact hK .ret M a w γ S h hk
    | exit j => exact hK (.exit j) M a w γ S h hk
  | loop x ih =>
    intro M a w γ S K Q hc h hev hK
    simp only [evC] at hev
    obtain ⟨M', γ', S', h', hev'⟩ := prune_ok h hev
    have key : ∀ (m : Nat) {M : Mem} {a : Act} {w : World} {γ : Nat → Gh} {S : Nat → Prop}, Rel C M a w γ S → evLoop (firstRegion x) (fun K' M' => evC E call an n x K' M') K (prune an (firstRegion x)) m M = some R → Code.rounds E.P x Q m a w := by
      intro m
      induction m with
      | zero => intro M a w γ S h hev; simp [evLoop] at hev
      | succ m ihm =>
        intro M a w γ S h hev
        simp only [evLoop] at hev
        rw [rounds_succ]
        refine ih hc h hev (kSeq_ok (fun M a w γ S h hev => ?_) hK)
        obtain ⟨M', γ', S', h', hev'⟩ := prune_ok h hev
        exact ihm h' hev'
    exact wp_loop_rounds n (key n h' hev')
  | _ => intro M a w γ S K Q _ h hev hK; simp [evC] at hev

end
end Rf
