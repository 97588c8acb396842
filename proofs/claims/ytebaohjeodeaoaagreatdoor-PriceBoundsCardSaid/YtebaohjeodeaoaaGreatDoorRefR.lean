/- The document's whole numbers and fractions: each function by what its numbers are. -/
import Derived.Test.YtebaohjeodeaoaaGreatDoorRefT
import Derived.Test.YtebaohjeodeaoaaGreatDoorEqRefR
import Derived.Test.YtebaohjeodeaoaaGreatDoorRat
set_option linter.unusedSimpArgs false
set_option linter.unusedVariables false
set_option maxHeartbeats 2000000
namespace Rf
open Go

abbrev wl (z : Int) : FV := wL z.natAbs

theorem wlen_of {x k : Nat} (h : x < 2 ^ k) (hk : k ≤ 100000000000) : (dg 1000000000 x).length ≤ 100000000000 := Nat.le_trans (dg_len_pow b9_2 h) hk
theorem wl_nat (n : Nat) : wl (n : Int) = wL n := rfl
theorem wL_zero : wL 0 = .list 1 [] := by unfold wL; rw [dg_zero]; rfl

theorem wmk_ev {x : Nat} {s : Bool} : Ev En 64 [.bool s, wL x] [zb (sg s x), wl (sg s x)] := by
  refine Ev.of 0 fun n hn => ?_
  rw [noonbellref02_Make_eq]
  unfold wl zb
  rw [sg_abs, sg_neg]
  cases s
  · rfl
  · have : decide ((((dg 1000000000 x).map d64).length : Int) > 0) = decide (0 < x) := by
      rw [List.length_map, Bool.eq_iff_iff, decide_eq_true_eq, decide_eq_true_eq]
      by_cases h : x = 0
      · subst h; rw [dg_zero]; simp
      · have := wlen_pos h; omega
    rw [cond_true, this]; rfl

theorem wsign_run {n : Nat} {z : Int} : evF En (n + 1) 33 [zb z, wl z] = some [.int .i64 z.sign] := by
  rw [noonbellref02_Num_Sign_eq]
  by_cases h : z < 0
  · rw [decide_eq_true h, cond_true, Int.sign_eq_neg_one_of_neg h]
  · rw [decide_eq_false h, cond_false, List.length_map]
    by_cases h0 : z = 0
    · subst h0
      rw [show (0 : Int).natAbs = 0 from rfl, dg_zero]; rfl
    · have := wlen_pos (x := z.natAbs) (by omega)
      rw [decide_eq_true (by omega), cond_true, Int.sign_eq_one_of_pos (by omega)]

theorem wsign_nat {n d : Nat} : evF En (n + 1) 33 [.bool false, wL d] = some [.int .i64 (if d = 0 then 0 else 1)] := by
  have h := wsign_run (n := n) (z := (d : Int))
  rw [zb_nat, wl_nat] at h
  rw [h]
  by_cases h0 : d = 0
  · subst h0; rfl
  · rw [if_neg h0, Int.sign_eq_one_of_pos (by omega)]

theorem wneg_ev {z : Int} : Ev En 24 [zb z, wl z] [zb (-z), wl (-z)] := by
  obtain ⟨n1, h1⟩ := wmk_ev (s := !(decide (z < 0))) (x := z.natAbs)
  refine Ev.of n1 fun n hn => ?_
  rw [noonbellref02_Num_Neg_eq]
  simp (disch := omega) only [h1, Option.bind_some, List.getElem?_cons_zero, List.getElem?_cons_succ, asLst_list, asInt_int, asBool_bool, asStr_str, cond_true, cond_false]
  have : sg (!(decide (z < 0))) z.natAbs = -z := by
    unfold sg; by_cases h : z < 0 <;> simp [h] <;> omega
  rw [this]

theorem wadd_z {z w : Int} {k : Nat} (hk : k ≤ 100000000000) (hz : z.natAbs < 2 ^ k) (hw : w.natAbs < 2 ^ k) : Ev En 32 [zb z, wl z, zb w, wl w] [zb (z + w), wl (z + w)] := by
  have lz := wlen_of hz hk
  have lw := wlen_of hw hk
  by_cases hs : decide (z < 0) = decide (w < 0)
  · obtain ⟨n1, h1⟩ := wadd_ev (x := z.natAbs) (y := w.natAbs) (by omega) (by omega)
    obtain ⟨n2, h2⟩ := wmk_ev (s := decide (w < 0)) (x := z.natAbs + w.natAbs)
    refine Ev.of (n1 + n2) fun n hn => ?_
    rw [noonbellref02_Num_Add_eq, hs]
    try simp (disch := omega) only [beq_self_eq_true, Option.bind_some, List.getElem?_cons_zero, List.getElem?_cons_succ, asLst_list, asInt_int, asBool_bool, asStr_str, cond_true, cond_false]
    try simp (disch := omega) only [h1, Option.bind_some, List.getElem?_cons_zero, List.getElem?_cons_succ, asLst_list, asInt_int, asBool_bool, asStr_str, cond_true, cond_false]
    try simp (disch := omega) only [h2, Option.bind_some, List.getElem?_cons_zero, List.getElem?_cons_succ, asLst_list, asInt_int, asBool_bool, asStr_str, cond_true, cond_false]
    have : sg (decide (w < 0)) (z.natAbs + w.natAbs) = z + w := by
      unfold sg
      by_cases h : w < 0
      · have : z < 0 := by rw [decide_eq_true h] at hs; exact of_decide_eq_true hs
        simp [h]; omega
      · have : ¬ z < 0 := by rw [decide_eq_false h] at hs; exact of_decide_eq_false hs
        simp [h]; omega
    rw [this]
  · have hb : (decide (z < 0) == decide (w < 0)) = false := beq_eq_false_iff_ne.2 hs
    have hsgn : (z < 0 ∧ 0 ≤ w) ∨ (0 ≤ z ∧ w < 0) := by
      by_cases h : z < 0 <;> by_cases h' : w < 0 <;> simp_all <;> omega
    have hc := fun n (hn : (dg 1000000000 z.natAbs).length + (dg 1000000000 w.natAbs).length + 1 ≤ n) => wcmp_run (n := n) (x := z.natAbs) (y := w.natAbs) (by omega) (by omega) hn
    by_cases hle : w.natAbs ≤ z.natAbs
    · obtain ⟨n2, h2⟩ := wmk_ev (x := z.natAbs - w.natAbs) (s := decide (z < 0))
      refine Ev.of (n2 + (dg 1000000000 z.natAbs).length * 2 + (dg 1000000000 w.natAbs).length + 6) fun n hn => ?_
      obtain ⟨n, rfl⟩ : ∃ m, n = m + 1 := ⟨n - 1, by omega⟩
      rw [noonbellref02_Num_Add_eq, hb, cond_false, hc n (by omega)]
      simp only [Option.bind_some, List.getElem?_cons_zero, asInt_int]
      rw [decide_eq_true (show cmpN z.natAbs w.natAbs ≥ 0 by unfold cmpN; rw [if_neg (by omega)]; split <;> omega), cond_true, wsub_run hle (by omega) (by omega)]
      try simp (disch := omega) only [h2, Option.bind_some, List.getElem?_cons_zero, List.getElem?_cons_succ, asLst_list, asInt_int, asBool_bool, asStr_str, cond_true, cond_false]
      try simp (disch := omega) only [h2, Option.bind_some, List.getElem?_cons_zero, List.getElem?_cons_succ, asLst_list, asInt_int, asBool_bool, asStr_str, cond_true, cond_false]
      have : sg (decide (z < 0)) (z.natAbs - w.natAbs) = z + w := by
        unfold sg
        by_cases h : z < 0 <;> simp [h] <;> omega
      rw [this]
    · obtain ⟨n2, h2⟩ := wmk_ev (x := w.natAbs - z.natAbs) (s := decide (w < 0))
      refine Ev.of (n2 + (dg 1000000000 w.natAbs).length * 2 + (dg 1000000000 z.natAbs).length + 6) fun n hn => ?_
      obtain ⟨n, rfl⟩ : ∃ m, n = m + 1 := ⟨n - 1, by omega⟩
      rw [noonbellref02_Num_Add_eq, hb, cond_false, hc n (by omega)]
      simp only [Option.bind_some, List.getElem?_cons_zero, asInt_int]
      rw [decide_eq_false (show ¬ cmpN z.natAbs w.natAbs ≥ 0 by unfold cmpN; rw [if_pos (by omega)]; omega), cond_false, wsub_run (by omega) (by omega) (by omega)]
      try simp (disch := omega) only [h2, Option.bind_some, List.getElem?_cons_zero, List.getElem?_cons_succ, asLst_list, asInt_int, asBool_bool, asStr_str, cond_true, cond_false]
      try simp (disch := omega) only [h2, Option.bind_some, List.getElem?_cons_zero, List.getElem?_cons_succ, asLst_list, asInt_int, asBool_bool, asStr_str, cond_true, cond_false]
      have : sg (decide (w < 0)) (w.natAbs - z.natAbs) = z + w := by
        unfold sg
        by_cases h : w < 0 <;> simp [h] <;> omega
      rw [this]

theorem wsub_z {z w : Int} {k : Nat} (hk : k ≤ 100000000000) (hz : z.natAbs < 2 ^ k) (hw : w.natAbs < 2 ^ k) : Ev En 145 [zb z, wl z, zb w, wl w] [zb (z - w), wl (z - w)] := by
  obtain ⟨n1, h1⟩ := wneg_ev (z := w)
  obtain ⟨n2, h2⟩ := wadd_z (w := -w) hk hz (by rw [Int.natAbs_neg]; exact hw)
  refine Ev.of (n1 + n2) fun n hn => ?_
  rw [noonbellref02_Num_Sub_eq]
  try simp (disch := omega) only [h1, Option.bind_some, List.getElem?_cons_zero, List.getElem?_cons_succ, asLst_list, asInt_int, asBool_bool, asStr_str, cond_true, cond_false]
  try simp (disch := omega) only [h2, Option.bind_some, List.getElem?_cons_zero, List.getElem?_cons_succ, asLst_list, asInt_int, asBool_bool, asStr_str, cond_true, cond_false]
  rw [Int.sub_eq_add_neg]

theorem wmul_z {z w : Int} {k : Nat} (hk : k + k ≤ 100000000000) (hz : z.natAbs < 2 ^ k) (hw : w.natAbs < 2 ^ k) : Ev En 91 [zb z, wl z, zb w, wl w] [zb (z * w), wl (z * w)] := by
  have lz := wlen_of hz (by omega)
  have lw := wlen_of hw (by omega)
  obtain ⟨n1, h1⟩ := wmul_ev (x := z.natAbs) (y := w.natAbs) (by omega)
  obtain ⟨n2, h2⟩ := wmk_ev (s := !(decide (z < 0) == decide (w < 0))) (x := z.natAbs * w.natAbs)
  refine Ev.of (n1 + n2) fun n hn => ?_
  rw [noonbellref02_Num_Mul_eq]
  try simp (disch := omega) only [h1, Option.bind_some, List.getElem?_cons_zero, List.getElem?_cons_succ, asLst_list, asInt_int, asBool_bool, asStr_str, cond_true, cond_false]
  try simp (disch := omega) only [h2, Option.bind_some, List.getElem?_cons_zero, List.getElem?_cons_succ, asLst_list, asInt_int, asBool_bool, asStr_str, cond_true, cond_false]
  have : sg (!(decide (z < 0) == decide (w < 0))) (z.natAbs * w.natAbs) = z * w := sg_mul z w
  rw [this]

theorem sign_cmp (z w : Int) : (z - w).sign = cmpZi z w := by
  unfold cmpZi
  rcases Int.lt_trichotomy z w with h | h | h
  · rw [if_pos h, Int.sign_eq_neg_one_of_neg (by omega)]
  · subst h; simp
  · rw [if_neg (by omega), if_pos h, Int.sign_eq_one_of_pos (by omega)]

theorem wcmp_z {z w : Int} {k : Nat} (hk : k ≤ 100000000000) (hz : z.natAbs < 2 ^ k) (hw : w.natAbs < 2 ^ k) : Ev En 109 [zb z, wl z, zb w, wl w] [.int .i64 (cmpZi z w)] := by
  obtain ⟨n1, h1⟩ := wsub_z hk hz hw
  refine Ev.of (n1 + 1) fun n hn => ?_
  obtain ⟨n, rfl⟩ : ∃ m, n = m + 1 := ⟨n - 1, by omega⟩
  rw [noonbellref02_Num_Cmp_eq]
  try simp (disch := omega) only [h1, Option.bind_some, List.getElem?_cons_zero, List.getElem?_cons_succ, asLst_list, asInt_int, asBool_bool, asStr_str, cond_true, cond_false]
  try simp (disch := omega) only [wsign_run, Option.bind_some, List.getElem?_cons_zero, List.getElem?_cons_succ, asLst_list, asInt_int, asBool_bool, asStr_str, cond_true, cond_false]
  rw [sign_cmp]

theorem wnof_ev {z : Int} (h1 : -9223372036854775808 ≤ z) (h2 : z ≤ 9223372036854775807) : Ev En 21 [.int .i64 z] [zb z, wl z] := by
  obtain ⟨n1, g1⟩ := wof_ev (x := z.natAbs) (by omega)
  obtain ⟨n2, g2⟩ := wmk_ev (s := decide (z < 0)) (x := z.natAbs)
  refine Ev.of (n1 + n2) fun n hn => ?_
  rw [noonbellref02_Of_eq]
  by_cases h : z < 0
  · rw [decide_eq_true h] at g2
    have e : IntKind.wrap .u64 (IntKind.wrap .u64 (IntKind.wrap .i64 (0 - IntKind.wrap .i64 (z + 1))) + 1) = (z.natAbs : Int) := by
      rw [wrap64_id (x := z + 1) (by omega) (by omega), wrap64_id (by omega) (by omega)]
      unfold IntKind.wrap
      simp [IntKind.bits, IntKind.signed]
      omega
    rw [decide_eq_false (by omega), e]
    try simp (disch := omega) only [g1, Option.bind_some, List.getElem?_cons_zero, List.getElem?_cons_succ, asLst_list, asInt_int, asBool_bool, asStr_str, cond_true, cond_false]
    try simp (disch := omega) only [g2, Option.bind_some, List.getElem?_cons_zero, List.getElem?_cons_succ, asLst_list, asInt_int, asBool_bool, asStr_str, cond_true, cond_false]
    have : sg true z.natAbs = z := by unfold sg; simp; omega
    rw [this]
  · rw [decide_eq_false h] at g2
    have e : IntKind.wrap .u64 z = (z.natAbs : Int) := by
      unfold IntKind.wrap
      simp [IntKind.bits, IntKind.signed]
      omega
    rw [decide_eq_true (by omega), e]
    try simp (disch := omega) only [g1, Option.bind_some, List.getElem?_cons_zero, List.getElem?_cons_succ, asLst_list, asInt_int, asBool_bool, asStr_str, cond_true, cond_false]
    try simp (disch := omega) only [g2, Option.bind_some, List.getElem?_cons_zero, List.getElem?_cons_succ, asLst_list, asInt_int, asBool_bool, asStr_str, cond_true, cond_false]
    have : sg false z.natAbs = z := by unfold sg; simp; omega
    rw [this]

theorem wqr_ev {z w : Int} {k : Nat} (hk : k ≤ 100000000000) (h0 : w ≠ 0) (hz : z.natAbs < 2 ^ k) (hw : w.natAbs < 2 ^ k) :
    Ev En 131 [zb z, wl z, zb w, wl w] [zb (z.tdiv w), wl (z.tdiv w), zb (z.tmod w), wl (z.tmod w), .int .i64 0] := by
  have lz := wlen_of hz (by omega)
  have lw := wlen_of hw (by omega)
  obtain ⟨n1, h1⟩ := wdivmod_ev (x := z.natAbs) (y := w.natAbs) (by omega) (by omega) (by omega)
  obtain ⟨n2, h2⟩ := wmk_ev (s := !(decide (z < 0) == decide (w < 0))) (x := z.natAbs / w.natAbs)
  obtain ⟨n3, h3⟩ := wmk_ev (s := decide (z < 0)) (x := z.natAbs % w.natAbs)
  refine Ev.of (n1 + n2 + n3) fun n hn => ?_
  rw [noonbellref02_Num_QuoRem_eq]
  try simp (disch := omega) only [h1, Option.bind_some, List.getElem?_cons_zero, List.getElem?_cons_succ, asLst_list, asInt_int, asBool_bool, asStr_str, cond_true, cond_false]
  try simp (disch := omega) only [show ((0 : Int) != 0) = false from rfl, Option.bind_some, List.getElem?_cons_zero, List.getElem?_cons_succ, asLst_list, asInt_int, asBool_bool, asStr_str, cond_true, cond_false]
  try simp (disch := omega) only [h2, Option.bind_some, List.getElem?_cons_zero, List.getElem?_cons_succ, asLst_list, asInt_int, asBool_bool, asStr_str, cond_true, cond_false]
  try simp (disch := omega) only [h3, Option.bind_some, List.getElem?_cons_zero, List.getElem?_cons_succ, asLst_list, asInt_int, asBool_bool, asStr_str, cond_true, cond_false]
  rw [sg_div z w, sg_mod z w]

/-! ### texts -/
theorem wntext_ev {z : Int} {k : Nat} (hk : k ≤ 100000000000) (hz : z.natAbs < 2 ^ k) : Ev En 23 [zb z, wl z] [sF (ztext z)] := by
  have lz := wlen_of hz (by omega)
  have lt := dtext_len hz
  obtain ⟨n1, h1⟩ := wtext_ev (x := z.natAbs) (by omega)
  refine Ev.of n1 fun n hn => ?_
  rw [noonbellref02_Num_Text_eq]
  unfold ztext
  by_cases h : z < 0
  · rw [decide_eq_true h, if_pos h]
    simp (disch := omega) only [h1, Option.bind_some, List.getElem?_cons_zero, List.getElem?_cons_succ, asLst_list, asInt_int, asBool_bool, asStr_str, cond_true, cond_false]
    rw [txt_size, decide_eq_false (by omega), cond_false, show ({ data := #[45] } : ByteArray) = txt [45] from rfl, txt_app]
    rfl
  · rw [decide_eq_false h, if_neg h]
    simp (disch := omega) only [h1, Option.bind_some, List.getElem?_cons_zero, List.getElem?_cons_succ, asLst_list, asInt_int, asBool_bool, asStr_str, cond_true, cond_false]

theorem len_wL (x : Nat) : ((((dg 1000000000 x).map d64).length : Int) == 0) = decide (x = 0) := by
  rw [List.length_map, Bool.eq_iff_iff, beq_iff_eq, decide_eq_true_eq]
  by_cases h : x = 0
  · subst h; rw [dg_zero]; simp
  · have := wlen_pos h; omega

theorem wnparse_ev {l : List UInt8} {z : Int} (h : pz l = some z) (hl : l.length ≤ 1000000000) : Ev En 31 [sF l] [zb z, wl z, .int .i64 0] := by
  have hb := pz_lt h
  have e := pz_some.1 h
  by_cases hz : z < 0
  · have hl2 : l = 45 :: dtext z.natAbs := by rw [e]; unfold ztext; rw [if_pos hz]
    obtain ⟨n1, h1⟩ := wparse_ev (l := dtext z.natAbs) (canon_dtext _) (by rw [hl2] at hl; simp at hl; omega)
    rw [vD_dtext] at h1
    obtain ⟨n2, h2⟩ := wmk_ev (s := true) (x := z.natAbs)
    refine Ev.of (n1 + n2) fun n hn => ?_
    subst hl2
    have ht := txt_at (45 :: dtext z.natAbs) 0
    rw [show ((0 : Nat) : Int) = 0 from rfl, List.getElem?_cons_zero, Option.map_some] at ht
    rw [noonbellref02_Parse_eq, txt_size, decide_eq_true (by simp), cond_true, ht, Option.bind_some, show ((((45 : UInt8).toNat : Nat) : Int) == 45) = true from rfl, cond_true, show (1 : Int) = ((1 : Nat) : Int) from rfl, bd_nat (by simp), Option.bind_some, txt_extract,
      show ((45 :: dtext z.natAbs).take (45 :: dtext z.natAbs).length).drop 1 = dtext z.natAbs by rw [List.take_length]; rfl]
    try simp (disch := omega) only [h1, Option.bind_some, List.getElem?_cons_zero, List.getElem?_cons_succ, asLst_list, asInt_int, asBool_bool, asStr_str, cond_true, cond_false]
    try simp (disch := omega) only [show ((0 : Int) != 0) = false from rfl, Option.bind_some, List.getElem?_cons_zero, List.getElem?_cons_succ, asLst_list, asInt_int, asBool_bool, asStr_str, cond_true, cond_false]
    rw [len_wL, decide_eq_false (by omega)]
    try simp (disch := omega) only [h2, Option.bind_some, List.getElem?_cons_zero, List.getElem?_cons_succ, asLst_list, asInt_int, asBool_bool, asStr_str, cond_true, cond_false]
    try simp (disch := omega) only [h2, Option.bind_some, List.getElem?_cons_zero, List.getElem?_cons_succ, asLst_list, asInt_int, asBool_bool, asStr_str, cond_true, cond_false]
    have : sg true z.natAbs = z := by unfold sg; simp; omega
    rw [this]
  · have hl2 : l = dtext z.natAbs := by rw [e]; unfold ztext; rw [if_neg hz]
    have hc : canon l := hl2 ▸ canon_dtext _
    obtain ⟨c, t, rfl⟩ : ∃ c t, l = c :: t := by
      cases l with
      | nil => exact absurd rfl hc.1
      | cons c t => exact ⟨c, t, rfl⟩
    have h45 : ((c.toNat : Int) == 45) = false := by
      rw [beq_eq_false_iff_ne]
      intro q
      have : c = 45 := UInt8.toNat_inj.1 (show c.toNat = 45 by omega)
      subst this
      exact canon_not45 hc
    obtain ⟨n1, h1⟩ := wparse_ev (l := c :: t) hc hl
    have hv : vD (c :: t) = z.natAbs := by rw [hl2, vD_dtext]
    rw [hv] at h1
    obtain ⟨n2, h2⟩ := wmk_ev (s := false) (x := z.natAbs)
    refine Ev.of (n1 + n2) fun n hn => ?_
    have ht := txt_at (c :: t) 0
    rw [show ((0 : Nat) : Int) = 0 from rfl, List.getElem?_cons_zero, Option.map_some] at ht
    rw [noonbellref02_Parse_eq, txt_size, decide_eq_true (by simp), cond_true, ht, Option.bind_some, h45]
    try simp (disch := omega) only [h1, Option.bind_some, List.getElem?_cons_zero, List.getElem?_cons_succ, asLst_list, asInt_int, asBool_bool, asStr_str, cond_true, cond_false]
    try simp (disch := omega) only [show ((0 : Int) != 0) = false from rfl, Option.bind_some, List.getElem?_cons_zero, List.getElem?_cons_succ, asLst_list, asInt_int, asBool_bool, asStr_str, cond_true, cond_false]
    try simp (disch := omega) only [h2, Option.bind_some, List.getElem?_cons_zero, List.getElem?_cons_succ, asLst_list, asInt_int, asBool_bool, asStr_str, cond_true, cond_false]
    have : sg false z.natAbs = z := by unfold sg; simp; omega
    rw [this]

theorem wnparse_bad {l : List UInt8} (h : pz l = none) (hl : l.length ≤ 1000000000) : Ev En 31 [sF l] [.bool false, .list 1 [], .int .i64 10] := by
  cases l with
  | nil =>
    obtain ⟨n1, h1⟩ := wparse_bad (l := []) (fun hc => hc.1 rfl) hl
    refine Ev.of n1 fun n hn => ?_
    rw [noonbellref02_Parse_eq, txt_size, decide_eq_false (by simp), cond_false]
    try simp (disch := omega) only [h1, Option.bind_some, List.getElem?_cons_zero, List.getElem?_cons_succ, asLst_list, asInt_int, asBool_bool, asStr_str, cond_true, cond_false]
    try simp (disch := omega) only [show ((10 : Int) != 0) = true from rfl, Option.bind_some, List.getElem?_cons_zero, List.getElem?_cons_succ, asLst_list, asInt_int, asBool_bool, asStr_str, cond_true, cond_false]
  | cons c t =>
    have ht := txt_at (c :: t) 0
    rw [show ((0 : Nat) : Int) = 0 from rfl, List.getElem?_cons_zero, Option.map_some] at ht
    by_cases h45 : c = 45
    · subst h45
      simp only [List.length_cons] at hl
      have head : ∀ n, evF En (n + 1) 31 [sF (45 :: t)] = (evF En n 72 [sF t]).bind fun r2 => (asLst 1 (r2[0]?)).bind fun v3 => (asInt .i64 (r2[1]?)).bind fun n4 => 
          (bif (n4 != 0) then some [.bool false, .list 1 [], .int .i64 10]
           else (bif ((v3.length : Int) == 0) then some [.bool false, .list 1 [], .int .i64 10]
             else (evF En n 64 [.bool true, .list 1 v3]).bind fun r5 => (asBool (r5[0]?)).bind fun c6 => (asLst 1 (r5[1]?)).bind fun v7 => some [.bool c6, .list 1 v7, .int .i64 0])) := fun n => by
        rw [noonbellref02_Parse_eq, txt_size, decide_eq_true (by simp), cond_true, ht, Option.bind_some, show ((((45 : UInt8).toNat : Nat) : Int) == 45) = true from rfl, cond_true, show (1 : Int) = ((1 : Nat) : Int) from rfl, bd_nat (by simp), Option.bind_some, txt_extract,
          show ((45 :: t).take (45 :: t).length).drop 1 = t by rw [List.take_length]; rfl]
        rfl
      by_cases hc : canon t
      · have hv : vD t = 0 := by
          apply Classical.byContradiction
          intro q
          rw [pz_neg hc q] at h; cases h
        obtain ⟨n1, h1⟩ := wparse_ev (l := t) hc (by omega)
        rw [hv] at h1
        refine Ev.of n1 fun n hn => ?_
        rw [head]
        try simp (disch := omega) only [h1, Option.bind_some, List.getElem?_cons_zero, List.getElem?_cons_succ, asLst_list, asInt_int, asBool_bool, asStr_str, cond_true, cond_false]
        try simp (disch := omega) only [show ((0 : Int) != 0) = false from rfl, Option.bind_some, List.getElem?_cons_zero, List.getElem?_cons_succ, asLst_list, asInt_int, asBool_bool, asStr_str, cond_true, cond_false]
        rw [len_wL]
        rfl
      · obtain ⟨n1, h1⟩ := wparse_bad (l := t) hc (by omega)
        refine Ev.of n1 fun n hn => ?_
        rw [head]
        try simp (disch := omega) only [h1, Option.bind_some, List.getElem?_cons_zero, List.getElem?_cons_succ, asLst_list, asInt_int, asBool_bool, asStr_str, cond_true, cond_false]
        try simp (disch := omega) only [show ((10 : Int) != 0) = true from rfl, Option.bind_some, List.getElem?_cons_zero, List.getElem?_cons_succ, asLst_list, asInt_int, asBool_bool, asStr_str, cond_true, cond_false]
    · have hb : ((c.toNat : Int) == 45) = false := by
        rw [beq_eq_false_iff_ne]
        intro q
        exact h45 (UInt8.toNat_inj.1 (show c.toNat = 45 by omega))
      have hc : ¬ canon (c :: t) := fun hc => by rw [pz_pos hc] at h; cases h
      obtain ⟨n1, h1⟩ := wparse_bad (l := c :: t) hc hl
      refine Ev.of n1 fun n hn => ?_
      rw [noonbellref02_Parse_eq, txt_size, decide_eq_true (by simp), cond_true, ht, Option.bind_some, hb]
      try simp (disch := omega) only [h1, Option.bind_some, List.getElem?_cons_zero, List.getElem?_cons_succ, asLst_list, asInt_int, asBool_bool, asStr_str, cond_true, cond_false]
      try simp (disch := omega) only [show ((10 : Int) != 0) = true from rfl, Option.bind_some, List.getElem?_cons_zero, List.getElem?_cons_succ, asLst_list, asInt_int, asBool_bool, asStr_str, cond_true, cond_false]

/-! ### fractions -/
theorem wone_of : Ev En 21 [.int .i64 1] [.bool false, wL 1] := by
  have := wnof_ev (z := 1) (by omega) (by omega)
  rwa [show zb (1 : Int) = .bool false from rfl, show wl (1 : Int) = wL 1 from rfl] at this

theorem wden_ev {l : List FV} {b : Bool} {d : Nat} : Ev En 54 [.bool b, .list 1 l, .bool false, wL d] [.bool false, wL (dn d)] := by
  obtain ⟨n2, h2⟩ := wone_of
  refine Ev.of (n2 + 1) fun n hn => ?_
  obtain ⟨n, rfl⟩ : ∃ m, n = m + 1 := ⟨n - 1, by omega⟩
  rw [noonbellref03_Rat_Den_eq, wsign_nat]
  unfold dn
  by_cases h0 : d = 0
  · subst h0
    simp (disch := omega) only [h2, if_true, beq_self_eq_true, Option.bind_some, List.getElem?_cons_zero, List.getElem?_cons_succ, asLst_list, asInt_int, asBool_bool, asStr_str, cond_true, cond_false]
  · rw [if_neg h0, if_neg h0]
    simp (disch := omega) only [show ((1 : Int) == 0) = false from rfl, Option.bind_some, List.getElem?_cons_zero, List.getElem?_cons_succ, asLst_list, asInt_int, asBool_bool, asStr_str, cond_true, cond_false]

theorem wrof_ev {z : Int} (h1 : -9223372036854775808 ≤ z) (h2 : z ≤ 9223372036854775807) : Ev En 14 [.int .i64 z] [zb ((z : Rat)).num, wl ((z : Rat)).num, .bool false, wL ((z : Rat)).den] := by
  obtain ⟨n1, g1⟩ := wnof_ev h1 h2
  obtain ⟨n2, g2⟩ := wone_of
  refine Ev.of (n1 + n2) fun n hn => ?_
  rw [noonbellref03_Of_eq]
  try simp (disch := omega) only [g1, Option.bind_some, List.getElem?_cons_zero, List.getElem?_cons_succ, asLst_list, asInt_int, asBool_bool, asStr_str, cond_true, cond_false]
  try simp (disch := omega) only [g2, Option.bind_some, List.getElem?_cons_zero, List.getElem?_cons_succ, asLst_list, asInt_int, asBool_bool, asStr_str, cond_true, cond_false]
  rfl

theorem wmake_ev {a b : Int} {k : Nat} (hk : k ≤ 100000000000) (h0 : b ≠ 0) (ha : a.natAbs < 2 ^ k) (hb : b.natAbs < 2 ^ k) :
    Ev En 89 [zb a, wl a, zb b, wl b] [zb (Rat.divInt a b).num, wl (Rat.divInt a b).num, .bool false, wL (Rat.divInt a b).den, .int .i64 0] := by
  have key : ∀ (a b : Int), 0 < b → a.natAbs < 2 ^ k → b.natAbs < 2 ^ k → ∃ n0, ∀ n, n0 ≤ n →
      ((evF En n 130 [wl a, wl b]).bind fun r10 => (asLst 1 (r10[0]?)).bind fun v11 => (evF En n 64 [.bool false, .list 1 v11]).bind fun r12 => (asBool (r12[0]?)).bind fun c13 => (asLst 1 (r12[1]?)).bind fun v14 => (evF En n 131 [zb a, wl a, .bool c13, .list 1 v14]).bind fun r15 => (asBool (r15[0]?)).bind fun c16 => (asLst 1 (r15[1]?)).bind fun v17 => (asBool (r15[2]?)).bind fun c18 => (asLst 1 (r15[3]?)).bind fun v19 => (asInt .i64 (r15[4]?)).bind fun n20 => (evF En n 131 [zb b, wl b, .bool c13, .list 1 v14]).bind fun r21 => (asBool (r21[0]?)).bind fun c22 => (asLst 1 (r21[1]?)).bind fun v23 => (asBool (r21[2]?)).bind fun c24 => (asLst 1 (r21[3]?)).bind fun v25 => (asInt .i64 (r21[4]?)).bind fun n26 => some [.bool c16, .list 1 v17, .bool c22, .list 1 v23, .int .i64 0]) = some [zb (Rat.divInt a b).num, wl (Rat.divInt a b).num, .bool false, wL (Rat.divInt a b).den, .int .i64 0] := by
    intro a b hb0 ha hb
    obtain ⟨e1, e2⟩ := make_pos (a := a) hb0
    have hg0 : 0 < Nat.gcd a.natAbs b.natAbs := Nat.gcd_pos_of_pos_right _ (by omega)
    have hgb : Nat.gcd a.natAbs b.natAbs < 2 ^ k := Nat.lt_of_le_of_lt (Nat.le_of_dvd (by omega) (Nat.gcd_dvd_right _ _)) hb
    have la := wlen_of ha hk
    have lb := wlen_of hb hk
    obtain ⟨n4, h4⟩ := wgcd_ev (x := a.natAbs) (y := b.natAbs) (by omega) (by omega)
    obtain ⟨n5, h5⟩ := wmk_ev (s := false) (x := Nat.gcd a.natAbs b.natAbs)
    have hs : sg false (Nat.gcd a.natAbs b.natAbs) = ((Nat.gcd a.natAbs b.natAbs : Nat) : Int) := by simp [sg]
    rw [hs] at h5
    generalize Nat.gcd a.natAbs b.natAbs = g at *
    obtain ⟨n8, h8⟩ := wqr_ev (z := a) (w := (g : Int)) hk (by omega) ha hgb
    obtain ⟨n9, h9⟩ := wqr_ev (z := b) (w := (g : Int)) hk (by omega) hb hgb
    rw [← e1] at h8
    rw [← e2] at h9
    have f2 : FV.bool (decide (((Rat.divInt a b).den : Int) < 0)) = .bool false := zb_nat _
    refine ⟨n4 + n5 + n8 + n9, fun n hn => ?_⟩
    try simp (disch := omega) only [h4, Option.bind_some, List.getElem?_cons_zero, List.getElem?_cons_succ, asLst_list, asInt_int, asBool_bool, asStr_str, cond_true, cond_false]
    try simp (disch := omega) only [h5, Option.bind_some, List.getElem?_cons_zero, List.getElem?_cons_succ, asLst_list, asInt_int, asBool_bool, asStr_str, cond_true, cond_false]
    try simp (disch := omega) only [h8, Option.bind_some, List.getElem?_cons_zero, List.getElem?_cons_succ, asLst_list, asInt_int, asBool_bool, asStr_str, cond_true, cond_false]
    try simp (disch := omega) only [h9, Option.bind_some, List.getElem?_cons_zero, List.getElem?_cons_succ, asLst_list, asInt_int, asBool_bool, asStr_str, cond_true, cond_false]
    rw [f2]; rfl
  rcases Int.lt_or_gt_of_ne h0 with h | h
  · obtain ⟨n2, h2⟩ := wneg_ev (z := a)
    obtain ⟨n3, h3⟩ := wneg_ev (z := b)
    obtain ⟨n4, h4⟩ := key (-a) (-b) (by omega) (by rw [Int.natAbs_neg]; exact ha) (by rw [Int.natAbs_neg]; exact hb)
    rw [Rat.neg_divInt_neg] at h4
    refine Ev.of (n2 + n3 + n4 + 1) fun n hn => ?_
    obtain ⟨n, rfl⟩ : ∃ m, n = m + 1 := ⟨n - 1, by omega⟩
    rw [noonbellref03_Make_eq, wsign_run, Int.sign_eq_neg_one_of_neg h]
    try simp (disch := omega) only [show ((-1 : Int) == 0) = false from rfl, show decide ((-1 : Int) < 0) = true from rfl, Option.bind_some, List.getElem?_cons_zero, List.getElem?_cons_succ, asLst_list, asInt_int, asBool_bool, asStr_str, cond_true, cond_false]
    try simp (disch := omega) only [h2, Option.bind_some, List.getElem?_cons_zero, List.getElem?_cons_succ, asLst_list, asInt_int, asBool_bool, asStr_str, cond_true, cond_false]
    try simp (disch := omega) only [h3, Option.bind_some, List.getElem?_cons_zero, List.getElem?_cons_succ, asLst_list, asInt_int, asBool_bool, asStr_str, cond_true, cond_false]
    exact h4 (n + 1) (by omega)
  · obtain ⟨n4, h4⟩ := key a b h ha hb
    refine Ev.of (n4 + 1) fun n hn => ?_
    obtain ⟨n, rfl⟩ : ∃ m, n = m + 1 := ⟨n - 1, by omega⟩
    rw [noonbellref03_Make_eq, wsign_run, Int.sign_eq_one_of_pos h]
    try simp (disch := omega) only [show ((1 : Int) == 0) = false from rfl, show decide ((1 : Int) < 0) = false from rfl, Option.bind_some, List.getElem?_cons_zero, List.getElem?_cons_succ, asLst_list, asInt_int, asBool_bool, asStr_str, cond_true, cond_false]
    exact h4 (n + 1) (by omega)

theorem wmake_zero {l : List FV} {b : Bool} : Ev En 89 [.bool b, .list 1 l, .bool false, wL 0] [.bool false, .list 1 [], .bool false, .list 1 [], .int .i64 12] := by
  refine Ev.of 1 fun n hn => ?_
  obtain ⟨n, rfl⟩ : ∃ m, n = m + 1 := ⟨n - 1, by omega⟩
  rw [noonbellref03_Make_eq, wsign_nat]
  simp (disch := omega) only [if_true, beq_self_eq_true, Option.bind_some, List.getElem?_cons_zero, List.getElem?_cons_succ, asLst_list, asInt_int, asBool_bool, asStr_str, cond_true, cond_false]

theorem wmade_ev {a b : Int} {k : Nat} (hk : k ≤ 100000000000) (h0 : b ≠ 0) (ha : a.natAbs < 2 ^ k) (hb : b.natAbs < 2 ^ k) :
    Ev En 90 [zb a, wl a, zb b, wl b] [zb (Rat.divInt a b).num, wl (Rat.divInt a b).num, .bool false, wL (Rat.divInt a b).den] := by
  obtain ⟨n1, h1⟩ := wmake_ev hk h0 ha hb
  refine Ev.of n1 fun n hn => ?_
  rw [noonbellref03_made_eq]
  simp (disch := omega) only [h1, Option.bind_some, List.getElem?_cons_zero, List.getElem?_cons_succ, asLst_list, asInt_int, asBool_bool, asStr_str, cond_true, cond_false]

theorem wrsign_run {n : Nat} {q : Rat} {l : List FV} {b : Bool} : evF En (n + 2) 62 [zb q.num, wl q.num, .bool b, .list 1 l] = some [.int .i64 q.num.sign] := by
  rw [noonbellref03_Rat_Sign_eq, wsign_run]
  simp (disch := omega) only [Option.bind_some, List.getElem?_cons_zero, List.getElem?_cons_succ, asLst_list, asInt_int, asBool_bool, asStr_str, cond_true, cond_false]

theorem wrneg_ev {q : Rat} {d : Nat} (hd : dn d = q.den) : Ev En 51 [zb (q).num, wl (q).num, .bool false, wL (d)] [zb (-q).num, wl (-q).num, .bool false, wL (-q).den] := by
  obtain ⟨n1, h1⟩ := wneg_ev (z := q.num)
  obtain ⟨n2, h2⟩ := wden_ev (l := (dg 1000000000 q.num.natAbs).map d64) (b := decide (q.num < 0)) (d := d)
  rw [hd] at h2
  refine Ev.of (n1 + n2) fun n hn => ?_
  rw [noonbellref03_Rat_Neg_eq]
  try simp (disch := omega) only [h1, Option.bind_some, List.getElem?_cons_zero, List.getElem?_cons_succ, asLst_list, asInt_int, asBool_bool, asStr_str, cond_true, cond_false]
  try simp (disch := omega) only [h2, Option.bind_some, List.getElem?_cons_zero, List.getElem?_cons_succ, asLst_list, asInt_int, asBool_bool, asStr_str, cond_true, cond_false]
  rfl

theorem wrmul_ev {q r : Rat} {k d e : Nat} (hk : k + k ≤ 100000000000) (h : Bd k q) (h' : Bd k r) (hd : dn d = q.den) (he : dn e = r.den) : Ev En 53 [zb (q).num, wl (q).num, .bool false, wL (d), zb (r).num, wl (r).num, .bool false, wL (e)] [zb (q * r).num, wl (q * r).num, .bool false, wL (q * r).den] := by
  obtain ⟨n1, h1⟩ := wmul_z hk h.1 h'.1
  obtain ⟨n2, h2⟩ := wden_ev (l := (dg 1000000000 q.num.natAbs).map d64) (b := decide (q.num < 0)) (d := d)
  obtain ⟨n3, h3⟩ := wden_ev (l := (dg 1000000000 r.num.natAbs).map d64) (b := decide (r.num < 0)) (d := e)
  rw [hd] at h2
  rw [he] at h3
  obtain ⟨n4, h4⟩ := wmul_z (z := (q.den : Int)) (w := (r.den : Int)) hk h.2 h'.2
  rw [wl_nat, zb_nat, wl_nat, zb_nat] at h4
  obtain ⟨n5, h5⟩ := wmade_ev (a := q.num * r.num) (b := (q.den : Int) * r.den) (k := k + k) hk (den_mul_ne q r) (by rw [Int.natAbs_mul]; exact lt_pow_mul h.1 h'.1) (by rw [Int.natAbs_mul]; exact lt_pow_mul h.2 h'.2)
  rw [← mul_divInt] at h5
  refine Ev.of (n1 + n2 + n3 + n4 + n5) fun n hn => ?_
  rw [noonbellref03_Rat_Mul_eq]
  try simp (disch := omega) only [h1, Option.bind_some, List.getElem?_cons_zero, List.getElem?_cons_succ, asLst_list, asInt_int, asBool_bool, asStr_str, cond_true, cond_false]
  try simp (disch := omega) only [h2, Option.bind_some, List.getElem?_cons_zero, List.getElem?_cons_succ, asLst_list, asInt_int, asBool_bool, asStr_str, cond_true, cond_false]
  try simp (disch := omega) only [h3, Option.bind_some, List.getElem?_cons_zero, List.getElem?_cons_succ, asLst_list, asInt_int, asBool_bool, asStr_str, cond_true, cond_false]
  try simp (disch := omega) only [h4, Option.bind_some, List.getElem?_cons_zero, List.getElem?_cons_succ, asLst_list, asInt_int, asBool_bool, asStr_str, cond_true, cond_false]
  try simp (disch := omega) only [h5, Option.bind_some, List.getElem?_cons_zero, List.getElem?_cons_succ, asLst_list, asInt_int, asBool_bool, asStr_str, cond_true, cond_false]

theorem wrcmp_ev {q r : Rat} {k d e : Nat} (hk : k + k ≤ 100000000000) (h : Bd k q) (h' : Bd k r) (hd : dn d = q.den) (he : dn e = r.den) : Ev En 63 [zb (q).num, wl (q).num, .bool false, wL (d), zb (r).num, wl (r).num, .bool false, wL (e)] [.int .i64 (cmpZi (q.num * r.den) (r.num * q.den))] := by
  obtain ⟨c1, c2⟩ := cross_bd h h'
  obtain ⟨n2, h2⟩ := wden_ev (l := (dg 1000000000 q.num.natAbs).map d64) (b := decide (q.num < 0)) (d := d)
  obtain ⟨n3, h3⟩ := wden_ev (l := (dg 1000000000 r.num.natAbs).map d64) (b := decide (r.num < 0)) (d := e)
  rw [hd] at h2
  rw [he] at h3
  obtain ⟨n1, h1⟩ := wmul_z (z := q.num) (w := (r.den : Int)) hk h.1 h'.2
  rw [wl_nat, zb_nat] at h1
  obtain ⟨n4, h4⟩ := wmul_z (z := r.num) (w := (q.den : Int)) hk h'.1 h.2
  rw [wl_nat, zb_nat] at h4
  obtain ⟨n5, h5⟩ := wcmp_z hk c1 c2
  refine Ev.of (n1 + n2 + n3 + n4 + n5) fun n hn => ?_
  rw [noonbellref03_Rat_Cmp_eq]
  try simp (disch := omega) only [h3, Option.bind_some, List.getElem?_cons_zero, List.getElem?_cons_succ, asLst_list, asInt_int, asBool_bool, asStr_str, cond_true, cond_false]
  try simp (disch := omega) only [h1, Option.bind_some, List.getElem?_cons_zero, List.getElem?_cons_succ, asLst_list, asInt_int, asBool_bool, asStr_str, cond_true, cond_false]
  try simp (disch := omega) only [h2, Option.bind_some, List.getElem?_cons_zero, List.getElem?_cons_succ, asLst_list, asInt_int, asBool_bool, asStr_str, cond_true, cond_false]
  try simp (disch := omega) only [h4, Option.bind_some, List.getElem?_cons_zero, List.getElem?_cons_succ, asLst_list, asInt_int, asBool_bool, asStr_str, cond_true, cond_false]
  try simp (disch := omega) only [h5, Option.bind_some, List.getElem?_cons_zero, List.getElem?_cons_succ, asLst_list, asInt_int, asBool_bool, asStr_str, cond_true, cond_false]

theorem wradd_ev {q r : Rat} {k d e : Nat} (hk : k + k + 1 ≤ 100000000000) (h : Bd k q) (h' : Bd k r) (hd : dn d = q.den) (he : dn e = r.den) : Ev En 52 [zb (q).num, wl (q).num, .bool false, wL (d), zb (r).num, wl (r).num, .bool false, wL (e)] [zb (q + r).num, wl (q + r).num, .bool false, wL (q + r).den] := by
  obtain ⟨c1, c2⟩ := cross_bd h h'
  obtain ⟨n2, h2⟩ := wden_ev (l := (dg 1000000000 q.num.natAbs).map d64) (b := decide (q.num < 0)) (d := d)
  obtain ⟨n3, h3⟩ := wden_ev (l := (dg 1000000000 r.num.natAbs).map d64) (b := decide (r.num < 0)) (d := e)
  rw [hd] at h2
  rw [he] at h3
  obtain ⟨n6, h6⟩ := wmul_z (z := q.num) (w := (r.den : Int)) (by omega) h.1 h'.2
  obtain ⟨n7, h7⟩ := wmul_z (z := r.num) (w := (q.den : Int)) (by omega) h'.1 h.2
  obtain ⟨n8, h8⟩ := wmul_z (z := (q.den : Int)) (w := (r.den : Int)) (by omega) h.2 h'.2
  rw [wl_nat, zb_nat] at h6 h7
  rw [wl_nat, zb_nat, wl_nat, zb_nat] at h8
  obtain ⟨n9, h9⟩ := wadd_z (k := k + k) (by omega) c1 c2
  have cs : (q.num * r.den + r.num * q.den).natAbs < 2 ^ (k + k + 1) := by rw [Nat.pow_succ]; omega
  have cd : ((q.den : Int) * r.den).natAbs < 2 ^ (k + k + 1) := by rw [Int.natAbs_mul, Nat.pow_succ]; have := lt_pow_mul h.2 h'.2; simp only [Int.natAbs_natCast]; omega
  obtain ⟨n10, h10⟩ := wmade_ev hk (den_mul_ne q r) cs cd
  rw [← add_divInt] at h10
  refine Ev.of (n2 + n3 + n6 + n7 + n8 + n9 + n10) fun n hn => ?_
  rw [noonbellref03_Rat_Add_eq]
  try simp (disch := omega) only [h3, Option.bind_some, List.getElem?_cons_zero, List.getElem?_cons_succ, asLst_list, asInt_int, asBool_bool, asStr_str, cond_true, cond_false]
  try simp (disch := omega) only [h6, Option.bind_some, List.getElem?_cons_zero, List.getElem?_cons_succ, asLst_list, asInt_int, asBool_bool, asStr_str, cond_true, cond_false]
  try simp (disch := omega) only [h2, Option.bind_some, List.getElem?_cons_zero, List.getElem?_cons_succ, asLst_list, asInt_int, asBool_bool, asStr_str, cond_true, cond_false]
  try simp (disch := omega) only [h7, Option.bind_some, List.getElem?_cons_zero, List.getElem?_cons_succ, asLst_list, asInt_int, asBool_bool, asStr_str, cond_true, cond_false]
  try simp (disch := omega) only [h9, Option.bind_some, List.getElem?_cons_zero, List.getElem?_cons_succ, asLst_list, asInt_int, asBool_bool, asStr_str, cond_true, cond_false]
  try simp (disch := omega) only [h2, Option.bind_some, List.getElem?_cons_zero, List.getElem?_cons_succ, asLst_list, asInt_int, asBool_bool, asStr_str, cond_true, cond_false]
  try simp (disch := omega) only [h3, Option.bind_some, List.getElem?_cons_zero, List.getElem?_cons_succ, asLst_list, asInt_int, asBool_bool, asStr_str, cond_true, cond_false]
  try simp (disch := omega) only [h8, Option.bind_some, List.getElem?_cons_zero, List.getElem?_cons_succ, asLst_list, asInt_int, asBool_bool, asStr_str, cond_true, cond_false]
  try simp (disch := omega) only [h10, Option.bind_some, List.getElem?_cons_zero, List.getElem?_cons_succ, asLst_list, asInt_int, asBool_bool, asStr_str, cond_true, cond_false]

theorem wrsub_ev {q r : Rat} {k d e : Nat} (hk : k + k + 1 ≤ 100000000000) (h : Bd k q) (h' : Bd k r) (hd : dn d = q.den) (he : dn e = r.den) : Ev En 50 [zb (q).num, wl (q).num, .bool false, wL (d), zb (r).num, wl (r).num, .bool false, wL (e)] [zb (q - r).num, wl (q - r).num, .bool false, wL (q - r).den] := by
  obtain ⟨n1, h1⟩ := wrneg_ev he
  obtain ⟨n2, h2⟩ := wradd_ev (r := -r) hk h h'.neg hd (dn_den _)
  rw [← Rat.sub_eq_add_neg] at h2
  refine Ev.of (n1 + n2) fun n hn => ?_
  rw [noonbellref03_Rat_Sub_eq]
  try simp (disch := omega) only [h1, Option.bind_some, List.getElem?_cons_zero, List.getElem?_cons_succ, asLst_list, asInt_int, asBool_bool, asStr_str, cond_true, cond_false]
  try simp (disch := omega) only [h2, Option.bind_some, List.getElem?_cons_zero, List.getElem?_cons_succ, asLst_list, asInt_int, asBool_bool, asStr_str, cond_true, cond_false]

theorem ztext_one {d : Nat} : (ztext (d : Int) = [49]) ↔ d = 1 := by
  have e1 : ([49] : List UInt8) = ztext ((1 : Nat) : Int) := by
    unfold ztext
    rw [if_neg (by omega)]
    show _ = dtext 1
    unfold dtext
    rw [if_neg (by omega), dg_pos (by omega) (by omega), dg_zero]; rfl
  rw [e1]
  constructor
  · intro h; have := ztext_inj h; omega
  · intro h; rw [h]

theorem wrtext_ev {q : Rat} {k d : Nat} (hk : k ≤ 1000000000) (h : Bd k q) (hd : dn d = q.den) : Ev En 15 [zb (q).num, wl (q).num, .bool false, wL (d)] [sF (rtext q)] := by
  obtain ⟨n2, h2⟩ := wden_ev (l := (dg 1000000000 q.num.natAbs).map d64) (b := decide (q.num < 0)) (d := d)
  rw [hd] at h2
  obtain ⟨n5, h5⟩ := wntext_ev (by omega) h.1
  obtain ⟨n6, h6⟩ := wntext_ev (z := (q.den : Int)) (by omega : k ≤ 100000000000) h.2
  rw [wl_nat, zb_nat] at h6
  have l1 := ztext_len h.1
  have l2 := dtext_len h.2
  refine Ev.of (n2 + n5 + n6) fun n hn => ?_
  rw [noonbellref03_Rat_Text_eq]
  try simp (disch := omega) only [h2, Option.bind_some, List.getElem?_cons_zero, List.getElem?_cons_succ, asLst_list, asInt_int, asBool_bool, asStr_str, cond_true, cond_false]
  try simp (disch := omega) only [h6, Option.bind_some, List.getElem?_cons_zero, List.getElem?_cons_succ, asLst_list, asInt_int, asBool_bool, asStr_str, cond_true, cond_false]
  rw [show ({ data := #[49] } : ByteArray) = txt [49] from rfl, txt_beq]
  unfold rtext
  by_cases h1 : q.den = 1
  · rw [decide_eq_true (ztext_one.2 h1), if_pos h1]
    try simp (disch := omega) only [h5, Option.bind_some, List.getElem?_cons_zero, List.getElem?_cons_succ, asLst_list, asInt_int, asBool_bool, asStr_str, cond_true, cond_false]
  · rw [decide_eq_false (fun e => h1 (ztext_one.1 e)), if_neg h1]
    try simp (disch := omega) only [h5, Option.bind_some, List.getElem?_cons_zero, List.getElem?_cons_succ, asLst_list, asInt_int, asBool_bool, asStr_str, cond_true, cond_false]
    have ez : ztext (q.den : Int) = dtext q.den := by unfold ztext; rw [if_neg (by omega)]; rfl
    rw [ez, txt_size, decide_eq_false (by omega), cond_false, show ({ data := #[47] } : ByteArray) = txt [47] from rfl, txt_app, txt_size, txt_size, decide_eq_false (by simp; omega), cond_false, txt_app]
    simp

theorem skip_run {n : Nat} {l : List UInt8} {b0 b2 : Bool} {l1 l3 : List FV} (hl : l.length ≤ 1000000000) : ∀ (d i m : Nat), i + d ≤ l.length → (∀ t, i ≤ t → t < i + d → l[t]? ≠ some 47) → d ≤ m →
    noonbellref03_Parse.l2 n [] m [.bool b0, .list 1 l1, .bool b2, .list 1 l3, sF l, .int .i64 (i : Int)] = noonbellref03_Parse.l2 n [] (m - d) [.bool b0, .list 1 l1, .bool b2, .list 1 l3, sF l, .int .i64 ((i + d : Nat) : Int)] := by
  intro d
  induction d with
  | zero => intro i m hi hn hm; rw [Nat.sub_zero, Nat.add_zero]
  | succ d ih =>
    intro i m hi hn hm
    obtain ⟨m, rfl⟩ : ∃ k, m = k + 1 := ⟨m - 1, by omega⟩
    have hil : i < l.length := by omega
    have h47 : ((((l[i]).toNat : Nat) : Int) != 47) = true := by
      rw [bne_iff_ne]
      intro q
      have : l[i] = 47 := UInt8.toNat_inj.1 (show l[i].toNat = 47 by omega)
      exact hn i (Nat.le_refl _) (by omega) (by rw [List.getElem?_eq_getElem hil, this])
    conv => lhs; rw [noonbellref03_Parse.l2_eq]
    rw [txt_size, decide_eq_true (by omega), cond_true, txt_at, List.getElem?_eq_getElem hil, Option.map_some, Option.bind_some, h47, cond_true, wrap_succ (by omega), ih (i + 1) m (by omega) (fun t h1 h2 => hn t (by omega) (by omega)) (by omega), show m + 1 - (d + 1) = m - d by omega, show i + 1 + d = i + (d + 1) by omega]

theorem no47_at {a : List UInt8} (h : 47 ∉ a) {r : List UInt8} {t : Nat} (ht : t < a.length) : (a ++ r)[t]? ≠ some 47 := by
  rw [List.getElem?_append_left ht, List.getElem?_eq_getElem ht]
  intro q
  exact h (Option.some.inj q ▸ List.getElem_mem ht)

/-- Parse of what has no slash -/
theorem wparse_plain {n : Nat} {l : List UInt8} (h : 47 ∉ l) (hl : l.length ≤ 1000000000) (hn : l.length < n) : evF En (n + 1) 49 [sF l] = (evF En n 31 [sF l]).bind fun r25 => (asBool (r25[0]?)).bind fun c26 => (asLst 1 (r25[1]?)).bind fun v27 => (asInt .i64 (r25[2]?)).bind fun n28 => 
    (bif (n28 != 0) then some [.bool false, .list 1 [], .bool false, .list 1 [], .int .i64 10]
     else (evF En n 21 [.int .i64 1]).bind fun r29 => (asBool (r29[0]?)).bind fun c30 => (asLst 1 (r29[1]?)).bind fun v31 => some [.bool c26, .list 1 v27, .bool c30, .list 1 v31, .int .i64 0]) := by
  have hs := skip_run (n := n) (l := l) (b0 := false) (b2 := false) (l1 := []) (l3 := []) hl l.length 0 n (by omega) (fun t _ ht => by have := no47_at h (r := []) (t := t) (by omega); simpa using this) (by omega)
  obtain ⟨m, hm⟩ : ∃ m, n - l.length = m + 1 := ⟨n - l.length - 1, by omega⟩
  rw [noonbellref03_Parse_eq]
  rw [show ((0 : Nat) : Int) = 0 from rfl, Nat.zero_add, hm] at hs
  rw [hs, noonbellref03_Parse.l2_eq, txt_size, decide_eq_false (by omega), cond_false, bd_nat (Nat.le_refl _), Option.bind_some, txt_extract, List.take_length, List.drop_zero, beq_self_eq_true]
  simp only [cond_true]

/-- Parse of what has one -/
theorem wparse_cut {n : Nat} {l : List UInt8} (h : 47 ∈ l) (hl : l.length ≤ 1000000000) (hn : l.length < n) : evF En (n + 1) 49 [sF l] = (evF En n 31 [sF (cutA l)]).bind fun r2 => (asBool (r2[0]?)).bind fun c3 => (asLst 1 (r2[1]?)).bind fun v4 => (asInt .i64 (r2[2]?)).bind fun n5 => 
    (bif (n5 != 0) then some [.bool false, .list 1 [], .bool false, .list 1 [], .int .i64 10]
     else (evF En n 72 [sF (cutB l)]).bind fun r10 => (asLst 1 (r10[0]?)).bind fun v11 => (asInt .i64 (r10[1]?)).bind fun n12 => (evF En n 64 [.bool false, .list 1 v11]).bind fun r13 => (asBool (r13[0]?)).bind fun c14 => (asLst 1 (r13[1]?)).bind fun v15 => (evF En n 89 [.bool c3, .list 1 v4, .bool c14, .list 1 v15]).bind fun r16 => (asBool (r16[0]?)).bind fun c17 => (asLst 1 (r16[1]?)).bind fun v18 => (asBool (r16[2]?)).bind fun c19 => (asLst 1 (r16[3]?)).bind fun v20 => (asInt .i64 (r16[4]?)).bind fun n21 => 
          (bif (n12 != 0) then some [.bool false, .list 1 [], .bool false, .list 1 [], .int .i64 10]
           else 
            (bif (n21 != 0) then some [.bool false, .list 1 [], .bool false, .list 1 [], .int .i64 10]
             else (evF En n 15 [.bool c17, .list 1 v18, .bool c19, .list 1 v20]).bind fun r22 => (asStr (r22[0]?)).bind fun u23 => 
              (bif (!(u23.toList == (txt l).toList)) then some [.bool false, .list 1 [], .bool false, .list 1 [], .int .i64 10]
               else some [.bool c17, .list 1 v18, .bool c19, .list 1 v20, .int .i64 0])))) := by
  have hj := cut_join h
  have hno := cutA_no l
  generalize cutA l = a at *
  generalize cutB l = b at *
  subst hj
  simp only [List.length_append, List.length_cons] at hl hn
  have hs := skip_run (n := n) (l := a ++ 47 :: b) (b0 := false) (b2 := false) (l1 := []) (l3 := []) (by simp; omega) a.length 0 n (by simp) (fun t _ ht => no47_at hno (by omega)) (by omega)
  obtain ⟨m, hm⟩ : ∃ m, n - a.length = m + 1 := ⟨n - a.length - 1, by omega⟩
  rw [noonbellref03_Parse_eq]
  rw [show ((0 : Nat) : Int) = 0 from rfl, Nat.zero_add, hm] at hs
  have ea : ((a ++ 47 :: b).take a.length).drop 0 = a := by rw [List.drop_zero, List.take_left]
  have eb : ((a ++ 47 :: b).take (a ++ 47 :: b).length).drop (a.length + 1) = b := by
    rw [List.take_length, show a ++ 47 :: b = (a ++ [47]) ++ b by simp, show a.length + 1 = (a ++ [47]).length by simp, List.drop_left]
  have e47 : (a ++ 47 :: b)[a.length]? = some 47 := by rw [List.getElem?_append_right (Nat.le_refl _), Nat.sub_self]; rfl
  rw [hs, noonbellref03_Parse.l2_eq, txt_size, decide_eq_true (by simp; omega), cond_true, txt_at, e47, Option.map_some, Option.bind_some, show ((((47 : UInt8).toNat : Nat) : Int) != 47) = false from rfl, cond_false, bd_nat (by simp), Option.bind_some, txt_extract, ea,
    show (((a.length : Nat) : Int) == ((a ++ 47 :: b).length : Int)) = false from beq_eq_false_iff_ne.2 (by simp; omega), wrap_succ (by omega), bd_nat (by simp)]
  simp only [cond_false, Option.bind_some, txt_extract, eb]

theorem wrparse_ev {l : List UInt8} {q : Rat} (h : pr l = some q) (hl : l.length ≤ 100000000) : Ev En 49 [sF l] [zb (q).num, wl (q).num, .bool false, wL (q).den, .int .i64 0] := by
  have e := pr_some.1 h
  have hb := pr_bd h
  obtain ⟨n3, h3⟩ := wone_of
  by_cases h1 : q.den = 1
  · have e1 : l = ztext q.num := by rw [e]; unfold rtext; rw [if_pos h1]
    have hno : 47 ∉ l := by rw [e1]; exact ztext_no47 _
    obtain ⟨n1, g1⟩ := wnparse_ev (pz_some.2 e1) (by omega)
    refine Ev.of (n1 + n3 + l.length + 1) fun n hn => ?_
    rw [wparse_plain hno (by omega) (by omega)]
    try simp (disch := omega) only [g1, Option.bind_some, List.getElem?_cons_zero, List.getElem?_cons_succ, asLst_list, asInt_int, asBool_bool, asStr_str, cond_true, cond_false]
    try simp (disch := omega) only [h3, show ((0 : Int) != 0) = false from rfl, Option.bind_some, List.getElem?_cons_zero, List.getElem?_cons_succ, asLst_list, asInt_int, asBool_bool, asStr_str, cond_true, cond_false]
    rw [h1]
  · have e1 : l = ztext q.num ++ 47 :: dtext q.den := by rw [e]; unfold rtext; rw [if_neg h1]
    have hin : 47 ∈ l := by rw [e1]; simp
    obtain ⟨c1, c2⟩ := cut_at (b := dtext q.den) (ztext_no47 q.num)
    rw [← e1] at c1 c2
    have ll : l.length = (ztext q.num).length + 1 + (dtext q.den).length := by rw [e1]; simp; omega
    obtain ⟨n1, g1⟩ := wnparse_ev (l := ztext q.num) (pz_some.2 rfl) (by omega)
    obtain ⟨n4, g4⟩ := wparse_ev (l := dtext q.den) (canon_dtext _) (by omega)
    rw [vD_dtext] at g4
    obtain ⟨n5, g5⟩ := wmk_ev (s := false) (x := q.den)
    have hs : sg false q.den = (q.den : Int) := by simp [sg]
    rw [hs, zb_nat, wl_nat] at g5
    obtain ⟨n2, g2⟩ := wmake_ev (a := q.num) (b := (q.den : Int)) (k := 4 * l.length) (by omega) (by have := q.den_nz; omega) hb.1 hb.2
    rw [Rat.num_divInt_den, zb_nat, wl_nat] at g2
    obtain ⟨n6, g6⟩ := wrtext_ev (by omega) hb (dn_den q)
    have hne : (!((txt (rtext q)).toList == (txt l).toList)) = false := by rw [txt_beq, e, decide_eq_true rfl]; rfl
    refine Ev.of (n1 + n2 + n4 + n5 + n6 + l.length + 1) fun n hn => ?_
    rw [wparse_cut hin (by omega) (by omega), c1, c2]
    try simp (disch := omega) only [g1, Option.bind_some, List.getElem?_cons_zero, List.getElem?_cons_succ, asLst_list, asInt_int, asBool_bool, asStr_str, cond_true, cond_false]
    try simp (disch := omega) only [show ((0 : Int) != 0) = false from rfl, Option.bind_some, List.getElem?_cons_zero, List.getElem?_cons_succ, asLst_list, asInt_int, asBool_bool, asStr_str, cond_true, cond_false]
    try simp (disch := omega) only [g4, Option.bind_some, List.getElem?_cons_zero, List.getElem?_cons_succ, asLst_list, asInt_int, asBool_bool, asStr_str, cond_true, cond_false]
    try simp (disch := omega) only [g5, Option.bind_some, List.getElem?_cons_zero, List.getElem?_cons_succ, asLst_list, asInt_int, asBool_bool, asStr_str, cond_true, cond_false]
    try simp (disch := omega) only [g2, Option.bind_some, List.getElem?_cons_zero, List.getElem?_cons_succ, asLst_list, asInt_int, asBool_bool, asStr_str, cond_true, cond_false]
    try simp (disch := omega) only [show ((0 : Int) != 0) = false from rfl, Option.bind_some, List.getElem?_cons_zero, List.getElem?_cons_succ, asLst_list, asInt_int, asBool_bool, asStr_str, cond_true, cond_false]
    try simp (disch := omega) only [g6, hne, Option.bind_some, List.getElem?_cons_zero, List.getElem?_cons_succ, asLst_list, asInt_int, asBool_bool, asStr_str, cond_true, cond_false]

theorem wrparse_bad {l : List UInt8} (h : pr l = none) (hl : l.length ≤ 100000000) : Ev En 49 [sF l] [.bool false, .list 1 [], .bool false, .list 1 [], .int .i64 10] := by
  have hno := pr_none.1 h
  obtain ⟨la, lb⟩ := cut_len l
  have hne : ∀ q : Rat, (!((txt (rtext q)).toList == (txt l).toList)) = true := fun q => by rw [txt_beq, decide_eq_false (fun e => hno q e.symm)]; rfl
  by_cases h47 : 47 ∈ l
  · cases ha : pz (cutA l) with
    | none =>
      obtain ⟨n1, g1⟩ := wnparse_bad ha (by omega)
      refine Ev.of (n1 + l.length + 1) fun n hn => ?_
      rw [wparse_cut h47 (by omega) (by omega)]
      try simp (disch := omega) only [g1, show ((10 : Int) != 0) = true from rfl, Option.bind_some, List.getElem?_cons_zero, List.getElem?_cons_succ, asLst_list, asInt_int, asBool_bool, asStr_str, cond_true, cond_false]
    | some a =>
      obtain ⟨n1, g1⟩ := wnparse_ev ha (by omega)
      have ba : a.natAbs < 2 ^ (4 * l.length + 1) := Nat.lt_of_lt_of_le (pz_lt ha) (Nat.pow_le_pow_right (by omega) (by omega))
      by_cases hc : canon (cutB l)
      · have bb : vD (cutB l) < 2 ^ (4 * l.length + 1) := Nat.lt_of_lt_of_le (vD_lt2 hc.2.1) (Nat.pow_le_pow_right (by omega) (by omega))
        obtain ⟨n4, g4⟩ := wparse_ev (l := cutB l) hc (by omega)
        generalize vD (cutB l) = v at *
        obtain ⟨n5, g5⟩ := wmk_ev (s := false) (x := v)
        have hs : sg false v = (v : Int) := by simp [sg]
        rw [hs, zb_nat, wl_nat] at g5
        by_cases h0 : v = 0
        · subst h0
          obtain ⟨n2, g2⟩ := wmake_zero (l := (dg 1000000000 a.natAbs).map d64) (b := decide (a < 0))
          refine Ev.of (n1 + n2 + n4 + n5 + l.length + 1) fun n hn => ?_
          rw [wparse_cut h47 (by omega) (by omega)]
          try simp (disch := omega) only [g1, Option.bind_some, List.getElem?_cons_zero, List.getElem?_cons_succ, asLst_list, asInt_int, asBool_bool, asStr_str, cond_true, cond_false]
          try simp (disch := omega) only [show ((0 : Int) != 0) = false from rfl, Option.bind_some, List.getElem?_cons_zero, List.getElem?_cons_succ, asLst_list, asInt_int, asBool_bool, asStr_str, cond_true, cond_false]
          try simp (disch := omega) only [g4, Option.bind_some, List.getElem?_cons_zero, List.getElem?_cons_succ, asLst_list, asInt_int, asBool_bool, asStr_str, cond_true, cond_false]
          try simp (disch := omega) only [g5, Option.bind_some, List.getElem?_cons_zero, List.getElem?_cons_succ, asLst_list, asInt_int, asBool_bool, asStr_str, cond_true, cond_false]
          try simp (disch := omega) only [g2, show ((0 : Int) != 0) = false from rfl, show ((12 : Int) != 0) = true from rfl, Option.bind_some, List.getElem?_cons_zero, List.getElem?_cons_succ, asLst_list, asInt_int, asBool_bool, asStr_str, cond_true, cond_false]
        · obtain ⟨n2, g2⟩ := wmake_ev (a := a) (b := (v : Int)) (by omega) (by omega) ba bb
          obtain ⟨m1, m2⟩ := divInt_le a (v : Int) (by omega)
          have hbd : Bd (4 * l.length + 1) (Rat.divInt a v) := ⟨by omega, by simp only [Int.natAbs_natCast] at m2; omega⟩
          rw [zb_nat, wl_nat] at g2
          obtain ⟨n6, g6⟩ := wrtext_ev (by omega) hbd (dn_den _)
          refine Ev.of (n1 + n2 + n4 + n5 + n6 + l.length + 1) fun n hn => ?_
          rw [wparse_cut h47 (by omega) (by omega)]
          try simp (disch := omega) only [g1, Option.bind_some, List.getElem?_cons_zero, List.getElem?_cons_succ, asLst_list, asInt_int, asBool_bool, asStr_str, cond_true, cond_false]
          try simp (disch := omega) only [show ((0 : Int) != 0) = false from rfl, Option.bind_some, List.getElem?_cons_zero, List.getElem?_cons_succ, asLst_list, asInt_int, asBool_bool, asStr_str, cond_true, cond_false]
          try simp (disch := omega) only [g4, Option.bind_some, List.getElem?_cons_zero, List.getElem?_cons_succ, asLst_list, asInt_int, asBool_bool, asStr_str, cond_true, cond_false]
          try simp (disch := omega) only [g5, Option.bind_some, List.getElem?_cons_zero, List.getElem?_cons_succ, asLst_list, asInt_int, asBool_bool, asStr_str, cond_true, cond_false]
          try simp (disch := omega) only [g2, Option.bind_some, List.getElem?_cons_zero, List.getElem?_cons_succ, asLst_list, asInt_int, asBool_bool, asStr_str, cond_true, cond_false]
          try simp (disch := omega) only [show ((0 : Int) != 0) = false from rfl, Option.bind_some, List.getElem?_cons_zero, List.getElem?_cons_succ, asLst_list, asInt_int, asBool_bool, asStr_str, cond_true, cond_false]
          try simp (disch := omega) only [g6, hne, Option.bind_some, List.getElem?_cons_zero, List.getElem?_cons_succ, asLst_list, asInt_int, asBool_bool, asStr_str, cond_true, cond_false]
      · obtain ⟨n4, g4⟩ := wparse_bad (l := cutB l) hc (by omega)
        obtain ⟨n5, g5⟩ := wmk_ev (s := false) (x := 0)
        have hs : sg false 0 = ((0 : Nat) : Int) := by simp [sg]
        rw [hs, zb_nat, wl_nat, wL_zero] at g5
        obtain ⟨n2, g2⟩ := wmake_zero (l := (dg 1000000000 a.natAbs).map d64) (b := decide (a < 0))
        rw [wL_zero] at g2
        refine Ev.of (n1 + n2 + n4 + n5 + l.length + 1) fun n hn => ?_
        rw [wparse_cut h47 (by omega) (by omega)]
        try simp (disch := omega) only [g1, Option.bind_some, List.getElem?_cons_zero, List.getElem?_cons_succ, asLst_list, asInt_int, asBool_bool, asStr_str, cond_true, cond_false]
        try simp (disch := omega) only [show ((0 : Int) != 0) = false from rfl, Option.bind_some, List.getElem?_cons_zero, List.getElem?_cons_succ, asLst_list, asInt_int, asBool_bool, asStr_str, cond_true, cond_false]
        try simp (disch := omega) only [g4, Option.bind_some, List.getElem?_cons_zero, List.getElem?_cons_succ, asLst_list, asInt_int, asBool_bool, asStr_str, cond_true, cond_false]
        try simp (disch := omega) only [g5, Option.bind_some, List.getElem?_cons_zero, List.getElem?_cons_succ, asLst_list, asInt_int, asBool_bool, asStr_str, cond_true, cond_false]
        try simp (disch := omega) only [g2, show ((10 : Int) != 0) = true from rfl, Option.bind_some, List.getElem?_cons_zero, List.getElem?_cons_succ, asLst_list, asInt_int, asBool_bool, asStr_str, cond_true, cond_false]
  · have hz : pz l = none := by
      rw [pz_none]
      intro a q
      refine hno (a : Rat) ?_
      unfold rtext
      rw [if_pos (show ((a : Rat)).den = 1 from rfl)]
      exact q
    obtain ⟨n1, g1⟩ := wnparse_bad hz (by omega)
    refine Ev.of (n1 + l.length + 1) fun n hn => ?_
    rw [wparse_plain h47 (by omega) (by omega)]
    try simp (disch := omega) only [g1, show ((10 : Int) != 0) = true from rfl, Option.bind_some, List.getElem?_cons_zero, List.getElem?_cons_succ, asLst_list, asInt_int, asBool_bool, asStr_str, cond_true, cond_false]

end Rf
