/- How the abstract memory stands to the machine's: the relation, and how it lasts. -/
import Derived.Test.YtebaohjeodeaoaaGreatDoorRf1
import Derived.Test.YtebaohjeodeaoaaGreatDoorRfTab
import Derived.Below
import Derived.MapKept
namespace Rf
open Go

inductive All2 {α β : Type} (R : α → β → Prop) : List α → List β → Prop
  | nil : All2 R [] []
  | cons {x : α} {y : β} {xs : List α} {ys : List β} (h : R x y) (t : All2 R xs ys) : All2 R (x :: xs) (y :: ys)

theorem All2.mono {α β : Type} {R R' : α → β → Prop} (hR : ∀ x y, R x y → R' x y) {xs : List α} {ys : List β} (h : All2 R xs ys) : All2 R' xs ys := by
  induction h with
  | nil => exact .nil
  | cons h _ ih => exact .cons (hR _ _ h) ih

theorem All2.app {α β : Type} {R : α → β → Prop} {xs xs' : List α} {ys ys' : List β} (h : All2 R xs ys) (k : All2 R xs' ys') : All2 R (xs ++ xs') (ys ++ ys') := by
  induction h with
  | nil => exact k
  | cons h _ ih => exact .cons h ih

theorem All2.len {α β : Type} {R : α → β → Prop} {xs : List α} {ys : List β} (h : All2 R xs ys) : xs.length = ys.length := by
  induction h with
  | nil => rfl
  | cons _ _ ih => simp [ih]

theorem All2.get {α β : Type} {R : α → β → Prop} {xs : List α} {ys : List β} (h : All2 R xs ys) : ∀ (j : Nat) (x : α), xs[j]? = some x → ∃ y, ys[j]? = some y ∧ R x y := by
  induction h with
  | nil => intro j x hj; simp at hj
  | cons h _ ih =>
    intro j x hj
    cases j with
    | zero => simp at hj; subst hj; exact ⟨_, rfl, h⟩
    | succ j => simpa using ih j x (by simpa using hj)

theorem All2.of {α β : Type} {R : α → β → Prop} : ∀ {xs : List α} {ys : List β}, xs.length = ys.length → (∀ (j : Nat) (x : α) (y : β), xs[j]? = some x → ys[j]? = some y → R x y) → All2 R xs ys
  | [], [], _, _ => .nil
  | [], _ :: _, h, _ => by simp at h
  | _ :: _, [], h, _ => by simp at h
  | x :: xs, y :: ys, h, k => .cons (k 0 x y rfl rfl) (All2.of (by simpa using h) fun j x' y' h1 h2 => k (j + 1) x' y' (by simpa using h1) (by simpa using h2))

theorem All2.drop {α β : Type} {R : α → β → Prop} {xs : List α} {ys : List β} (h : All2 R xs ys) : ∀ n, All2 R (xs.drop n) (ys.drop n) := by
  induction h with
  | nil => intro n; simp; exact .nil
  | cons h t ih =>
    intro n
    cases n with
    | zero => exact .cons h t
    | succ n => simpa using ih n

theorem All2.take {α β : Type} {R : α → β → Prop} {xs : List α} {ys : List β} (h : All2 R xs ys) : ∀ n, All2 R (xs.take n) (ys.take n) := by
  induction h with
  | nil => intro n; simp; exact .nil
  | cons h t ih =>
    intro n
    cases n with
    | zero => exact .nil
    | succ n => simpa using .cons h (ih n)

/-- values of an array, one by one -/
theorem All2.ofArr {R : SV → Value → Prop} {cs : List SV} {vs : Array Value} (hl : vs.size = cs.length) (h : ∀ (j : Nat) (s : SV), cs[j]? = some s → R s (vs.getD j undef)) : All2 R cs vs.toList :=
  .of (by simpa using hl.symm) fun j s v hs hv => by
    have := h j s hs
    rwa [Array.getD_eq_getD_getElem?, ← Array.getElem?_toList, hv, Option.getD_some] at this

theorem All2.toArr {R : SV → Value → Prop} {cs : List SV} {vs : Array Value} (h : All2 R cs vs.toList) : vs.size = cs.length ∧ ∀ (j : Nat) (s : SV), cs[j]? = some s → R s (vs.getD j undef) :=
  ⟨by have := h.len; simp at this; omega, fun j s hs => by
    obtain ⟨y, h1, h2⟩ := h.get j s hs
    rw [Array.getD_eq_getD_getElem?, ← Array.getElem?_toList, h1, Option.getD_some]; exact h2⟩

def cellAt (w : World) (b i : Nat) : Option Value := w.cell? ⟨b, i, none⟩

theorem cellAt_eq {w : World} {b i : Nat} {c : Array Value} {e : TypeId} {f : Nat × Nat} (h : w.heap[b]? = some (.cells c e f)) : cellAt w b i = c[i]? := by
  simp [cellAt, World.cell?, h]

theorem cellAt_congr {w w' : World} {b : Nat} (h : w'.heap[b]? = w.heap[b]?) (i : Nat) : cellAt w' b i = cellAt w b i := by
  simp [cellAt, World.cell?, h]

/-- An element of so many cells, each a single one. -/
def El (sz : Nat) (x : FV) : Prop := x.cells.length = sz ∧ ∀ c, c ∈ x.cells → c.flat = true

/-- A value reads as this frozen datum; all that it leads to lies in blocks of S. -/
inductive FRep (w : World) (S : Nat → Prop) : FV → Value → Prop
  | int (k : IntKind) (n : Int) : FRep w S (.int k n) (.int k n)
  | bool (b : Bool) : FRep w S (.bool b) (.bool b)
  | str (s : ByteArray) : FRep w S (.str s) (.string s)
  | raw (v : Value) : FRep w S (.raw v) v
  | agg (cs : List FV) (vs : Array Value) (hs : vs.size = cs.length) (h : ∀ j c, cs[j]? = some c → FRep w S c (vs.getD j undef)) : FRep w S (.agg cs) (.agg vs)
  | list (sz : Nat) (xs : List FV) (a : Option Addr) (cap b o : Nat) (hc : xs.length ≤ cap) (hsz : ∀ x, x ∈ xs → El sz x)
      (ha : xs ≠ [] → a = some ⟨b, o, none⟩ ∧ S b)
      (hv : ∀ i j x c, xs[i]? = some x → x.cells[j]? = some c → (cellAt w b (o + (i * sz + j))).isSome = true)
      (hr : ∀ i j x c, xs[i]? = some x → x.cells[j]? = some c → FRep w S c ((cellAt w b (o + (i * sz + j))).getD undef)) :
      FRep w S (.list sz xs) (.slice a xs.length cap)

/-- A row of elements from a place of a block on. -/
def Row (w : World) (S : Nat → Prop) (b o sz : Nat) (xs : List FV) : Prop :=
  (∀ x, x ∈ xs → El sz x) ∧ ∀ i j x c, xs[i]? = some x → x.cells[j]? = some c → ∃ v, cellAt w b (o + (i * sz + j)) = some v ∧ FRep w S c v

theorem FRep.list_iff {w : World} {S : Nat → Prop} {sz : Nat} {xs : List FV} {v : Value} :
    FRep w S (.list sz xs) v ↔ ∃ a cap b o, v = .slice a xs.length cap ∧ xs.length ≤ cap ∧ (xs ≠ [] → a = some ⟨b, o, none⟩ ∧ S b) ∧ Row w S b o sz xs := by
  constructor
  · intro h
    cases h with
    | list sz xs a cap b o hc hsz ha hv hr =>
      refine ⟨a, cap, b, o, rfl, hc, ha, hsz, fun i j x c h1 h2 => ?_⟩
      have h3 := hv i j x c h1 h2
      have h4 := hr i j x c h1 h2
      cases h5 : cellAt w b (o + (i * sz + j)) with
      | none => simp [h5] at h3
      | some v => exact ⟨v, rfl, by simpa [h5] using h4⟩
  · rintro ⟨a, cap, b, o, rfl, hc, ha, hsz, hr⟩
    refine .list sz xs a cap b o hc hsz ha (fun i j x c h1 h2 => ?_) (fun i j x c h1 h2 => ?_)
    · obtain ⟨v, h3, _⟩ := hr i j x c h1 h2; simp [h3]
    · obtain ⟨v, h3, h4⟩ := hr i j x c h1 h2; simpa [h3] using h4

theorem FRep.mono {w w' : World} {S S' : Nat → Prop} (hw : ∀ b, S b → w'.heap[b]? = w.heap[b]?) (hS : ∀ b, S b → S' b) {x : FV} {v : Value} (h : FRep w S x v) : FRep w' S' x v := by
  induction h with
  | int k n => exact .int k n
  | bool b => exact .bool b
  | str s => exact .str s
  | raw v => exact .raw v
  | agg cs vs hs _ ih => exact .agg cs vs hs ih
  | list sz xs a cap b o hc hsz ha hv _ ih =>
    have hb : ∀ (i : Nat) (x : FV), xs[i]? = some x → w'.heap[b]? = w.heap[b]? := fun i x hx => hw b (ha (by intro h0; simp [h0] at hx)).2
    refine .list sz xs a cap b o hc hsz (fun h => ⟨(ha h).1, hS _ (ha h).2⟩) (fun i j x c h1 h2 => ?_) (fun i j x c h1 h2 => ?_)
    · rw [cellAt_congr (hb i x h1)]; exact hv i j x c h1 h2
    · rw [cellAt_congr (hb i x h1)]; exact ih i j x c h1 h2

theorem Row.mono {w w' : World} {S S' : Nat → Prop} {b o sz : Nat} {xs : List FV} (hw : ∀ b, S b → w'.heap[b]? = w.heap[b]?) (hS : ∀ b, S b → S' b) (hb : w'.heap[b]? = w.heap[b]?) (h : Row w S b o sz xs) :
    Row w' S' b o sz xs :=
  ⟨h.1, fun i j x c h1 h2 => let ⟨v, h3, h4⟩ := h.2 i j x c h1 h2; ⟨v, by rw [cellAt_congr hb]; exact h3, h4.mono hw hS⟩⟩

/-- Where an owned thing lies. -/
structure Gh where
  blk : Nat
  off : Nat
  cap : Nat
  nil : Bool

def Gh.base (g : Gh) : Option Addr := if g.nil then none else some ⟨g.blk, g.off, none⟩

/-- what an address, or a map's name, leads to -/
inductive ObK where
  | n (k : Nat)
  | m (kag : Bool) (ks : List CK) (z : FV)

def Ent.ob : Ent → Option ObK
  | .obj n => some (.n n)
  | .mapH kag ks z => some (.m kag ks z)
  | _ => none

def SV.refId : SV → Option Nat
  | .ptr id _ | .ept id _ _ _ | .sl id _ | .mp id => some id
  | _ => none

/-- A slot's or a cell's value. -/
inductive SRep (w : World) (S : Nat → Prop) (γ : Nat → Gh) (hd : Nat → Option Ent) : SV → Value → Prop
  | fv {x : FV} {v : Value} (h : FRep w S x v) : SRep w S γ hd (.fv x) v
  | nilS : SRep w S γ hd .nilS (.slice none 0 0)
  | mp {id : Nat} {e : Ent} {kag : Bool} {ks : List CK} {z : FV} (h : hd id = some e) (he : e.ob = some (.m kag ks z)) : SRep w S γ hd (.mp id) (.map (some (γ id).blk))
  | ptr {id off : Nat} {e : Ent} {n : Nat} (h : hd id = some e) (he : e.ob = some (.n n)) : SRep w S γ hd (.ptr id off) (.pointer (some ⟨(γ id).blk, off, none⟩))
  | ept {id sz i c len : Nat} {e : Ent} (h : hd id = some e) (he : e.row = some (sz, len)) (hn : (γ id).nil = false) (hi : i < len) :
      SRep w S γ hd (.ept id sz i c) (.pointer (some ⟨(γ id).blk, (γ id).off + (i * sz + c), none⟩))
  | sl {id sz len : Nat} {e : Ent} (h : hd id = some e) (he : e.row = some (sz, len)) : SRep w S γ hd (.sl id none) (.slice (γ id).base len (γ id).cap)
  | view {id sz len o n c : Nat} {e : Ent} {a : Option Addr} (h : hd id = some e) (he : e.row = some (sz, len)) (hon : o + n ≤ len) (hc : n ≤ c)
      (ha : n ≠ 0 → (γ id).nil = false ∧ a = some ⟨(γ id).blk, (γ id).off + o * sz, none⟩) (h0 : o = 0 → a = (γ id).base ∧ c = (γ id).cap) :
      SRep w S γ hd (.sl id (some (o, n))) (.slice a n c)
  | fp {sz i c b o : Nat} {xs : List FV} (hS : S b) (hr : Row w S b o sz xs) (hi : i < xs.length) :
      SRep w S γ hd (.fp sz xs i c) (.pointer (some ⟨b, o + (i * sz + c), none⟩))
  | clo {fn : Fn} {fs cs : List SV} {f c : Array Value} (hf : f.size = fs.length) (hc : c.size = cs.length)
      (h1 : ∀ j s, fs[j]? = some s → SRep w S γ hd s (f.getD j undef)) (h2 : ∀ j s, cs[j]? = some s → SRep w S γ hd s (c.getD j undef)) :
      SRep w S γ hd (.clo fn fs cs) (.func fn f c)
  | agg {cs : List SV} {vs : Array Value} (hs : vs.size = cs.length) (h : ∀ j s, cs[j]? = some s → SRep w S γ hd s (vs.getD j undef)) : SRep w S γ hd (.agg cs) (.agg vs)
  | tup {cs : List SV} {vs : Array Value} (hs : vs.size = cs.length) (h : ∀ j s, cs[j]? = some s → SRep w S γ hd s (vs.getD j undef)) : SRep w S γ hd (.tup cs) (.tuple vs)
  | dead {v : Value} : SRep w S γ hd .dead v
  | gone : SRep w S γ hd .gone undef
  | tomb {s : SV} {id : Nat} {v : Value} (hs : s.refId = some id) (h : hd id = some .tomb) : SRep w S γ hd s v

/-- How heads may go on. -/
def HdLe (hd hd' : Nat → Option Ent) (γ γ' : Nat → Gh) : Prop :=
  ∀ id e, hd id = some e → ∃ e', hd' id = some e' ∧ (e' = .tomb ∨ (e'.row = e.row ∧ e'.ob = e.ob ∧ (e = .tomb → e' = .tomb) ∧ γ' id = γ id))

theorem HdLe.refl (hd : Nat → Option Ent) (γ : Nat → Gh) : HdLe hd hd γ γ := fun _ e h => ⟨e, h, .inr ⟨rfl, rfl, id, rfl⟩⟩

theorem SRep.mono {w w' : World} {S S' : Nat → Prop} {γ γ' : Nat → Gh} {hd hd' : Nat → Option Ent} (hw : ∀ b, S b → w'.heap[b]? = w.heap[b]?) (hS : ∀ b, S b → S' b) (hh : HdLe hd hd' γ γ')
    {s : SV} {v : Value} (h : SRep w S γ hd s v) : SRep w' S' γ' hd' s v := by
  induction h with
  | fv h => exact .fv (h.mono hw hS)
  | nilS => exact .nilS
  | @ptr id off e n h he =>
    obtain ⟨e', h', k⟩ := hh id e h
    rcases k with rfl | ⟨k1, k2, k3, k4⟩
    · exact .tomb rfl h'
    · rw [← k4]; exact .ptr h' (k2.trans he)
  | @mp id e kag ks z h he =>
    obtain ⟨e', h', k⟩ := hh id e h
    rcases k with rfl | ⟨k1, k2, k3, k4⟩
    · exact .tomb rfl h'
    · rw [← k4]; exact .mp h' (k2.trans he)
  | @ept id sz i c len e h he hn hi =>
    obtain ⟨e', h', k⟩ := hh id e h
    rcases k with rfl | ⟨k1, k2, k3, k4⟩
    · exact .tomb rfl h'
    · rw [← k4]; exact .ept h' (k1.trans he) (by rw [k4]; exact hn) hi
  | @sl id sz len e h he =>
    obtain ⟨e', h', k⟩ := hh id e h
    rcases k with rfl | ⟨k1, k2, k3, k4⟩
    · exact .tomb rfl h'
    · rw [← k4]; exact .sl h' (k1.trans he)
  | @view id sz len o n c e a h he hon hc ha h0 =>
    obtain ⟨e', h', k⟩ := hh id e h
    rcases k with rfl | ⟨k1, k2, k3, k4⟩
    · exact .tomb rfl h'
    · exact .view h' (k1.trans he) hon hc (by rw [k4]; exact ha) (by rw [k4]; exact h0)
  | @fp sz i c b o xs hb hr hi => exact .fp (hS _ hb) (hr.mono hw hS (hw b hb)) hi
  | clo hf hc _ _ ih1 ih2 => exact .clo hf hc ih1 ih2
  | agg hs _ ih => exact .agg hs ih
  | tup hs _ ih => exact .tup hs ih
  | dead => exact .dead
  | gone => exact .gone
  | @tomb s id v hs h =>
    obtain ⟨e', h', k⟩ := hh id _ h
    rcases k with rfl | ⟨k1, k2, k3, k4⟩
    · exact .tomb hs h'
    · exact .tomb hs (by rw [h', k3 rfl])

/-! ### the memory -/

def hdOf (M : Mem) (id : Nat) : Option Ent := Mem.get (.head id) M

theorem Key.beq_iff (a b : Key) : a.beq b = true ↔ a = b := by
  cases a <;> cases b <;> simp [Key.beq]

theorem Mem.get_cons (k k' : Key) (e : Ent) (M : Mem) : Mem.get k ((k', e) :: M) = if k = k' then some e else Mem.get k M := by
  simp only [Mem.get]
  by_cases h : k = k'
  · rw [if_pos h, (Key.beq_iff k k').2 h]; rfl
  · rw [if_neg h]
    have : k.beq k' = false := by
      cases hb : k.beq k' with
      | false => rfl
      | true => exact absurd ((Key.beq_iff k k').1 hb) h
    rw [this]; rfl

theorem Mem.get_append (k : Key) (us M : Mem) : Mem.get k (us ++ M) = (Mem.get k us).or (Mem.get k M) := by
  induction us with
  | nil => simp [Mem.get]
  | cons p us ih =>
    obtain ⟨k', e⟩ := p
    rw [List.cons_append, Mem.get_cons, Mem.get_cons, ih]
    split <;> simp

/-- an entry of a map -/
def ERep (w : World) (S : Nat → Prop) (kag : Bool) (ks : List CK) (z : FV) (x : FV) (e : MapEntry) : Prop :=
  ∃ k v, x = .agg [k, v, .int .i64 e.born] ∧ keyIs kag ks k = true ∧ valIs z v = true ∧ FRep w S k e.key ∧ FRep w S v e.val

theorem ERep.mono {w w' : World} {S S' : Nat → Prop} {kag : Bool} {ks : List CK} {z x : FV} {e : MapEntry} (hw : ∀ b, S b → w'.heap[b]? = w.heap[b]?) (hS : ∀ b, S b → S' b) (h : ERep w S kag ks z x e) : ERep w' S' kag ks z x e :=
  let ⟨k, v, a, b, c, d, f⟩ := h; ⟨k, v, a, b, c, d.mono hw hS, f.mono hw hS⟩

/-- a map's block -/
def MRep (w : World) (S : Nat → Prop) (g : Gh) (kag : Bool) (ks : List CK) (z : FV) (es : List FV) (clk : Int) : Prop :=
  ∃ (arr : Array MapEntry) (c : Nat), w.heap[g.blk]? = some (.map arr c) ∧ clk = c ∧ MapKept.Stamped arr c ∧ valIs z z = true ∧ All2 (ERep w S kag ks z) es arr.toList

theorem MRep.mono {w w' : World} {S S' : Nat → Prop} {g : Gh} {kag : Bool} {ks : List CK} {z : FV} {es : List FV} {clk : Int} (hw : ∀ b, S b → w'.heap[b]? = w.heap[b]?) (hS : ∀ b, S b → S' b) (hb : w'.heap[g.blk]? = w.heap[g.blk]?)
    (h : MRep w S g kag ks z es clk) : MRep w' S' g kag ks z es clk :=
  let ⟨arr, c, a, b, d, dz, e⟩ := h; ⟨arr, c, hb.trans a, b, d, dz, e.mono fun _ _ q => q.mono hw hS⟩

/-- What stands behind a head. -/
def ORep (w : World) (S : Nat → Prop) (γ : Nat → Gh) (M : Mem) (id : Nat) : Ent → Prop
  | .obj n => (γ id).nil = false ∧ ∃ vals e, w.heap[(γ id).blk]? = some (.cells vals e (0, 0)) ∧ vals.size = n ∧
      ∀ j, j < n → ∃ s, Mem.get (.cell id j) M = some (.sv s) ∧ s.flat = true ∧ SRep w S γ (hdOf M) s (vals.getD j undef)
  | .vec sz xs => xs.length ≤ (γ id).cap ∧ (if (γ id).nil = true then xs = [] ∧ (γ id).cap = 0 else
      ∃ vals e, w.heap[(γ id).blk]? = some (.cells vals e (0, 0)) ∧ (γ id).off + (γ id).cap * sz ≤ vals.size ∧ Row w S (γ id).blk (γ id).off sz xs)
  | .frz sz xs => xs.length ≤ (γ id).cap ∧ (if (γ id).nil = true then xs = [] ∧ (γ id).cap = 0 else (S (γ id).blk ∧ Row w S (γ id).blk (γ id).off sz xs))
  | .mapH kag ks z => (γ id).nil = false ∧ ∃ es clk es' clk', Mem.get (.cell id 0) M = some (.map es clk) ∧ Mem.get (.cell id 1) M = some (.map es' clk') ∧ (∀ k, mgetD es' k z = mgetD es k z) ∧ MRep w S (γ id) kag ks z es clk
  | .tomb => True
  | _ => False

/-- Is it owned, with a block of its own? -/
def Owned (γ : Nat → Gh) (id : Nat) : Ent → Prop
  | .obj _ => True
  | .mapH _ _ _ => True
  | .vec _ _ => (γ id).nil = false
  | _ => False

/-- What a call began with. -/
structure Cx where
  w0 : World
  S0 : Nat → Prop
  W0 : Nat → Prop
  nt : Nat
  pin : Nat → Option Value

/-- a slot that may be written -/
def Cx.Dst (X : Cx) (d : Nat) : Prop := d < X.nt ∧ X.pin d = none

/-- the tables stand, and may not be written -/
def Tabs (w : World) (S : Nat → Prop) : Prop := ∀ g cs, (g, cs) ∈ tabs → S g ∧ ∃ e t, w.heap[g]? = some (.cells cs e t)
def TabOk (X : Cx) : Prop := Tabs X.w0 X.S0 ∧ ∀ b, X.W0 b → ¬ X.S0 b

/-- The world goes on as it should. -/
structure Keep (X : Cx) (w : World) (S : Nat → Prop) : Prop where
  size : X.w0.heap.size ≤ w.heap.size
  block : ∀ b, b < X.w0.heap.size → ¬ X.W0 b → w.heap[b]? = X.w0.heap[b]?
  os : w.os = X.w0.os
  tape : w.tape = X.w0.tape
  output : w.output = X.w0.output
  bound : ∀ b, S b → b < w.heap.size
  smon : ∀ b, X.S0 b → S b
  sfrom : ∀ b, S b → X.S0 b ∨ X.W0 b ∨ X.w0.heap.size ≤ b
  tab : TabOk X

theorem Keep.tabs {X : Cx} {w : World} {S : Nat → Prop} (h : Keep X w S) : Tabs w S := fun g cs hg => by
  obtain ⟨h1, e, t, h2⟩ := h.tab.1 g cs hg
  have hlt : g < X.w0.heap.size := by
    rcases Nat.lt_or_ge g X.w0.heap.size with q | q
    · exact q
    · rw [Array.getElem?_eq_none q] at h2; cases h2
  exact ⟨h.smon g h1, e, t, (h.block g hlt fun q => h.tab.2 g q h1).trans h2⟩

/-- Heads and cells. -/
structure HRel (X : Cx) (M : Mem) (w : World) (γ : Nat → Gh) (S : Nat → Prop) : Prop where
  keep : Keep X w S
  head : ∀ id e, hdOf M id = some e → ORep w S γ M id e
  own : ∀ id e, hdOf M id = some e → Owned γ id e → (γ id).blk < w.heap.size ∧ ¬ S (γ id).blk ∧ (X.W0 (γ id).blk ∨ X.w0.heap.size ≤ (γ id).blk)
  inj : ∀ id e id' e', hdOf M id = some e → hdOf M id' = some e' → Owned γ id e → Owned γ id' e' → (γ id).blk = (γ id').blk → id = id'

structure Rel (X : Cx) (M : Mem) (a : Act) (w : World) (γ : Nat → Gh) (S : Nat → Prop) : Prop extends HRel X M w γ S where
  nt : a.tmps.size = X.nt
  nodef : a.defers = []
  pin : ∀ t v, X.pin t = some v → a.tmps.getD t undef = v
  slot : ∀ t s, Mem.get (.slot t) M = some (.sv s) → SRep w S γ (hdOf M) s (a.tmps.getD t undef)

/-- Only what is looked up counts. -/
theorem ORep.congr {w : World} {S : Nat → Prop} {γ : Nat → Gh} {M M' : Mem} (h : ∀ k, Mem.get k M' = Mem.get k M) {id : Nat} {e : Ent} (ho : ORep w S γ M id e) : ORep w S γ M' id e := by
  have hh : hdOf M' = hdOf M := funext fun id => h _
  cases e with
  | obj n =>
    obtain ⟨h0, vals, e, h1, h2, h3⟩ := ho
    exact ⟨h0, vals, e, h1, h2, fun j hj => let ⟨s, a, b, c⟩ := h3 j hj; ⟨s, (h _).trans a, b, by rw [hh]; exact c⟩⟩
  | mapH kag ks z =>
    obtain ⟨h0, es, clk, es', clk', h1, h2, h3⟩ := ho
    exact ⟨h0, es, clk, es', clk', (h _).trans h1, (h _).trans h2, h3⟩
  | _ => exact ho

theorem Rel.congr {X : Cx} {M M' : Mem} {a : Act} {w : World} {γ : Nat → Gh} {S : Nat → Prop} (h : ∀ k, Mem.get k M' = Mem.get k M) (hR : Rel X M a w γ S) : Rel X M' a w γ S := by
  have hh : hdOf M' = hdOf M := funext fun id => h _
  exact { keep := hR.keep, head := fun id e he => (hR.head id e (by rw [← hh]; exact he)).congr h, own := fun id e he => hR.own id e (by rw [← hh]; exact he),
          inj := fun id e id' e' h1 h2 => hR.inj id e id' e' (by rw [← hh]; exact h1) (by rw [← hh]; exact h2), nt := hR.nt, nodef := hR.nodef, pin := hR.pin,
          slot := fun t s hs => by rw [hh]; exact hR.slot t s (by rw [← h]; exact hs) }

/-- A draw changes nothing. -/
theorem FRep.drawn {w : World} {S : Nat → Prop} {n : Nat} {x : FV} {v : Value} (h : FRep w S x v) : FRep { w with drawn := n } S x v := h.mono (w := w) (w' := { w with drawn := n }) (fun _ _ => rfl) (fun _ h => h)

theorem ORep.mono {w w' : World} {S S' : Nat → Prop} {γ : Nat → Gh} {M : Mem} (hw : ∀ b, S b → w'.heap[b]? = w.heap[b]?) (hS : ∀ b, S b → S' b) {id : Nat} {e : Ent}
    (hb : Owned γ id e → w'.heap[(γ id).blk]? = w.heap[(γ id).blk]?) (ho : ORep w S γ M id e) : ORep w' S' γ M id e := by
  cases e with
  | obj n =>
    obtain ⟨h0, vals, e, h1, h2, h3⟩ := ho
    exact ⟨h0, vals, e, (hb trivial).trans h1, h2, fun j hj => let ⟨s, a, b, c⟩ := h3 j hj; ⟨s, a, b, c.mono hw hS (HdLe.refl _ _)⟩⟩
  | vec sz xs =>
    refine ⟨ho.1, ?_⟩
    have h2 := ho.2
    split
    · rename_i hn; rw [if_pos hn] at h2; exact h2
    · rename_i hn
      rw [if_neg hn] at h2
      have hn' : (γ id).nil = false := by simpa using hn
      obtain ⟨vals, e, h1, h3, h4⟩ := h2
      exact ⟨vals, e, (hb hn').trans h1, h3, h4.mono hw hS (hb hn')⟩
  | frz sz xs =>
    refine ⟨ho.1, ?_⟩
    have h2 := ho.2
    split
    · rename_i hn; rw [if_pos hn] at h2; exact h2
    · rename_i hn
      rw [if_neg hn] at h2
      exact ⟨hS _ h2.1, h2.2.mono hw hS (hw _ h2.1)⟩
  | mapH kag ks z =>
    obtain ⟨h0, es, clk, es', clk', h1, h2, h3, h4⟩ := ho
    exact ⟨h0, es, clk, es', clk', h1, h2, h3, h4.mono hw hS (hb trivial)⟩
  | tomb => trivial
  | sv _ => exact ho
  | map _ _ => exact ho

theorem Rel.drew {X : Cx} {M : Mem} {a : Act} {w : World} {γ : Nat → Gh} {S : Nat → Prop} (h : Rel X M a w γ S) (n : Nat) : Rel X M a { w with drawn := n } γ S :=
  { keep := ⟨h.keep.size, h.keep.block, h.keep.os, h.keep.tape, h.keep.output, h.keep.bound, h.keep.smon, h.keep.sfrom, h.keep.tab⟩
    head := fun id e he => (h.head id e he).mono (w := w) (w' := { w with drawn := n }) (fun _ _ => rfl) (fun _ h => h) (fun _ => rfl)
    own := h.own, inj := h.inj, nt := h.nt, nodef := h.nodef, pin := h.pin
    slot := fun t s hs => (h.slot t s hs).mono (w := w) (w' := { w with drawn := n }) (fun _ _ => rfl) (fun _ h => h) (HdLe.refl _ _) }

theorem getD_put {a : Act} {d t : Nat} {v : Value} (hd : d < a.tmps.size) : (a.put (some d) v).tmps.getD t undef = if t = d then v else a.tmps.getD t undef := by
  simp only [Act.put, Array.getD_eq_getD_getElem?]
  by_cases h : t = d
  · subst h; simp [hd]
  · rw [if_neg h, Array.getElem?_setIfInBounds_ne (Ne.symm h)]

/-- A slot is written, nothing else. -/
theorem Rel.put {X : Cx} {M : Mem} {a : Act} {w : World} {γ : Nat → Gh} {S : Nat → Prop} (h : Rel X M a w γ S) {d : Nat} (hd : X.Dst d) {s : SV} {v : Value} (hs : SRep w S γ (hdOf M) s v) :
    Rel X ((.slot d, .sv s) :: M) (a.put (some d) v) w γ S := by
  have hk : ∀ k, (∀ t, k ≠ .slot t) → Mem.get k ((.slot d, .sv s) :: M) = Mem.get k M := fun k hk => by rw [Mem.get_cons, if_neg (hk d)]
  have hh : hdOf ((.slot d, .sv s) :: M) = hdOf M := funext fun id => hk _ (by intro t; simp)
  refine { keep := h.keep, head := fun id e he => ?_, own := fun id e he => h.own id e (by rw [← hh]; exact he), inj := fun id e id' e' h1 h2 => h.inj id e id' e' (by rw [← hh]; exact h1) (by rw [← hh]; exact h2),
           nt := by simp [Act.put, h.nt], nodef := h.nodef, pin := fun t v' hp => by
             rw [getD_put (by rw [h.nt]; exact hd.1), if_neg (fun q => by subst q; rw [hd.2] at hp; cases hp)]; exact h.pin t v' hp
           slot := fun t s' hs' => ?_ }
  · have ho := h.head id e (by rw [← hh]; exact he)
    cases e with
    | obj n =>
      obtain ⟨h0, vals, e, h1, h2, h3⟩ := ho
      exact ⟨h0, vals, e, h1, h2, fun j hj => let ⟨s', x, y, z⟩ := h3 j hj; ⟨s', by rw [hk _ (by intro t; simp)]; exact x, y, by rw [hh]; exact z⟩⟩
    | mapH kag ks z =>
      obtain ⟨h0, es, clk, es', clk', h1, h2, h3⟩ := ho
      exact ⟨h0, es, clk, es', clk', by rw [hk _ (by intro t; simp)]; exact h1, by rw [hk _ (by intro t; simp)]; exact h2, h3⟩
    | _ => exact ho
  · rw [getD_put (by rw [h.nt]; exact hd.1), hh]
    rw [Mem.get_cons] at hs'
    by_cases ht : t = d
    · subst ht; rw [if_pos rfl] at hs'; rw [if_pos rfl]; cases hs'; exact hs
    · rw [if_neg (by simpa using ht)] at hs'; rw [if_neg ht]; exact h.slot t s' hs'

end Rf
