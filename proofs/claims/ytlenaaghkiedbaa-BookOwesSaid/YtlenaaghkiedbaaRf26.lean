/- Tables under numbers. -/
import Derived.Test.YtlenaaghkiedbaaRf25
import Derived.Eval
namespace Rf
open Go

theorem lookN_mem {α : Type} {t : Nat} {x : α} : ∀ {l : List (Nat × α)}, lookN t l = some x → (t, x) ∈ l
  | [], h => by simp [lookN] at h
  | (k, y) :: r, h => by
    unfold lookN at h
    cases hb : Nat.beq k t with
    | true =>
      rw [hb] at h
      cases h
      have := Nat.eq_of_beq_eq_true hb
      subst this
      exact List.mem_cons_self
    | false => rw [hb] at h; exact List.mem_cons_of_mem _ (lookN_mem h)

theorem tyOk_of {P : Program} {l : List (Nat × TyI)} (h : l.all (fun p => chkTy P p.1 p.2) = true) {t : Nat} {i : TyI} (ht : lookN t l = some i) : chkTy P t i = true :=
  List.all_eq_true.1 h _ (lookN_mem ht)

def FcOk (P : Program) : List (Nat × Func) → Prop
  | [] => True
  | (f, fn) :: r => (P.funcs[f]? = some fn ∧ (fn.name == "runtime.NumGoroutine") = false) ∧ FcOk P r

theorem fcOk_mem {P : Program} : ∀ {l : List (Nat × Func)}, FcOk P l → ∀ p, p ∈ l → P.funcs[p.1]? = some p.2 ∧ (p.2.name == "runtime.NumGoroutine") = false
  | [], _, p, hp => by simp at hp
  | (f, fn) :: r, h, p, hp => by
    rcases List.mem_cons.1 hp with rfl | hp
    · exact h.1
    · exact fcOk_mem h.2 p hp

theorem fcOk_of {P : Program} {l : List (Nat × Func)} (h : FcOk P l) {f : Nat} {fn : Func} (hf : lookN f l = some fn) : P.funcs[f]? = some fn ∧ (fn.name == "runtime.NumGoroutine") = false :=
  fcOk_mem h _ (lookN_mem hf)

end Rf
