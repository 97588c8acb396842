/- Texts as lists of bytes: how they are joined, cut, looked at. -/
import Derived.Test.YtebaohjeodeaoaaGreatDoorWrd
import Derived.Test.YtebaohjeodeaoaaGreatDoorExt
set_option linter.unusedSimpArgs false
set_option linter.unusedVariables false
namespace Rf
open Go

theorem txt_data (l : List UInt8) : (txt l).data.toList = l := by simp [txt]
theorem txt_of (s : ByteArray) : txt s.data.toList = s := rfl
theorem txt_size (l : List UInt8) : (txt l).size = l.length := by simp [txt, ByteArray.size]
theorem txt_inj {a b : List UInt8} (h : txt a = txt b) : a = b := by rw [← txt_data a, h, txt_data]
theorem txt_eq {a b : List UInt8} : txt a = txt b ↔ a = b := ⟨txt_inj, fun h => by rw [h]⟩
theorem txt_app (a b : List UInt8) : txt a ++ txt b = txt (a ++ b) := by
  apply ByteArray.ext
  rw [ByteArray.data_append]
  simp [txt]
theorem txt_extract (l : List UInt8) (i j : Nat) : (txt l).extract i j = txt ((l.take j).drop i) := by
  apply ByteArray.ext
  rw [ByteArray.data_extract]
  apply Array.ext'
  rw [List.drop_take]
  simp [txt]
theorem txt_at (l : List UInt8) (i : Nat) : strAt (txt l) (i : Int) = (l[i]?).map fun b => (b.toNat : Int) := by
  unfold strAt
  rw [if_pos (by omega), Int.toNat_natCast]
  congr 1
  by_cases h : i < l.length
  · rw [List.getElem?_eq_getElem h, getElem?_pos _ _ (by rw [txt_size]; exact h)]
    rfl
  · rw [List.getElem?_eq_none (by omega), getElem?_neg _ _ (by rw [txt_size]; exact h)]

theorem txt_beq (a b : List UInt8) : ((txt a).toList == (txt b).toList) = decide (a = b) := by
  rw [toList_eq]
  simp [txt_eq]

/-- a text as a leaf -/
abbrev sF (l : List UInt8) : FV := .str (txt l)

theorem sF_at {P : List (List UInt8)} {i : Nat} (h : i < P.length) : at' (P.map sF) i 0 = some (.str (txt P[i])) := by rw [at_map, List.getElem?_eq_getElem h]; rfl

end Rf
