/- Bytes of texts that are put together: plain. -/
import Derived.Test.YtkhpdiilghncgaaGreatDoorPs
namespace Go.Proofs.YtkhpdiilghncgaaGreatDoor
set_option linter.unusedVariables false
theorem nx_list (s : ByteArray) (i : Nat) : nx s i = (s.data.toList[i]?.map UInt8.toNat).getD 0 := by
  by_cases h : i < s.size
  · rw [nx_lt h, List.getElem?_eq_getElem (by rw [size_list]; exact h)]; rfl
  · rw [nx_end h, List.getElem?_eq_none (by rw [size_list]; omega)]; rfl
theorem app_list (x y : ByteArray) : (x ++ y).data.toList = x.data.toList ++ y.data.toList := by simp
theorem nx_app_lt {x y : ByteArray} {i : Nat} (h : i < x.size) : nx (x ++ y) i = nx x i := by
  rw [nx_list, nx_list, app_list, List.getElem?_append_left (by rw [size_list]; exact h)]
theorem nx_app_ge {x y : ByteArray} {i : Nat} (h : x.size ≤ i) : nx (x ++ y) i = nx y (i - x.size) := by
  rw [nx_list, nx_list, app_list, List.getElem?_append_right (by rw [size_list]; exact h), size_list]
theorem app_size (x y : ByteArray) : (x ++ y).size = x.size + y.size := ByteArray.size_append
theorem nx_one {c : UInt8} : nx ⟨#[c]⟩ 0 = c.toNat := rfl
theorem nx_one_ge {c : UInt8} {i : Nat} (h : 1 ≤ i) : nx ⟨#[c]⟩ i = 0 := nx_end (by show ¬ i < 1; omega)
end Go.Proofs.YtkhpdiilghncgaaGreatDoor
