/- civil.MonthLen. -/
import Derived.Test.YtkhpdiilghncgaaGreatDoorGl
namespace Go.Proofs.YtkhpdiilghncgaaGreatDoor
open Go.RowKit
set_option linter.unusedVariables false

def leapF (y : Int) : Bool := decide (y.tmod 4 = 0) && (decide (y.tmod 100 ≠ 0) || decide (y.tmod 400 = 0))
def lensF : List Int := [0, 31, 28, 31, 30, 31, 30, 31, 31, 30, 31, 30, 31]
def mlenF (y : Int) (m : Nat) : Int := if m = 2 ∧ leapF y = true then 29 else lensF.getD m 0
theorem lens_at (m : Nat) (h2 : m ≤ 12) : ([.int .i64 0, .int .i64 31, .int .i64 28, .int .i64 31, .int .i64 30, .int .i64 31, .int .i64 30, .int .i64 31, .int .i64 31, .int .i64 30, .int .i64 31, .int .i64 30, .int .i64 31] : List Value)[m]? = some (.int .i64 (lensF.getD m 0)) := by
  have : m = 0 ∨ m = 1 ∨ m = 2 ∨ m = 3 ∨ m = 4 ∨ m = 5 ∨ m = 6 ∨ m = 7 ∨ m = 8 ∨ m = 9 ∨ m = 10 ∨ m = 11 ∨ m = 12 := by omega
  rcases this with rfl | rfl | rfl | rfl | rfl | rfl | rfl | rfl | rfl | rfl | rfl | rfl | rfl <;> rfl

set_option maxHeartbeats 400000 in
theorem leap_any (y : Int) (w : World) : Calls Tryz.prog 87 #[.int .i64 y] w fun e w' => e = .returned (.bool (leapF y)) ∧ w' = w := by
  by_cases h4 : y.tmod 4 = 0
  · by_cases h1 : y.tmod 100 = 0
    · have HZ := Lib.hid (show leapF y = (y.tmod 400 == 0) by simp [leapF, h4, h1]; rfl)
      go_enter Tryz.func87, Tryz.ntmps87
      go_wp2_with fail
      go_ret
      rw [HZ.out]; exact ⟨rfl, by trivial⟩
    · have HZ := Lib.hid (show leapF y = true by simp [leapF, h4, h1])
      go_enter Tryz.func87, Tryz.ntmps87
      go_wp2_with fail
      go_ret
      rw [HZ.out]; exact ⟨rfl, by trivial⟩
  · have HZ := Lib.hid (show leapF y = false by simp [leapF, h4])
    go_enter Tryz.func87, Tryz.ntmps87
    go_wp2_with fail
    go_ret
    rw [HZ.out]; exact ⟨rfl, by trivial⟩

set_option maxHeartbeats 400000 in
theorem monthlen_any (y : Int) (m : Nat) (w : World) (h1 : 1 ≤ m) (h2 : m ≤ 12) : Calls Tryz.prog 43 #[.int .i64 y, .int .i64 m] w fun e w' => e = .returned (.int .i64 (mlenF y m)) ∧ w.grownBy w' none := by
  have d1 : decide ((m : Int) < 1) = false := by simp; omega
  have d2 : decide ((12 : Int) < m) = false := by simp; omega
  cases d3 : ((m : Int) == 2) with
  | true =>
    have hm : m = 2 := by simp at d3; omega
    cases hl : leapF y with
    | true =>
      have HZ := Lib.hid (show mlenF y m = 29 by unfold mlenF; rw [if_pos ⟨hm, hl⟩])
      go_enter Tryz.func43, Tryz.ntmps43
      go_wp2_with (go_at_call 87; refine (leap_any _ _).mono ?_; rintro e w' ⟨rfl, hw⟩; rw [hw, hl]; clear hw)
      go_ret
      rw [HZ.out]; exact ⟨rfl, World.grownBy_alloc _ _ _⟩
    | false =>
      have HZ := Lib.hid (show mlenF y m = 28 by unfold mlenF; rw [if_neg (by rw [hl]; simp), hm]; rfl)
      go_enter Tryz.func43, Tryz.ntmps43
      go_upto_region 6 with (go_at_call 87; refine (leap_any _ _).mono ?_; rintro e w' ⟨rfl, hw⟩; rw [hw, hl]; clear hw)
      have hL := lens_at m h2
      go_wp2_with fail
      go_ret
      rw [HZ.out]; exact ⟨rfl, World.grownBy_alloc _ _ _⟩
  | false =>
    have HZ := Lib.hid (show mlenF y m = lensF.getD m 0 by simp at d3; unfold mlenF; rw [if_neg (by omega)])
    go_enter Tryz.func43, Tryz.ntmps43
    go_upto_region 6 with fail
    have hL := lens_at m h2
    go_wp2_with fail
    go_ret
    rw [HZ.out]; exact ⟨rfl, World.grownBy_alloc _ _ _⟩

end Go.Proofs.YtkhpdiilghncgaaGreatDoor
