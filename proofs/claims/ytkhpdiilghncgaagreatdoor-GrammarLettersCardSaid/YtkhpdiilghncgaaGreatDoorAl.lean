/- alive. -/
import Derived.Test.YtkhpdiilghncgaaGreatDoorSd
namespace Go.Proofs.YtkhpdiilghncgaaGreatDoor
open Go.RowKit
set_option linter.unusedVariables false

def s0 : ByteArray := ⟨#[50, 48, 50, 49, 45, 48, 51, 45, 49, 52, 84, 48, 50, 58, 51, 48, 58, 48, 48, 46, 53, 45, 48, 53, 58, 48, 48, 91, 65, 109, 101, 114, 105, 99, 97, 47, 78, 101, 119, 95, 89, 111, 114, 107, 93, 91, 117, 45, 99, 97, 61, 105, 115, 111, 56, 54, 48, 49, 93]⟩
def s1 : ByteArray := ⟨#[45, 80, 49, 89, 50, 77, 51, 87, 52, 68, 84, 53, 72, 54, 77, 55, 46, 53, 83]⟩
def s2 : ByteArray := ⟨#[84, 48, 50, 51, 48]⟩
theorem clk_s2 : clkV (clk s2) = .tuple #[.agg #[.int .i64 2, .int .i64 30, .int .i64 0, .int .i64 0], .int .i64 0] := by kernel_rfl
theorem span_s1 : durV (spanF s1) = .tuple #[.agg #[.int .i64 (-1), .int .i64 (-2), .int .i64 (-3), .int .i64 (-4), .int .i64 (-5), .int .i64 (-6), .int .i64 (-7), .int .i64 (-500000000)], .int .i64 0] := by kernel_rfl
theorem parse_s0 : parV (parseF s0) = .tuple #[.agg #[.int .i64 2021, .int .i64 3, .int .i64 14, .bool true, .int .i64 2, .int .i64 30, .int .i64 0, .int .i64 500000000, .int .i64 2, .int .i64 (-18000), .string ⟨#[65, 109, 101, 114, 105, 99, 97, 47, 78, 101, 119, 95, 89, 111, 114, 107]⟩], .int .i64 0] := by kernel_rfl

set_option maxHeartbeats 4000000 in
theorem alive_any {m : Int} (w : World) (hm : w.cell? ⟨1, 0, none⟩ = some (.int .i64 m)) : Calls Tryz.prog 9 #[] w fun e w' => e = .returned (.bool true) ∧ w.grownBy w' none := by
  have H0 := Lib.hid (fun w h => parse_any s0 (m := m) w (by decide) h)
  have H1 := Lib.hid (fun w => span_any s1 w (by decide))
  have H2 := Lib.hid (fun w => clock_fn s2 w (by decide))
  rw [parse_s0] at H0
  rw [span_s1] at H1
  rw [clk_s2] at H2
  go_enter Tryz.func9, Tryz.ntmps9
  go_wp2_with fail
  refine (H0.out _ hm).mono ?_
  rintro e w1 ⟨rfl, g1⟩
  go_wp2_with fail
  refine (H1.out _).mono ?_
  rintro e w2 ⟨rfl, g2⟩
  have K1 := blk_grown g2 (alloc_at w1 _) (by simp)
  have l1 : w1.heap.size < w2.heap.size := (Array.getElem?_eq_some_iff.1 K1).1
  have G2 := grown_trans (grown_alloc g1 _) g2
  go_wp2_with fail
  refine (H2.out _).mono ?_
  rintro e w3 ⟨rfl, g3⟩
  have K2 := blk_grown g3 (alloc_at w2 _) (by simp)
  have K1 := blk_grown g3 ((Below.heap_alloc _ _ _ l1).trans K1) (by simp)
  have l2 : w2.heap.size < w3.heap.size := (Array.getElem?_eq_some_iff.1 K2).1
  have l1 : w1.heap.size < w3.heap.size := by omega
  have a0 := blk_cell K1 0
  have a1 := blk_cell K1 1
  have a2 := blk_cell K1 2
  have a3 := blk_cell K1 3
  have a4 := blk_cell K1 4
  have a5 := blk_cell K1 5
  have a6 := blk_cell K1 6
  have a7 := blk_cell K1 7
  have a8 := blk_cell K1 8
  have a9 := blk_cell K1 9
  have a10 := blk_cell K1 10
  have b0 := blk_cell K2 0
  have b1 := blk_cell K2 1
  have b2 := blk_cell K2 2
  have b3 := blk_cell K2 3
  have b4 := blk_cell K2 4
  have b5 := blk_cell K2 5
  have b6 := blk_cell K2 6
  have b7 := blk_cell K2 7
  simp only [List.getElem?_toArray, List.getElem?_cons_zero, List.getElem?_cons_succ] at a0 a1 a2 a3 a4 a5 a6 a7 a8 a9 a10 b0 b1 b2 b3 b4 b5 b6 b7
  have G3 := grown_trans (grown_alloc G2 _) g3
  go_wp2_with fail
  go_ret
  exact ⟨rfl, grown_alloc G3 _⟩

end Go.Proofs.YtkhpdiilghncgaaGreatDoor
