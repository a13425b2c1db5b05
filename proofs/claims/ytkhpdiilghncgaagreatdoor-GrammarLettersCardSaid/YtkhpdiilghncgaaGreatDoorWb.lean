/- analemma/wide: products, sums. -/
import Derived.Test.YtkhpdiilghncgaaGreatDoorWa
import Derived.Test.YtkhpdiilghncgaaGreatDoorShelf
import Derived.Deep.RegionHeld3
namespace Go.Proofs.YtkhpdiilghncgaaGreatDoor
open Go.RowKit Go.Shelf
set_option linter.unusedVariables false

theorem abs_mul (a b : Int) : sgn (decide (a < 0) != decide (b < 0)) ((a.natAbs * b.natAbs : Nat) : Int) = a * b := by
  rw [← Int.natAbs_mul]
  by_cases h1 : a < 0 <;> by_cases h2 : b < 0
  · have := Int.mul_pos_of_neg_of_neg h1 h2
    simp [sgn, h1, h2]; omega
  · have := Int.mul_nonpos_of_nonpos_of_nonneg (Int.le_of_lt h1) (Int.not_lt.1 h2)
    simp [sgn, h1, h2]; omega
  · have := Int.mul_nonpos_of_nonneg_of_nonpos (Int.not_lt.1 h1) (Int.le_of_lt h2)
    simp [sgn, h1, h2]; omega
  · have := Int.mul_nonneg (Int.not_lt.1 h1) (Int.not_lt.1 h2)
    simp [sgn, h1, h2]; omega
theorem mul_any (a b : Int) (w : World) (ha : I64 a) (hb : I64 b) : Calls Tryz.prog 101 #[.int .i64 a, .int .i64 b] w fun e w' => e = .returned (W (a * b)) ∧ w.grownBy w' none := by
  have ha' : a.natAbs ≤ 9223372036854775808 := by unfold I64 at ha; omega
  have hb' : b.natAbs ≤ 9223372036854775808 := by unfold I64 at hb; omega
  have hp : a.natAbs * b.natAbs ≤ 9223372036854775808 * 9223372036854775808 := Nat.mul_le_mul ha' hb'
  have E := abs_mul a b
  have HB := Lib.hid (fun (x : Nat) (h1 : x ≤ 9223372036854775808) (y : Nat) (h2 : y ≤ 9223372036854775808) => Tryz.bits_Mul64 x y (by omega) (by omega))
  have HM := HB.out _ ha' _ hb'
  have HS := Lib.hid (fun w => signed_any (decide (a < 0) != decide (b < 0)) ((a.natAbs * b.natAbs / 18446744073709551616 : Nat) : Int) ((a.natAbs * b.natAbs % 18446744073709551616 : Nat) : Int) w (by omega) (by omega) (by omega) (by omega))
  rw [show ((a.natAbs * b.natAbs / 18446744073709551616 : Nat) : Int) * 18446744073709551616 + ((a.natAbs * b.natAbs % 18446744073709551616 : Nat) : Int) = ((a.natAbs * b.natAbs : Nat) : Int) by omega, E] at HS
  generalize a.natAbs * b.natAbs = p at *
  have H1 := Lib.hid (fun w => bare_any a w ha)
  have H2 := Lib.hid (fun w => bare_any b w hb)
  have HM := Lib.hid HM
  clear HB ha hb E hp ha' hb'
  go_enter Tryz.func101, Tryz.ntmps101
  go_wp2_with fail
  refine (H1.out _).mono ?_
  rintro e w' ⟨rfl, hw⟩
  rw [hw]
  clear hw
  go_wp2_with fail
  refine (H2.out _).mono ?_
  rintro e w' ⟨rfl, hw⟩
  rw [hw]
  clear hw
  go_wp2_with fail
  refine (HM.out _).mono ?_
  rintro e w' ⟨rfl, hw⟩
  rw [hw]
  clear hw
  go_wp2_with fail
  refine (HS.out _).mono ?_
  rintro e w1 ⟨rfl, hg⟩
  have K1 := blk_grown hg (alloc_at w _) (by simp)
  have K2 := (Below.heap_alloc w1 (.cells #[.int .i64 (hiW (a * b)), .int .u64 (loW (a * b))] 112) _ (Array.getElem?_eq_some_iff.1 K1).1).trans K1
  have q0 := blk_cell K2 0
  have q1 := blk_cell K2 1
  have q2 := blk_free K2 0
  have q3 := blk_free K2 1
  simp only [List.getElem?_toArray, List.getElem?_cons_zero, List.getElem?_cons_succ] at q0 q1
  go_wp2_with fail
  refine bodyPost_ret (v := W (a * b)) (by simp [results, Tryz.results101, go_sem, q0, q1]) rfl ⟨rfl, ?_⟩
  exact grown_setNew (grown_setNew (grown_alloc (grown_trans (grown_alloc (grown_refl _ _) _) hg) _) (by simp) _) (by simp) _

/-- A block that is kept while new ones come. -/
def Kb (w : World) (b : Nat) (cs : Array Value) (T : TypeId) (w' : World) : Prop := w.grownBy w' none ∧ w'.heap[b]? = some (.cells cs T (0, 0))
theorem Kb.drew {w w' : World} {b : Nat} {cs : Array Value} {T : TypeId} (h : Kb w b cs T w') : Kb w b cs T w'.drew := ⟨⟨h.1.os, h.1.tape, h.1.output, h.1.size, h.1.block⟩, h.2⟩
theorem Kb.grow {w w' w'' : World} {b : Nat} {cs : Array Value} {T : TypeId} (h : Kb w b cs T w') (g : w'.grownBy w'' none) : Kb w b cs T w'' := ⟨grown_trans h.1 g, blk_grown g h.2 (by simp)⟩
theorem Kb.lift {P : Program} {f : FuncId} {args : Array Value} {w w' : World} {b : Nat} {cs : Array Value} {T : TypeId} {r : Ending} (h : Calls P f args w' fun e w'' => e = r ∧ w'.grownBy w'' none) (k : Kb w b cs T w') : Calls P f args w' fun e w'' => e = r ∧ Kb w b cs T w'' :=
  h.mono fun e w'' ⟨h1, h2⟩ => ⟨h1, k.grow h2⟩
theorem Kb.cells2 {w w' : World} {b : Nat} {x y : Value} {T : TypeId} (h : Kb w b #[x, y] T w') : w'.cell? ⟨b, 0, none⟩ = some x ∧ w'.cell? ⟨b, 1, none⟩ = some y ∧ Kb w b #[x, y] T w' := ⟨blk_cell h.2 0, blk_cell h.2 1, h⟩
theorem int_yes (a : Int) (w : World) (ha : I64 a) : Calls Tryz.prog 100 #[W a] w fun e w' => e = .returned (.tuple #[.int .i64 a, .bool true]) ∧ w.grownBy w' none := by
  have H1 := Lib.hid (fun w => of_any a w ha)
  have e1 : IntKind.i64.wrap (loW a) = a := by rw [IntKind.wrap_i64]; unfold I64 at ha; unfold loW; omega
  clear ha
  go_enter Tryz.func100, Tryz.ntmps100
  have HK : Kb w w.heap.size #[.int .i64 (hiW a), .int .u64 (loW a)] 112 (w.alloc (.cells #[.int .i64 (hiW a), .int .u64 (loW a)] 112)) := ⟨grown_alloc (grown_refl _ _) _, alloc_at _ _⟩
  go_wp2_with fail
  go_region_held3 (fun w' => w'.cell? ⟨w.heap.size, 0, none⟩ = some (.int .i64 (hiW a)) ∧ w'.cell? ⟨w.heap.size, 1, none⟩ = some (.int .u64 (loW a)) ∧ Kb w w.heap.size #[.int .i64 (hiW a), .int .u64 (loW a)] 112 w') (exact Kb.cells2 (by first | assumption | exact Kb.drew (by assumption))) (first | (go_at_call 60; refine (Kb.lift (H1.out _) (by first | assumption | exact Kb.drew (by assumption))).mono ?_; rintro e w' ⟨rfl, hkb⟩))
  go_wp2_with fail
  go_ret2
  exact ⟨rfl, hkb.1⟩

end Go.Proofs.YtkhpdiilghncgaaGreatDoor
