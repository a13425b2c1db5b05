/- analemma/divide, where both numbers have room in 63 bits and stand above 0. -/
import Derived.Test.YtkhpdiilghncgaaGreatDoorDd
namespace Go.Proofs.YtkhpdiilghncgaaGreatDoor
open Go.RowKit Go.Shelf
set_option linter.unusedVariables false

abbrev U2 (a : Int) : Value := .agg #[.int .u64 0, .int .u64 a]
abbrev S2 (a : Int) : Value := .agg #[.int .i64 0, .int .u64 a]
theorem parts_any (a : Int) (w : World) (h : 0 ≤ a) : Calls Tryz.prog 124 #[S2 a] w fun e w' => e = .returned (.tuple #[U2 a, .bool false]) ∧ w.grownBy w' none := by
  go_enter Tryz.func124, Tryz.ntmps124
  go_wp2_with fail
  refine bodyPost_ret (v := .tuple #[U2 a, .bool false]) (by simp [results, Tryz.results124, go_sem]) rfl ⟨rfl, ?_⟩
  repeat (first | exact grown_refl _ _ | apply grown_alloc | apply grown_drewN)

theorem over_any (a b : Int) (w : World) (ha : 0 ≤ a) (hb : 0 < b) (ha' : a < 9223372036854775808) : Calls Tryz.prog 125 #[U2 a, U2 b] w fun e w' => e = .returned (.tuple #[U2 (a / b), U2 (a % b)]) ∧ w.grownBy w' none := by
  have hb0 : ¬ b = 0 := by omega
  have e1 : IntKind.u64.wrap (a.tdiv b) = a / b := by rw [IntKind.wrap_u64, Int.tdiv_eq_ediv_of_nonneg ha]; exact Int.emod_eq_of_lt (Int.ediv_nonneg ha (by omega)) (by have := Int.ediv_le_self b ha; omega)
  have e2 : a.tmod b = a % b := Int.tmod_eq_emod_of_nonneg ha
  go_enter Tryz.func125, Tryz.ntmps125
  go_wp2_with fail
  go_region_held3 (fun w' => w'.cell? ⟨w.heap.size, 1, none⟩ = some (.int .u64 a) ∧ w'.cell? ⟨w.heap.size + 1, 1, none⟩ = some (.int .u64 b)) (go_keep) (fail)
  go_wp2_with fail
  refine bodyPost_ret (v := .tuple #[U2 (a / b), U2 (a % b)]) (by simp [results, Tryz.results125, go_sem]) rfl ⟨rfl, ?_⟩
  repeat (first | exact grown_refl _ _ | apply grown_alloc | apply grown_drewN)

theorem bsigned_any (a : Int) (w : World) (ha : 0 ≤ a) (ha' : a < 9223372036854775808) : Calls Tryz.prog 126 #[U2 a, .bool false] w fun e w' => e = .returned (.tuple #[S2 a, .int .i64 0]) ∧ w.grownBy w' none := by
  go_enter Tryz.func126, Tryz.ntmps126
  go_wp2_with fail
  refine bodyPost_ret (v := .tuple #[S2 a, .int .i64 0]) (by simp [results, Tryz.results126, go_sem]) rfl ⟨rfl, ?_⟩
  repeat (first | exact grown_refl _ _ | apply grown_alloc | apply grown_drewN)

theorem alloc_at' (w : World) (o : Obj) (n : Nat) (h : n = w.heap.size) : (w.alloc o).heap[n]? = some o := by subst h; exact alloc_at w o
set_option maxHeartbeats 1000000 in
theorem trunc_any (a b : Int) (w : World) (ha : 0 ≤ a) (hb : 0 < b) (ha' : a < 9223372036854775808) (hb' : b < 9223372036854775808) :
    Calls Tryz.prog 99 #[S2 a, S2 b] w fun e w' => e = .returned (.tuple #[S2 (a / b), S2 (a % b), .int .i64 0]) ∧ w.grownBy w' none := by
  have q1 : 0 ≤ a / b := Int.ediv_nonneg ha (by omega)
  have q2 : a / b ≤ a := Int.ediv_le_self b ha
  have r1 : 0 ≤ a % b := Int.emod_nonneg a (by omega)
  have r2 : a % b < b := Int.emod_lt_of_pos a hb
  have bz : (b == 0) = false := by simp; omega
  have H1 := Lib.hid (fun w => parts_any a w ha)
  have H2 := Lib.hid (fun w => parts_any b w (by omega))
  have H3 := Lib.hid (fun w => over_any a b w ha hb ha')
  have H4 := Lib.hid (fun w => bsigned_any (a / b) w q1 (by omega))
  have H5 := Lib.hid (fun w => bsigned_any (a % b) w r1 (by omega))
  clear q1 q2 r1 r2 ha ha' hb' hb
  have hbne : ¬ b = 0 := by simpa using bz
  go_enter Tryz.func99, Tryz.ntmps99
  go_wp2_with fail
  refine (H1.out _).mono ?_
  rintro e w1 ⟨rfl, hg⟩
  have K3 : w1.heap[(w.heap.size + 1)]? = some (.cells #[.int .i64 0, .int .u64 b] 112 (0, 0)) := by
    refine blk_grown hg ?_ (by simp)
    repeat (first
      | assumption
      | (refine alloc_at' _ _ _ ?_; first | rfl | (simp; done))
      | (refine (Below.heap_alloc _ _ _ ?hside).trans ?_; case hside => first | (simp; done) | (simp; omega) | omega)
      | (refine (Below.heap_setCell _ _ _ _ ?hside).trans ?_; case hside => first | (simp; done) | (simp; omega) | omega))
  have c0 := blk_cell K3 0
  have c1 := blk_cell K3 1
  have c2 := blk_free K3 0
  have c3 := blk_free K3 1
  simp only [List.getElem?_toArray, List.getElem?_cons_zero, List.getElem?_cons_succ] at c0 c1
  have cl : (w.heap.size + 1) < w1.heap.size := (Array.getElem?_eq_some_iff.1 K3).1
  have K4 : w1.heap[(w.heap.size + 1 + 1)]? = some (.cells #[.int .i64 0, .int .u64 0] 112 (0, 0)) := by
    refine blk_grown hg ?_ (by simp)
    repeat (first
      | assumption
      | (refine alloc_at' _ _ _ ?_; first | rfl | (simp; done))
      | (refine (Below.heap_alloc _ _ _ ?hside).trans ?_; case hside => first | (simp; done) | (simp; omega) | omega)
      | (refine (Below.heap_setCell _ _ _ _ ?hside).trans ?_; case hside => first | (simp; done) | (simp; omega) | omega))
  have d0 := blk_cell K4 0
  have d1 := blk_cell K4 1
  have d2 := blk_free K4 0
  have d3 := blk_free K4 1
  simp only [List.getElem?_toArray, List.getElem?_cons_zero, List.getElem?_cons_succ] at d0 d1
  have dl : (w.heap.size + 1 + 1) < w1.heap.size := (Array.getElem?_eq_some_iff.1 K4).1
  have K5 : w1.heap[(w.heap.size + 1 + 1 + 1)]? = some (.cells #[.int .i64 0, .int .u64 0] 112 (0, 0)) := by
    refine blk_grown hg ?_ (by simp)
    repeat (first
      | assumption
      | (refine alloc_at' _ _ _ ?_; first | rfl | (simp; done))
      | (refine (Below.heap_alloc _ _ _ ?hside).trans ?_; case hside => first | (simp; done) | (simp; omega) | omega)
      | (refine (Below.heap_setCell _ _ _ _ ?hside).trans ?_; case hside => first | (simp; done) | (simp; omega) | omega))
  have e0 := blk_cell K5 0
  have e1 := blk_cell K5 1
  have e2 := blk_free K5 0
  have e3 := blk_free K5 1
  simp only [List.getElem?_toArray, List.getElem?_cons_zero, List.getElem?_cons_succ] at e0 e1
  have el : (w.heap.size + 1 + 1 + 1) < w1.heap.size := (Array.getElem?_eq_some_iff.1 K5).1
  have G1 : w.grownBy w1 none := by
    refine grown_trans ?_ hg
    repeat (first
      | assumption
      | exact grown_refl _ _
      | apply grown_alloc
      | (refine grown_setNew ?_ ?hside _; case hside => first | (simp; done) | (simp; omega) | omega))
  clear hg
  go_wp2_with fail
  refine (H2.out _).mono ?_
  rintro e w2 ⟨rfl, hg⟩
  have K4 : w2.heap[(w.heap.size + 1 + 1)]? = some (.cells #[.int .i64 0, .int .u64 0] 112 (0, 0)) := by
    refine blk_grown hg ?_ (by simp)
    repeat (first
      | assumption
      | (refine alloc_at' _ _ _ ?_; first | rfl | (simp; done))
      | (refine (Below.heap_alloc _ _ _ ?hside).trans ?_; case hside => first | (simp; done) | (simp; omega) | omega)
      | (refine (Below.heap_setCell _ _ _ _ ?hside).trans ?_; case hside => first | (simp; done) | (simp; omega) | omega))
  have d0 := blk_cell K4 0
  have d1 := blk_cell K4 1
  have d2 := blk_free K4 0
  have d3 := blk_free K4 1
  simp only [List.getElem?_toArray, List.getElem?_cons_zero, List.getElem?_cons_succ] at d0 d1
  have dl : (w.heap.size + 1 + 1) < w2.heap.size := (Array.getElem?_eq_some_iff.1 K4).1
  have K5 : w2.heap[(w.heap.size + 1 + 1 + 1)]? = some (.cells #[.int .i64 0, .int .u64 0] 112 (0, 0)) := by
    refine blk_grown hg ?_ (by simp)
    repeat (first
      | assumption
      | (refine alloc_at' _ _ _ ?_; first | rfl | (simp; done))
      | (refine (Below.heap_alloc _ _ _ ?hside).trans ?_; case hside => first | (simp; done) | (simp; omega) | omega)
      | (refine (Below.heap_setCell _ _ _ _ ?hside).trans ?_; case hside => first | (simp; done) | (simp; omega) | omega))
  have e0 := blk_cell K5 0
  have e1 := blk_cell K5 1
  have e2 := blk_free K5 0
  have e3 := blk_free K5 1
  simp only [List.getElem?_toArray, List.getElem?_cons_zero, List.getElem?_cons_succ] at e0 e1
  have el : (w.heap.size + 1 + 1 + 1) < w2.heap.size := (Array.getElem?_eq_some_iff.1 K5).1
  have K7 : w2.heap[w1.heap.size]? = some (.cells #[.int .u64 0, .int .u64 a] 178 (0, 0)) := by
    refine blk_grown hg ?_ (by simp)
    repeat (first
      | assumption
      | (refine alloc_at' _ _ _ ?_; first | rfl | (simp; done))
      | (refine (Below.heap_alloc _ _ _ ?hside).trans ?_; case hside => first | (simp; done) | (simp; omega) | omega)
      | (refine (Below.heap_setCell _ _ _ _ ?hside).trans ?_; case hside => first | (simp; done) | (simp; omega) | omega))
  have c0 := blk_cell K7 0
  have c1 := blk_cell K7 1
  have c2 := blk_free K7 0
  have c3 := blk_free K7 1
  simp only [List.getElem?_toArray, List.getElem?_cons_zero, List.getElem?_cons_succ] at c0 c1
  have cl : w1.heap.size < w2.heap.size := (Array.getElem?_eq_some_iff.1 K7).1
  have G1 : w.grownBy w2 none := by
    refine grown_trans ?_ hg
    repeat (first
      | assumption
      | exact grown_refl _ _
      | apply grown_alloc
      | (refine grown_setNew ?_ ?hside _; case hside => first | (simp; done) | (simp; omega) | omega))
  clear hg
  go_wp2_with fail
  refine (H3.out _).mono ?_
  rintro e w3 ⟨rfl, hg⟩
  have K4 : w3.heap[(w.heap.size + 1 + 1)]? = some (.cells #[.int .i64 0, .int .u64 0] 112 (0, 0)) := by
    refine blk_grown hg ?_ (by simp)
    repeat (first
      | assumption
      | (refine alloc_at' _ _ _ ?_; first | rfl | (simp; done))
      | (refine (Below.heap_alloc _ _ _ ?hside).trans ?_; case hside => first | (simp; done) | (simp; omega) | omega)
      | (refine (Below.heap_setCell _ _ _ _ ?hside).trans ?_; case hside => first | (simp; done) | (simp; omega) | omega))
  have d0 := blk_cell K4 0
  have d1 := blk_cell K4 1
  have d2 := blk_free K4 0
  have d3 := blk_free K4 1
  simp only [List.getElem?_toArray, List.getElem?_cons_zero, List.getElem?_cons_succ] at d0 d1
  have dl : (w.heap.size + 1 + 1) < w3.heap.size := (Array.getElem?_eq_some_iff.1 K4).1
  have K5 : w3.heap[(w.heap.size + 1 + 1 + 1)]? = some (.cells #[.int .i64 0, .int .u64 0] 112 (0, 0)) := by
    refine blk_grown hg ?_ (by simp)
    repeat (first
      | assumption
      | (refine alloc_at' _ _ _ ?_; first | rfl | (simp; done))
      | (refine (Below.heap_alloc _ _ _ ?hside).trans ?_; case hside => first | (simp; done) | (simp; omega) | omega)
      | (refine (Below.heap_setCell _ _ _ _ ?hside).trans ?_; case hside => first | (simp; done) | (simp; omega) | omega))
  have e0 := blk_cell K5 0
  have e1 := blk_cell K5 1
  have e2 := blk_free K5 0
  have e3 := blk_free K5 1
  simp only [List.getElem?_toArray, List.getElem?_cons_zero, List.getElem?_cons_succ] at e0 e1
  have el : (w.heap.size + 1 + 1 + 1) < w3.heap.size := (Array.getElem?_eq_some_iff.1 K5).1
  have G1 : w.grownBy w3 none := by
    refine grown_trans ?_ hg
    repeat (first
      | assumption
      | exact grown_refl _ _
      | apply grown_alloc
      | (refine grown_setNew ?_ ?hside _; case hside => first | (simp; done) | (simp; omega) | omega))
  clear hg
  go_wp2_with fail
  refine (H4.out _).mono ?_
  rintro e w4 ⟨rfl, hg⟩
  have K4 : w4.heap[(w.heap.size + 1 + 1)]? = some (.cells #[.int .i64 0, .int .u64 0] 112 (0, 0)) := by
    refine blk_grown hg ?_ (by simp)
    repeat (first
      | assumption
      | (refine alloc_at' _ _ _ ?_; first | rfl | (simp; done))
      | (refine (Below.heap_alloc _ _ _ ?hside).trans ?_; case hside => first | (simp; done) | (simp; omega) | omega)
      | (refine (Below.heap_setCell _ _ _ _ ?hside).trans ?_; case hside => first | (simp; done) | (simp; omega) | omega))
  have d0 := blk_cell K4 0
  have d1 := blk_cell K4 1
  have d2 := blk_free K4 0
  have d3 := blk_free K4 1
  simp only [List.getElem?_toArray, List.getElem?_cons_zero, List.getElem?_cons_succ] at d0 d1
  have dl : (w.heap.size + 1 + 1) < w4.heap.size := (Array.getElem?_eq_some_iff.1 K4).1
  have K5 : w4.heap[(w.heap.size + 1 + 1 + 1)]? = some (.cells #[.int .i64 0, .int .u64 0] 112 (0, 0)) := by
    refine blk_grown hg ?_ (by simp)
    repeat (first
      | assumption
      | (refine alloc_at' _ _ _ ?_; first | rfl | (simp; done))
      | (refine (Below.heap_alloc _ _ _ ?hside).trans ?_; case hside => first | (simp; done) | (simp; omega) | omega)
      | (refine (Below.heap_setCell _ _ _ _ ?hside).trans ?_; case hside => first | (simp; done) | (simp; omega) | omega))
  have e0 := blk_cell K5 0
  have e1 := blk_cell K5 1
  have e2 := blk_free K5 0
  have e3 := blk_free K5 1
  simp only [List.getElem?_toArray, List.getElem?_cons_zero, List.getElem?_cons_succ] at e0 e1
  have el : (w.heap.size + 1 + 1 + 1) < w4.heap.size := (Array.getElem?_eq_some_iff.1 K5).1
  have K12 : w4.heap[(w3.heap.size + 1)]? = some (.cells #[.int .u64 0, .int .u64 (a % b)] 178 (0, 0)) := by
    refine blk_grown hg ?_ (by simp)
    repeat (first
      | assumption
      | (refine alloc_at' _ _ _ ?_; first | rfl | (simp; done))
      | (refine (Below.heap_alloc _ _ _ ?hside).trans ?_; case hside => first | (simp; done) | (simp; omega) | omega)
      | (refine (Below.heap_setCell _ _ _ _ ?hside).trans ?_; case hside => first | (simp; done) | (simp; omega) | omega))
  have c0 := blk_cell K12 0
  have c1 := blk_cell K12 1
  have c2 := blk_free K12 0
  have c3 := blk_free K12 1
  simp only [List.getElem?_toArray, List.getElem?_cons_zero, List.getElem?_cons_succ] at c0 c1
  have cl : (w3.heap.size + 1) < w4.heap.size := (Array.getElem?_eq_some_iff.1 K12).1
  have G1 : w.grownBy w4 none := by
    refine grown_trans ?_ hg
    repeat (first
      | assumption
      | exact grown_refl _ _
      | apply grown_alloc
      | (refine grown_setNew ?_ ?hside _; case hside => first | (simp; done) | (simp; omega) | omega))
  clear hg
  go_wp2_with fail
  refine (H5.out _).mono ?_
  rintro e w5 ⟨rfl, hg⟩
  have K4 : w5.heap[(w.heap.size + 1 + 1)]? = some (.cells #[.int .i64 0, .int .u64 0] 112 (0, 0)) := by
    refine blk_grown hg ?_ (by simp)
    repeat (first
      | assumption
      | (refine alloc_at' _ _ _ ?_; first | rfl | (simp; done))
      | (refine (Below.heap_alloc _ _ _ ?hside).trans ?_; case hside => first | (simp; done) | (simp; omega) | omega)
      | (refine (Below.heap_setCell _ _ _ _ ?hside).trans ?_; case hside => first | (simp; done) | (simp; omega) | omega))
  have d0 := blk_cell K4 0
  have d1 := blk_cell K4 1
  have d2 := blk_free K4 0
  have d3 := blk_free K4 1
  simp only [List.getElem?_toArray, List.getElem?_cons_zero, List.getElem?_cons_succ] at d0 d1
  have dl : (w.heap.size + 1 + 1) < w5.heap.size := (Array.getElem?_eq_some_iff.1 K4).1
  have K5 : w5.heap[(w.heap.size + 1 + 1 + 1)]? = some (.cells #[.int .i64 0, .int .u64 0] 112 (0, 0)) := by
    refine blk_grown hg ?_ (by simp)
    repeat (first
      | assumption
      | (refine alloc_at' _ _ _ ?_; first | rfl | (simp; done))
      | (refine (Below.heap_alloc _ _ _ ?hside).trans ?_; case hside => first | (simp; done) | (simp; omega) | omega)
      | (refine (Below.heap_setCell _ _ _ _ ?hside).trans ?_; case hside => first | (simp; done) | (simp; omega) | omega))
  have e0 := blk_cell K5 0
  have e1 := blk_cell K5 1
  have e2 := blk_free K5 0
  have e3 := blk_free K5 1
  simp only [List.getElem?_toArray, List.getElem?_cons_zero, List.getElem?_cons_succ] at e0 e1
  have el : (w.heap.size + 1 + 1 + 1) < w5.heap.size := (Array.getElem?_eq_some_iff.1 K5).1
  have K13 : w5.heap[w4.heap.size]? = some (.cells #[.int .i64 0, .int .u64 (a / b)] 112 (0, 0)) := by
    refine blk_grown hg ?_ (by simp)
    repeat (first
      | assumption
      | (refine alloc_at' _ _ _ ?_; first | rfl | (simp; done))
      | (refine (Below.heap_alloc _ _ _ ?hside).trans ?_; case hside => first | (simp; done) | (simp; omega) | omega)
      | (refine (Below.heap_setCell _ _ _ _ ?hside).trans ?_; case hside => first | (simp; done) | (simp; omega) | omega))
  have c0 := blk_cell K13 0
  have c1 := blk_cell K13 1
  have c2 := blk_free K13 0
  have c3 := blk_free K13 1
  simp only [List.getElem?_toArray, List.getElem?_cons_zero, List.getElem?_cons_succ] at c0 c1
  have cl : w4.heap.size < w5.heap.size := (Array.getElem?_eq_some_iff.1 K13).1
  have G1 : w.grownBy w5 none := by
    refine grown_trans ?_ hg
    repeat (first
      | assumption
      | exact grown_refl _ _
      | apply grown_alloc
      | (refine grown_setNew ?_ ?hside _; case hside => first | (simp; done) | (simp; omega) | omega))
  clear hg
  have n1 : w.heap.size + 1 + 1 ≠ w4.heap.size := by omega
  have n2 : w.heap.size + 1 + 1 + 1 ≠ w4.heap.size := by omega
  have n3 : w.heap.size + 1 + 1 ≠ w5.heap.size := by omega
  have n4 : w.heap.size + 1 + 1 + 1 ≠ w5.heap.size := by omega
  go_wp2_with fail
  have K15 : (w5.alloc (.cells #[.int .i64 0, .int .u64 (a % b)] 112)).heap[w5.heap.size]? = some (.cells #[.int .i64 0, .int .u64 (a % b)] 112 (0, 0)) := alloc_at _ _
  have K4 : (w5.alloc (.cells #[.int .i64 0, .int .u64 (a % b)] 112)).heap[(w.heap.size + 1 + 1)]? = some (.cells #[.int .i64 0, .int .u64 0] 112 (0, 0)) := by
    repeat (first
      | assumption
      | (refine alloc_at' _ _ _ ?_; first | rfl | (simp; done))
      | (refine (Below.heap_alloc _ _ _ ?hside).trans ?_; case hside => first | (simp; done) | (simp; omega) | omega)
      | (refine (Below.heap_setCell _ _ _ _ ?hside).trans ?_; case hside => first | (simp; done) | (simp; omega) | omega))
  have K5 : (w5.alloc (.cells #[.int .i64 0, .int .u64 (a % b)] 112)).heap[(w.heap.size + 1 + 1 + 1)]? = some (.cells #[.int .i64 0, .int .u64 0] 112 (0, 0)) := by
    repeat (first
      | assumption
      | (refine alloc_at' _ _ _ ?_; first | rfl | (simp; done))
      | (refine (Below.heap_alloc _ _ _ ?hside).trans ?_; case hside => first | (simp; done) | (simp; omega) | omega)
      | (refine (Below.heap_setCell _ _ _ _ ?hside).trans ?_; case hside => first | (simp; done) | (simp; omega) | omega))
  have K13 : (w5.alloc (.cells #[.int .i64 0, .int .u64 (a % b)] 112)).heap[w4.heap.size]? = some (.cells #[.int .i64 0, .int .u64 (a / b)] 112 (0, 0)) := by
    repeat (first
      | assumption
      | (refine alloc_at' _ _ _ ?_; first | rfl | (simp; done))
      | (refine (Below.heap_alloc _ _ _ ?hside).trans ?_; case hside => first | (simp; done) | (simp; omega) | omega)
      | (refine (Below.heap_setCell _ _ _ _ ?hside).trans ?_; case hside => first | (simp; done) | (simp; omega) | omega))
  have G2 := grown_alloc G1 (.cells #[.int .i64 0, .int .u64 (a % b)] 112)
  generalize (w5.alloc (.cells #[.int .i64 0, .int .u64 (a % b)] 112)) = W6 at *
  clear c0 c1 c2 c3 d0 d1 d2 d3 e0 e1 e2 e3 cl dl el
  have d0 := blk_cell K4 0
  have d1 := blk_cell K4 1
  have d2 := blk_free K4 0
  have d3 := blk_free K4 1
  simp only [List.getElem?_toArray, List.getElem?_cons_zero, List.getElem?_cons_succ] at d0 d1
  have e0 := blk_cell K5 0
  have e1 := blk_cell K5 1
  have e2 := blk_free K5 0
  have e3 := blk_free K5 1
  simp only [List.getElem?_toArray, List.getElem?_cons_zero, List.getElem?_cons_succ] at e0 e1
  have c0 := blk_cell K13 0
  have c1 := blk_cell K13 1
  have c2 := blk_free K13 0
  have c3 := blk_free K13 1
  simp only [List.getElem?_toArray, List.getElem?_cons_zero, List.getElem?_cons_succ] at c0 c1
  have f0 := blk_cell K15 0
  have f1 := blk_cell K15 1
  have f2 := blk_free K15 0
  have f3 := blk_free K15 1
  simp only [List.getElem?_toArray, List.getElem?_cons_zero, List.getElem?_cons_succ] at f0 f1
  go_region_held3 (fun w' => w'.cell? ⟨w4.heap.size, 0, none⟩ = some (.int .i64 0) ∧ w'.cell? ⟨w4.heap.size, 1, none⟩ = some (.int .u64 (a / b)) ∧ w'.cell? ⟨w5.heap.size, 0, none⟩ = some (.int .i64 0) ∧ w'.cell? ⟨w5.heap.size, 1, none⟩ = some (.int .u64 (a % b))) (go_keep) (fail)
  all_goals
    go_wp2_with fail
    refine bodyPost_ret (v := .tuple #[S2 (a / b), S2 (a % b), .int .i64 0]) (by simp [results, Tryz.results99, go_sem, d0, d1, e0, e1]) rfl ⟨rfl, ?_⟩
    refine grown_drewN (grown_setNew (grown_setNew (grown_setNew (grown_setNew G2 ?_ _) ?_ _) ?_ _) ?_ _) 1
    all_goals simp only; omega

end Go.Proofs.YtkhpdiilghncgaaGreatDoor
