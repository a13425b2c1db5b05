/- grammar.over; grammar.Span$1. -/
import Derived.Test.YtkhpdiilghncgaaGreatDoorLa
import Derived.Test.YtkhpdiilghncgaaGreatDoorDp
namespace Go.Proofs.YtkhpdiilghncgaaGreatDoor
open Go.RowKit Go.Shelf
set_option linter.unusedVariables false

theorem layL_5 (n : Int) : layL n 3 5 = n / 60000000000 := rfl
theorem layL_6 (n : Int) : layL n 3 6 = n % 60000000000 / 1000000000 := rfl
theorem layL_7 (n : Int) : layL n 3 7 = n % 60000000000 % 1000000000 / 1 := rfl
theorem layL_other (n : Int) {i : Nat} (h5 : i ≠ 5) (h6 : i ≠ 6) (h7 : i ≠ 7) : layL n 3 i = 0 := by
  simp only [layL]
  rw [if_neg (by omega), if_neg (by omega), if_neg (by omega)]
theorem layL_nn {n : Int} (h : 0 ≤ n) : ∀ k, 0 ≤ layL n 3 k := by
  intro k
  by_cases h5 : k = 5
  · subst h5; rw [layL_5]; omega
  · by_cases h6 : k = 6
    · subst h6; rw [layL_6]; omega
    · by_cases h7 : k = 7
      · subst h7; rw [layL_7]; omega
      · rw [layL_other n h5 h6 h7]; exact Int.le_refl _
theorem layL_64 {n : Int} (h : 0 ≤ n) (h' : n < 9223372036854775808) : D64 (layL n 3) := by
  intro k
  refine ⟨by have := layL_nn h k; omega, ?_⟩
  by_cases h5 : k = 5
  · subst h5; rw [layL_5]; omega
  · by_cases h6 : k = 6
    · subst h6; rw [layL_6]; omega
    · by_cases h7 : k = 7
      · subst h7; rw [layL_7]; omega
      · rw [layL_other n h5 h6 h7]; decide
theorem layL_total {n : Int} (h : 0 ≤ n) : totalD (layL n 3) = n := by
  unfold totalD
  rw [layL_5, layL_6, layL_7, layL_other n (by decide) (by decide) (by decide), layL_other n (by decide) (by decide) (by decide)]
  omega
theorem layL_right {n : Int} (h : 0 ≤ n) (h' : n < 9223372036854775808) : rightD (layL n 3) = true := by
  rw [rightD_nn (layL_nn h)]
  unfold rightN
  rw [layL_total h, layL_other n (by decide) (by decide) (by decide), layL_other n (by decide) (by decide) (by decide), layL_other n (by decide) (by decide) (by decide)]
  simp [limitN]
  omega
theorem lay_fit (n : Int) (w : World) (h : 0 ≤ n) (h' : n < 9223372036854775808) : Calls Tryz.prog 59 #[S2 n, .int .i64 6] w fun e w' => e = .returned (.tuple #[.agg (dcells (layL n 3)), .int .i64 0]) ∧ w.grownBy w' none :=
  lay_any n w h h' (layL_right h h') (layL_64 h h')

/-- A duration, a fraction of one of its units laid out over what is less. -/
def overD (d : Nat → Int) (u : Nat) (n : Int) : Nat → Int := fun i =>
  if i = 7 then layL n 3 7 else if i = 6 ∧ u ≤ 1 then layL n 3 6 else if i = 5 ∧ u = 0 then layL n 3 5 else d i
set_option maxHeartbeats 1000000 in
theorem clear_dur {c : Nat} {d : Nat → Int} {w : World} (h : Db w c d) : Calls Tryz.prog 22 #[.pointer (some ⟨c, 0, none⟩)] w fun e w' => e = .returned (.tuple #[]) ∧ w.grownBy w' (some c) ∧ Db w' c (fun _ => 0) := by
  have q0 := blk_cell h 0
  have q1 := blk_cell h 1
  have q2 := blk_cell h 2
  have q3 := blk_cell h 3
  have q4 := blk_cell h 4
  have q5 := blk_cell h 5
  have q6 := blk_cell h 6
  have q7 := blk_cell h 7
  simp only [List.getElem?_toArray, List.getElem?_cons_zero, List.getElem?_cons_succ] at q0 q1 q2 q3 q4 q5 q6 q7
  have qf : ∀ o, w.frozen? ⟨c, o, none⟩ = false := fun o => blk_free h o
  have H : Hid (Db w c d) := Lib.hid h
  clear h
  go_enter Tryz.func22, Tryz.ntmps22
  go_wp2_with fail
  go_end0
  refine ⟨rfl, ?_, ?_⟩
  · iterate 8 refine grown_set ?_ _ _
    exact grown_refl _ _
  · have h := (((((((H.out.set (k := 0) (by omega) 0).set (k := 1) (by omega) 0).set (k := 2) (by omega) 0).set (k := 3) (by omega) 0).set (k := 4) (by omega) 0).set (k := 5) (by omega) 0).set (k := 6) (by omega) 0).set (k := 7) (by omega) 0
    exact h
def unitN (u : Nat) : Int := if u = 0 then 3600 else if u = 1 then 60 else 1
theorem Db.alloc {w : World} {c : Nat} {d : Nat → Int} (h : Db w c d) (o : Obj) : Db (w.alloc o) c d := (Below.heap_alloc _ _ _ (Array.getElem?_eq_some_iff.1 h).1).trans h
theorem overD_eq {w : World} {c : Nat} {d d' : Nat → Int} (h : Db w c d) (e : ∀ i, d i = d' i) : Db w c d' := by
  have : d = d' := funext e
  rw [← this]; exact h
theorem overD_0 (d : Nat → Int) (p : Int) : ∀ i, (fun i => if i = 7 then layL (p * 3600) 3 7 else (fun i => if i = 6 then layL (p * 3600) 3 6 else (fun i => if i = 5 then layL (p * 3600) 3 5 else d i) i) i) i = overD d 0 (p * unitN 0) i := by
  intro i
  show (if i = 7 then _ else if i = 6 then _ else if i = 5 then _ else d i) = if i = 7 then _ else if i = 6 ∧ 0 ≤ 1 then _ else if i = 5 ∧ 0 = 0 then _ else d i
  simp [unitN]
theorem overD_1 (d : Nat → Int) (p : Int) : ∀ i, (fun i => if i = 7 then layL (p * 60) 3 7 else (fun i => if i = 6 then layL (p * 60) 3 6 else d i) i) i = overD d 1 (p * unitN 1) i := by
  intro i
  show (if i = 7 then _ else if i = 6 then _ else d i) = if i = 7 then _ else if i = 6 ∧ 1 ≤ 1 then _ else if i = 5 ∧ 1 = 0 then _ else d i
  simp [unitN]
theorem overD_2 (d : Nat → Int) (p : Int) : ∀ i, (fun i => if i = 7 then layL p 3 7 else d i) i = overD d 2 (p * unitN 2) i := by
  intro i
  show (if i = 7 then _ else d i) = if i = 7 then _ else if i = 6 ∧ 2 ≤ 1 then _ else if i = 5 ∧ 2 = 0 then _ else d i
  simp [unitN]
set_option maxHeartbeats 1000000 in
theorem over_yes {c u : Nat} {p : Int} {d : Nat → Int} {w : World} (hu : u ≤ 2) (hp : 0 ≤ p) (hp' : p < 1000000000) (h : Db w c d) :
    Calls Tryz.prog 30 #[.pointer (some ⟨c, 0, none⟩), .int .i64 u, .int .i64 p] w fun e w' => e = .returned (.tuple #[]) ∧ w.grownBy w' (some c) ∧ Db w' c (overD d u (p * unitN u)) := by
  have : u = 0 ∨ u = 1 ∨ u = 2 := by omega
  have H : Hid (Db w c d) := Lib.hid h
  clear hu
  clear h
  rcases this with rfl | rfl | rfl
  · have wp : IntKind.i64.wrap (p * 3600) = p * 3600 := by rw [IntKind.wrap_i64]; omega
    have H1 := Lib.hid (fun w => length_any 5 w (by decide))
    rw [show lenF.getD 5 0 = 3600000000000 from rfl] at H1
    have H2 := Lib.hid (fun w => by have := of_any (p * 3600) w ⟨by omega, by omega⟩; rw [W_small (by omega) (by omega)] at this; exact this)
    have H3 := Lib.hid (fun w => lay_fit (p * 3600) w (by omega) (by omega))
    go_enter Tryz.func30, Tryz.ntmps30
    go_wp2_with fail
    refine (H1.out _).mono ?_
    rintro e w' ⟨rfl, hw⟩
    rw [hw]
    clear hw
    go_wp2_with fail
    refine (H2.out _).mono ?_
    rintro e w1 ⟨rfl, hg1⟩
    go_wp2_with fail
    refine (H3.out _).mono ?_
    rintro e w2 ⟨rfl, hg2⟩
    have G2 := grown_trans hg1 hg2
    have K2 : Db w2 c d := blk_grown G2 H.out (by simp)
    have q0 := blk_cell K2 0
    have q1 := blk_cell K2 1
    have q2 := blk_cell K2 2
    have q3 := blk_cell K2 3
    have q4 := blk_cell K2 4
    have q5 := blk_cell K2 5
    have q6 := blk_cell K2 6
    have q7 := blk_cell K2 7
    simp only [List.getElem?_toArray, List.getElem?_cons_zero, List.getElem?_cons_succ] at q0 q1 q2 q3 q4 q5 q6 q7
    have qf : ∀ o, w2.frozen? ⟨c, o, none⟩ = false := fun o => blk_free K2 o
    have cl : c < w2.heap.size := (Array.getElem?_eq_some_iff.1 K2).1
    have H5 : Hid (Db w2 c d) := Lib.hid K2
    clear hg1 hg2 K2
    go_wp2_with fail
    go_end0
    exact ⟨rfl, grown_alloc (grown_set (grown_set (grown_set (G2.but _) _ _) _ _) _ _) _, overD_eq (Db.alloc (((H5.out.set (k := 5) (by omega) _).set (k := 6) (by omega) _).set (k := 7) (by omega) _) _) (overD_0 d _)⟩
  · have wp : IntKind.i64.wrap (p * 60) = p * 60 := by rw [IntKind.wrap_i64]; omega
    have H1 := Lib.hid (fun w => length_any 6 w (by decide))
    rw [show lenF.getD 6 0 = 60000000000 from rfl] at H1
    have H2 := Lib.hid (fun w => by have := of_any (p * 60) w ⟨by omega, by omega⟩; rw [W_small (by omega) (by omega)] at this; exact this)
    have H3 := Lib.hid (fun w => lay_fit (p * 60) w (by omega) (by omega))
    go_enter Tryz.func30, Tryz.ntmps30
    go_wp2_with fail
    refine (H1.out _).mono ?_
    rintro e w' ⟨rfl, hw⟩
    rw [hw]
    clear hw
    go_wp2_with fail
    refine (H2.out _).mono ?_
    rintro e w1 ⟨rfl, hg1⟩
    go_wp2_with fail
    refine (H3.out _).mono ?_
    rintro e w2 ⟨rfl, hg2⟩
    have G2 := grown_trans hg1 hg2
    have K2 : Db w2 c d := blk_grown G2 H.out (by simp)
    have q0 := blk_cell K2 0
    have q1 := blk_cell K2 1
    have q2 := blk_cell K2 2
    have q3 := blk_cell K2 3
    have q4 := blk_cell K2 4
    have q5 := blk_cell K2 5
    have q6 := blk_cell K2 6
    have q7 := blk_cell K2 7
    simp only [List.getElem?_toArray, List.getElem?_cons_zero, List.getElem?_cons_succ] at q0 q1 q2 q3 q4 q5 q6 q7
    have qf : ∀ o, w2.frozen? ⟨c, o, none⟩ = false := fun o => blk_free K2 o
    have cl : c < w2.heap.size := (Array.getElem?_eq_some_iff.1 K2).1
    have H5 : Hid (Db w2 c d) := Lib.hid K2
    clear hg1 hg2 K2
    go_wp2_with fail
    go_end0
    exact ⟨rfl, grown_alloc (grown_set (grown_set (G2.but _) _ _) _ _) _, overD_eq (Db.alloc ((H5.out.set (k := 6) (by omega) _).set (k := 7) (by omega) _) _) (overD_1 d _)⟩
  ·
    have H1 := Lib.hid (fun w => length_any 7 w (by decide))
    rw [show lenF.getD 7 0 = 1000000000 from rfl] at H1
    have H2 := Lib.hid (fun w => by have := of_any p w ⟨by omega, by omega⟩; rw [W_small (by omega) (by omega)] at this; exact this)
    have H3 := Lib.hid (fun w => lay_fit p w (by omega) (by omega))
    go_enter Tryz.func30, Tryz.ntmps30
    go_wp2_with fail
    refine (H1.out _).mono ?_
    rintro e w' ⟨rfl, hw⟩
    rw [hw]
    clear hw
    go_wp2_with fail
    refine (H2.out _).mono ?_
    rintro e w1 ⟨rfl, hg1⟩
    go_wp2_with fail
    refine (H3.out _).mono ?_
    rintro e w2 ⟨rfl, hg2⟩
    have G2 := grown_trans hg1 hg2
    have K2 : Db w2 c d := blk_grown G2 H.out (by simp)
    have q0 := blk_cell K2 0
    have q1 := blk_cell K2 1
    have q2 := blk_cell K2 2
    have q3 := blk_cell K2 3
    have q4 := blk_cell K2 4
    have q5 := blk_cell K2 5
    have q6 := blk_cell K2 6
    have q7 := blk_cell K2 7
    simp only [List.getElem?_toArray, List.getElem?_cons_zero, List.getElem?_cons_succ] at q0 q1 q2 q3 q4 q5 q6 q7
    have qf : ∀ o, w2.frozen? ⟨c, o, none⟩ = false := fun o => blk_free K2 o
    have cl : c < w2.heap.size := (Array.getElem?_eq_some_iff.1 K2).1
    have H5 : Hid (Db w2 c d) := Lib.hid K2
    clear hg1 hg2 K2
    go_wp2_with fail
    go_end0
    exact ⟨rfl, grown_alloc (grown_set (G2.but _) _ _) _, overD_eq (Db.alloc (H5.out.set (k := 7) (by omega) _) _) (overD_2 d _)⟩

end Go.Proofs.YtkhpdiilghncgaaGreatDoor
