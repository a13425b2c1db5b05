/- analemma/duration.Lay, from minutes on. -/
import Derived.Test.YtkhpdiilghncgaaGreatDoorVa
namespace Go.Proofs.YtkhpdiilghncgaaGreatDoor
open Go.RowKit Go.Shelf
set_option linter.unusedVariables false

theorem W_small {n : Int} (h : 0 ≤ n) (h' : n < 9223372036854775808) : W n = S2 n := by
  have e1 : hiW n = 0 := by unfold hiW; omega
  have e2 : loW n = n := by unfold loW; omega
  unfold W S2
  rw [e1, e2]
/-- What is left to be laid out, and what has been. -/
def restL (n : Int) : Nat → Int
  | 0 => n
  | k + 1 => restL n k % lenF.getD (k + 6) 0
def layL (n : Int) : Nat → Nat → Int
  | 0 => fun _ => 0
  | k + 1 => fun i => if i = k + 5 then restL n k / lenF.getD (k + 6) 0 else layL n k i
theorem len_pos (k : Nat) (h : k < 3) : 0 < lenF.getD (k + 6) 0 ∧ lenF.getD (k + 6) 0 < 9223372036854775808 := by
  have : k = 0 ∨ k = 1 ∨ k = 2 := by omega
  rcases this with rfl | rfl | rfl <;> exact ⟨by decide, by decide⟩
theorem restL_bd {n : Int} (h : 0 ≤ n) (h' : n < 9223372036854775808) : ∀ k, k ≤ 3 → 0 ≤ restL n k ∧ restL n k < 9223372036854775808
  | 0, _ => ⟨h, h'⟩
  | k + 1, hk => by
    have := len_pos k (by omega)
    unfold restL
    exact ⟨Int.emod_nonneg _ (by omega), Int.lt_trans (Int.emod_lt_of_pos _ this.1) this.2⟩
structure Ly (w : World) (f : Nat) (n : Int) (k : Nat) (w' : World) : Prop where
  gr : w.grownBy w' none
  tb : w'.heap[w.heap.size]? = some (.cells #[.int .i64 0, .int .u64 (restL n k)] 112 (0, 0))
  rb : Db w' (w.heap.size + 1) (fun _ => 0)
  db : Db w' (w.heap.size + 1 + 1) (layL n k)
  fb : Fb w' f (w.heap.size + 1 + 1)
theorem Ly.grow {w w' w'' : World} {f k : Nat} {n : Int} (h : Ly w f n k w') (g : w'.grownBy w'' none) : Ly w f n k w'' :=
  ⟨grown_trans h.gr g, blk_grown g h.tb (by simp), blk_grown g h.rb (by simp), blk_grown g h.db (by simp), blk_grown g h.fb (by simp)⟩
theorem Ly.drew {w w' : World} {f k : Nat} {n : Int} (h : Ly w f n k w') : Ly w f n k w'.drew := h.grow ⟨rfl, rfl, rfl, Nat.le_refl _, fun _ _ _ => rfl⟩
theorem Ly.alloc {w w' : World} {f k : Nat} {n : Int} {o : Obj} (h : Ly w f n k w') : Ly w f n k (w'.alloc o) := h.grow (World.grownBy_alloc _ _ _)
theorem Ly.lift {w w' : World} {f k : Nat} {n : Int} {P : Program} {g : FuncId} {args : Array Value} {r : Ending} (h : Calls P g args w' fun e w'' => e = r ∧ w'.grownBy w'' none) (l : Ly w f n k w') : Calls P g args w' fun e w'' => e = r ∧ Ly w f n k w'' :=
  h.mono fun e w'' ⟨h1, h2⟩ => ⟨h1, l.grow h2⟩
/-- What a callee leaves as it was. -/
structure Kept (w w' : World) : Prop where
  lt : ∀ k, k < w.heap.size → k < w'.heap.size
  blk : ∀ k, k < w.heap.size → w'.heap[k]? = w.heap[k]?
  cell : ∀ k o, k < w.heap.size → w'.cell? ⟨k, o, none⟩ = w.cell? ⟨k, o, none⟩
  frz : ∀ k o, k < w.heap.size → w'.frozen? ⟨k, o, none⟩ = w.frozen? ⟨k, o, none⟩
theorem Kept.of {w w' : World} (g : w.grownBy w' none) : Kept w w' := by
  have b : ∀ k, k < w.heap.size → w'.heap[k]? = w.heap[k]? := fun k h => g.block k h (by simp)
  refine ⟨fun k h => Nat.lt_of_lt_of_le h g.size, b, fun k o h => ?_, fun k o h => ?_⟩
  · simp only [World.cell?, b k h]
  · simp only [World.frozen?, b k h]
theorem Kept.ne1 {w w' : World} (h : Kept w w') : ∀ k, k < w.heap.size → ¬ k = w'.heap.size := fun k hk => Nat.ne_of_lt (h.lt k hk)
theorem Kept.ne2 {w w' : World} (h : Kept w w') : ∀ k, k < w.heap.size → ¬ w'.heap.size = k := fun k hk => Nat.ne_of_gt (h.lt k hk)
theorem Kept.ne3 {w w' : World} (h : Kept w w') : ∀ k, k < w.heap.size → ¬ k = w'.heap.size + 1 := fun k hk => Nat.ne_of_lt (Nat.lt_succ_of_lt (h.lt k hk))
theorem Kept.ne4 {w w' : World} (h : Kept w w') : ∀ k, k < w.heap.size → ¬ w'.heap.size + 1 = k := fun k hk => Nat.ne_of_gt (Nat.lt_succ_of_lt (h.lt k hk))
theorem Ly.setNew {w w' : World} {f k : Nat} {n : Int} (h : Ly w f n k w') (hf : w.heap.size + 1 + 1 ≤ f) {b : Nat} (hb : f < b) (o : Nat) (v : Value) : Ly w f n k (w'.setCell ⟨b, o, none⟩ v) :=
  ⟨grown_setNew h.gr (by simp; omega) _, (Below.heap_setCell _ _ _ _ (by simp; omega)).trans h.tb, (Below.heap_setCell _ _ _ _ (by simp; omega)).trans h.rb, (Below.heap_setCell _ _ _ _ (by simp; omega)).trans h.db, (Below.heap_setCell _ _ _ _ (by simp; omega)).trans h.fb⟩
theorem Ly.flt {w w' : World} {f k : Nat} {n : Int} (h : Ly w f n k w') : f < w'.heap.size := (Array.getElem?_eq_some_iff.1 h.fb).1
theorem Ly.cells {w w' : World} {f k : Nat} {n : Int} (h : Ly w f n k w') : w'.cell? ⟨w.heap.size, 0, none⟩ = some (.int .i64 0) ∧ w'.cell? ⟨w.heap.size, 1, none⟩ = some (.int .u64 (restL n k)) ∧ Ly w f n k w' := ⟨blk_cell h.tb 0, blk_cell h.tb 1, h⟩

theorem Ly.step {w w' : World} {f k : Nat} {n q : Int} (h : Ly w f n k w') (hk : k < 3) (hq : layL n (k + 1) = fun i => if i = k + 5 then q else layL n k i) (hf : w.heap.size + 1 + 1 < f) :
    Ly w f n (k + 1) (((w'.setCell ⟨w.heap.size + 1 + 1, k + 5, none⟩ (.int .i64 q)).setCell ⟨w.heap.size, 0, none⟩ (.int .i64 0)).setCell ⟨w.heap.size, 1, none⟩ (.int .u64 (restL n (k + 1)))).drew := by
  have hd := h.db.set (show k + 5 < 8 by omega) q
  rw [← hq] at hd
  have ht : (w'.setCell ⟨w.heap.size + 1 + 1, k + 5, none⟩ (.int .i64 q)).heap[w.heap.size]? = some (.cells #[.int .i64 0, .int .u64 (restL n k)] 112 (0, 0)) := (Below.heap_setCell _ _ _ _ (by simp only; omega)).trans h.tb
  refine ⟨?_, ?_, ?_, ?_, ?_⟩
  · exact grown_drewN (grown_setNew (grown_setNew (grown_setNew h.gr (by simp only; omega) _) (Nat.le_refl _) _) (Nat.le_refl _) _) 1
  · show (((w'.setCell ⟨w.heap.size + 1 + 1, k + 5, none⟩ (.int .i64 q)).setCell ⟨w.heap.size, 0, none⟩ (.int .i64 0)).setCell ⟨w.heap.size, 1, none⟩ (.int .u64 (restL n (k + 1)))).heap[w.heap.size]? = _
    generalize w'.setCell ⟨w.heap.size + 1 + 1, k + 5, none⟩ (.int .i64 q) = X at ht
    simp [World.setCell, Array.getElem?_modify, ht]
  · exact (Below.heap_setCell _ _ _ _ (by simp only; omega)).trans ((Below.heap_setCell _ _ _ _ (by simp only; omega)).trans ((Below.heap_setCell _ _ _ _ (by simp only; omega)).trans h.rb))
  · exact (Below.heap_setCell _ _ _ _ (by simp only; omega)).trans ((Below.heap_setCell _ _ _ _ (by simp only; omega)).trans hd)
  · exact (Below.heap_setCell _ _ _ _ (by simp only; omega)).trans ((Below.heap_setCell _ _ _ _ (by simp only; omega)).trans ((Below.heap_setCell _ _ _ _ (by simp only; omega)).trans h.fb))
set_option maxRecDepth 100000 in
set_option maxHeartbeats 10000000 in
theorem lay_any (n : Int) (w : World) (h : 0 ≤ n) (h' : n < 9223372036854775808) (hr : rightD (layL n 3) = true) (h64 : D64 (layL n 3)) :
    Calls Tryz.prog 59 #[S2 n, .int .i64 6] w fun e w' => e = .returned (.tuple #[.agg (dcells (layL n 3)), .int .i64 0]) ∧ w.grownBy w' none := by
  have HB := Lib.hid (restL_bd h h')
  have H9 := Lib.hid (fun w => right_any (layL n 3) w h64)
  rw [hr] at H9
  have H0 := Lib.hid (fun w => length_any 6 w (by decide))
  clear h h' hr h64
  go_enter Tryz.func59, Tryz.ntmps59
  go_wp2_with fail
  refine (H0.out _).mono ?_
  rintro e w' ⟨rfl, hw⟩
  rw [hw]
  clear hw
  rw [show lenF.getD 6 0 = 60000000000 from rfl]
  go_wp2_with fail
  refine (fields_any _ _).mono ?_
  rintro e w1 ⟨rfl, hg, hf⟩
  have L0 : Ly w (w.heap.size + 1 + 1 + 1) n 0 w1 := by
    refine ⟨?_, ?_, ?_, ?_, ?_⟩
    · refine grown_trans ?_ hg
      repeat (first
        | assumption
        | exact grown_refl _ _
        | apply grown_alloc
        | (refine grown_setNew ?_ ?hside _; case hside => first | (simp; done) | (simp; omega) | omega))
    · refine blk_grown hg ?_ (by simp)
      repeat (first
        | assumption
        | (refine alloc_at' _ _ _ ?_; first | rfl | (simp; done))
        | (refine (Below.heap_alloc _ _ _ ?hside).trans ?_; case hside => first | (simp; done) | (simp; omega) | omega)
        | (refine (Below.heap_setCell _ _ _ _ ?hside).trans ?_; case hside => first | (simp; done) | (simp; omega) | omega))
    · refine blk_grown hg ?_ (by simp)
      repeat (first
        | assumption
        | (refine alloc_at' _ _ _ ?_; first | rfl | (simp; done))
        | (refine (Below.heap_alloc _ _ _ ?hside).trans ?_; case hside => first | (simp; done) | (simp; omega) | omega)
        | (refine (Below.heap_setCell _ _ _ _ ?hside).trans ?_; case hside => first | (simp; done) | (simp; omega) | omega))
    · refine blk_grown hg ?_ (by simp)
      repeat (first
        | assumption
        | (refine alloc_at' _ _ _ ?_; first | rfl | (simp; done))
        | (refine (Below.heap_alloc _ _ _ ?hside).trans ?_; case hside => first | (simp; done) | (simp; omega) | omega)
        | (refine (Below.heap_setCell _ _ _ _ ?hside).trans ?_; case hside => first | (simp; done) | (simp; omega) | omega))
    · rw [heap_alloc_size, heap_alloc_size, heap_alloc_size] at hf
      exact hf
  clear hg hf
  go_wp2_with fail
  go_loopg [1] 3 (fun m v1 wr => ∃ k : Nat, m = 3 - k ∧ v1 = .int .i64 ((k : Int) + 6) ∧ k ≤ 3 ∧ Ly w (w.heap.size + 1 + 1 + 1) n k wr)
  case atStart => exact ⟨0, rfl, rfl, by omega, L0⟩
  case round =>
    obtain ⟨k, rfl, rfl, hk, L⟩ := hrel
    clear L0
    by_cases hlt : k < 3
    · have dlt : decide ((k : Int) + 6 ≤ 8) = true := by simp; omega
      have H1 := Lib.hid (fun w => by have := length_any (k + 6) w (by omega); rw [show ((k + 6 : Nat) : Int) = (k : Int) + 6 from rfl] at this; exact this)
      obtain ⟨lp1, lp2⟩ := len_pos k hlt
      obtain ⟨rp1, rp2⟩ := HB.out k (by omega)
      obtain ⟨sp1, sp2⟩ := HB.out (k + 1) (by omega)
      have H2 := Lib.hid (fun w => by have := of_any (lenF.getD (k + 6) 0) w ⟨by omega, by omega⟩; rw [W_small (by omega) lp2] at this; exact this)
      have H3 := Lib.hid (fun w => trunc_any (restL n k) (lenF.getD (k + 6) 0) w rp1 lp1 rp2 lp2)
      have hrest : Hid (restL n k % lenF.getD (k + 6) 0 = restL n (k + 1)) := rfl
      rw [hrest.out] at H3
      have q1 : 0 ≤ restL n k / lenF.getD (k + 6) 0 := Int.ediv_nonneg rp1 (by omega)
      have q2 : restL n k / lenF.getD (k + 6) 0 ≤ restL n k := Int.ediv_le_self _ rp1
      have H4 := Lib.hid (fun w => by have := int_yes (restL n k / lenF.getD (k + 6) 0) w ⟨by omega, by omega⟩; rw [W_small q1 (by omega)] at this; exact this)
      have HQ : Hid (layL n (k + 1) = fun i => if i = k + 5 then restL n k / lenF.getD (k + 6) 0 else layL n k i) := rfl
      generalize lenF.getD (k + 6) 0 = len at *
      generalize restL n k / len = q at *
      clear lp1 lp2 rp1 rp2 sp1 sp2 q1 q2 hrest
      have HL := Lib.hid L
      go_wp2_with fail
      have hfl : w.heap.size + 1 + 1 + 1 < wr.heap.size := (Array.getElem?_eq_some_iff.1 L.fb).1
      go_cut [8, 9] (fun v8 v9 wx => ∃ b8 b9 : Nat, v8 = .pointer (some ⟨b8, 0, none⟩) ∧ v9 = .pointer (some ⟨b9, 0, none⟩) ∧ w.heap.size + 1 + 1 + 1 < b9 ∧ Ly w (w.heap.size + 1 + 1 + 1) n k wx ∧
        wx.cell? ⟨b8, 0, none⟩ = some (.int .i64 0) ∧ wx.cell? ⟨b8, 1, none⟩ = some (.int .u64 q) ∧ wx.cell? ⟨b9, 0, none⟩ = some (.int .i64 0) ∧ wx.cell? ⟨b9, 1, none⟩ = some (.int .u64 (restL n (k + 1))))
      case first =>
        go_region_held3 (fun w' => w'.cell? ⟨w.heap.size, 0, none⟩ = some (.int .i64 0) ∧ w'.cell? ⟨w.heap.size, 1, none⟩ = some (.int .u64 (restL n k)) ∧ Ly w (w.heap.size + 1 + 1 + 1) n k w') ((refine Ly.cells ?_; repeat (first | assumption | exact L.drew | apply Ly.alloc | apply Ly.drew | (refine Ly.setNew ?_ ?_ ?_ _ _; rotate_left; (omega); (omega)))))
          (first
            | (go_at_call 58; refine (H1.out _).mono ?_; rintro e w' ⟨rfl, hw⟩; rw [hw]; clear hw)
            | (go_at_call 60; refine (H2.out _).mono ?_; rintro e w' ⟨rfl, hg⟩; have hly := ((‹_ ∧ _ ∧ Ly w (w.heap.size + 1 + 1 + 1) n k _›).2.2).grow hg; have hfw := hly.flt; have hk1 := (Kept.of hg).lt; have hk2 := (Kept.of hg).blk; have hk3 := (Kept.of hg).cell; have hk4 := (Kept.of hg).frz; have hg0 := hg; have hn1 := (Kept.of hg).ne1; have hn2 := (Kept.of hg).ne2; have hn3 := (Kept.of hg).ne3; have hn4 := (Kept.of hg).ne4)
            | (go_at_call 99; refine (H3.out _).mono ?_; rintro e w' ⟨rfl, hg⟩; have hly := ((‹_ ∧ _ ∧ Ly w (w.heap.size + 1 + 1 + 1) n k _›).2.2).grow hg; have hfw := hly.flt; have hk1 := (Kept.of hg).lt; have hk2 := (Kept.of hg).blk; have hk3 := (Kept.of hg).cell; have hk4 := (Kept.of hg).frz; have hgt := grown_trans hg0 (grown_trans (by repeat (first | exact grown_refl _ _ | apply grown_alloc)) hg); have hj1 := (Kept.of hgt).lt; have hj2 := (Kept.of hgt).blk; have hj3 := (Kept.of hgt).cell; have hj4 := (Kept.of hgt).frz; have hm1 := (Kept.of hg).ne1; have hm2 := (Kept.of hg).ne2; have hm3 := (Kept.of hg).ne3; have hm4 := (Kept.of hg).ne4; have ho1 := (Kept.of hgt).ne1; have ho2 := (Kept.of hgt).ne2; have ho3 := (Kept.of hgt).ne3; have ho4 := (Kept.of hgt).ne4))
        all_goals
          have hly9 := (‹_ ∧ _ ∧ Ly w (w.heap.size + 1 + 1 + 1) n k _›).2.2
          go_wp2_with fail
          go_meet
          refine ⟨_, _, rfl, rfl, ?_, hly9, ?_, ?_, ?_, ?_⟩
          · omega
          all_goals first | (simp only [World.cell?_alloc2_new, World.cell?_alloc2_first, List.getElem?_toArray, List.getElem?_cons_zero, List.getElem?_cons_succ]; done) | (simp (maxDischargeDepth := 8) [*, go_sem]; done)
      case rest =>
        clear L
        obtain ⟨b8, b9, rfl, rfl, hb9, L, q0, q1, q2, q3⟩ := hcut
        go_wp2_with fail
        refine (H4.out _).mono ?_
        rintro e w3 ⟨rfl, hg⟩
        have L3 := L.grow hg
        have r2 := hg.cell q2 (by simp)
        have r3 := hg.cell q3 (by simp)
        have c0 := (blk_cell L3.fb (k + 5 + 1)).trans (fcells_at (w.heap.size + 1 + 1) (k + 5) (by omega))
        rw [show k + 5 + 1 = k + 6 from by omega] at c0
        have c1 := (blk_cell L3.db (k + 5)).trans (dcells_at _ (k + 5) (by omega))
        have c2 := blk_free L3.db (k + 5)
        have t0 := blk_cell L3.tb 0
        have t1 := blk_cell L3.tb 1
        have t2 := blk_free L3.tb 0
        have t3 := blk_free L3.tb 1
        simp only [List.getElem?_toArray, List.getElem?_cons_zero, List.getElem?_cons_succ] at t0 t1
        have i9 : (k : Int) + 6 < 9 := by omega
        have i0 : (0 : Int) ≤ (k : Int) + 6 := by omega
        go_wp2_with fail
        have tn : ((k : Int) + 6).toNat = k + 6 := by omega
        have n1 : w.heap.size + 1 + 1 ≠ b9 := by omega
        have n2 : w.heap.size ≠ b9 := by omega
        have HL3 := Lib.hid L3
        go_region_held3 (fun w' => w'.cell? ⟨w.heap.size + 1 + 1 + 1, k + 6, none⟩ = some (.pointer (some ⟨w.heap.size + 1 + 1, k + 5, none⟩)) ∧ w'.cell? ⟨b9, 0, none⟩ = some (.int .i64 0) ∧ w'.cell? ⟨b9, 1, none⟩ = some (.int .u64 (restL n (k + 1)))) (simp [*, go_sem, World.cell?_setCell_far]) (fail)
        go_wp2_with fail
        go_roundg (3 - (k + 1))
        case rel => exact ⟨k + 1, rfl, by go_num, by omega, HL3.out.step hlt HQ.out (by omega)⟩
        case measure => omega
    · have dlt : decide ((k : Int) + 6 ≤ 8) = false := by simp; omega
      have hk3 : k = 3 := by omega
      subst hk3
      have hdb := L.db
      have q0 := blk_cell hdb 0
      have q1 := blk_cell hdb 1
      have q2 := blk_cell hdb 2
      have q3 := blk_cell hdb 3
      have q4 := blk_cell hdb 4
      have q5 := blk_cell hdb 5
      have q6 := blk_cell hdb 6
      have q7 := blk_cell hdb 7
      simp only [List.getElem?_toArray, List.getElem?_cons_zero, List.getElem?_cons_succ] at q0 q1 q2 q3 q4 q5 q6 q7
      have HL := Lib.hid L
      clear L hdb
      go_wp2_with fail
      refine (H9.out _).mono ?_
      rintro e w2 ⟨rfl, hg⟩
      have L2 := HL.out.grow hg
      have hdb := L2.db
      have q0 := blk_cell hdb 0
      have q1 := blk_cell hdb 1
      have q2 := blk_cell hdb 2
      have q3 := blk_cell hdb 3
      have q4 := blk_cell hdb 4
      have q5 := blk_cell hdb 5
      have q6 := blk_cell hdb 6
      have q7 := blk_cell hdb 7
      simp only [List.getElem?_toArray, List.getElem?_cons_zero, List.getElem?_cons_succ] at q0 q1 q2 q3 q4 q5 q6 q7
      have hrb := L2.rb
      have p0 := blk_cell hrb 0
      have p1 := blk_cell hrb 1
      have p2 := blk_cell hrb 2
      have p3 := blk_cell hrb 3
      have p4 := blk_cell hrb 4
      have p5 := blk_cell hrb 5
      have p6 := blk_cell hrb 6
      have p7 := blk_cell hrb 7
      simp only [List.getElem?_toArray, List.getElem?_cons_zero, List.getElem?_cons_succ] at p0 p1 p2 p3 p4 p5 p6 p7
      have pf : ∀ o, w2.frozen? ⟨w.heap.size + 1, o, none⟩ = false := fun o => blk_free hrb o
      have HL2 := Lib.hid L2
      clear L2 hdb hrb
      go_wp2_with fail
      refine bodyPost_ret (v := .tuple #[.agg (dcells (layL n 3)), .int .i64 0]) (by simp [results, Tryz.results59, go_sem, p0, p1, p2, p3, p4, p5, p6, p7]) rfl ⟨rfl, ?_⟩
      iterate 8 refine grown_setNew ?_ (by simp) _
      exact HL2.out.gr

end Go.Proofs.YtkhpdiilghncgaaGreatDoor
