/- The reference's clock. -/
import Derived.Test.YtkhpdiilghncgaaGreatDoorRa
namespace Go.Proofs.YtkhpdiilghncgaaGreatDoor
open Go.RowKit
set_option linter.unusedVariables false

theorem two_yes_num {s : ByteArray} {i hi v : Nat} (h : two s i 0 hi = some v) : numN (num s 2 i 0) = v ∧ v ≤ hi := by
  unfold two at h
  cases hn : num s 2 i 0 with
  | none => rw [hn] at h; cases h
  | some x =>
    rw [hn] at h
    by_cases hr : 0 ≤ x ∧ x ≤ hi
    · simp only [hr, and_self, if_true, Option.some.injEq] at h
      subst h; exact ⟨rfl, hr.2⟩
    · simp only [hr, if_false] at h; cases h
theorem two_no_num {s : ByteArray} {i hi : Nat} (h : two s i 0 hi = none) : numN (num s 2 i 0) = -1 ∨ (hi : Int) < numN (num s 2 i 0) ∧ 0 ≤ numN (num s 2 i 0) := by
  unfold two at h
  cases hn : num s 2 i 0 with
  | none => exact .inl rfl
  | some x =>
    rw [hn] at h
    by_cases hr : 0 ≤ x ∧ x ≤ hi
    · simp [hr] at h
    · right; simp only [numN]; omega
theorem numN_bd (s : ByteArray) (i : Nat) : -1 ≤ numN (num s 2 i 0) ∧ numN (num s 2 i 0) ≤ 99 := by
  cases hn : num s 2 i 0 with
  | none => simp [numN]
  | some x => have := (num_lt hn).1; simp only [numN]; omega
/-- What clock hands back. -/
def CPost (r : Option (Nat × Nat × Nat × Nat × Nat)) (e : Ending) : Prop := match r with
  | some (h, m, x, n, k) => e = .returned (.tuple #[.agg #[.int .i64 (h : Int), .int .i64 (m : Int), .int .i64 (x : Int)], .int .i64 (n : Int), .int .i64 (k : Int)])
  | none => ∃ a b c : Int, e = .returned (.tuple #[.agg #[.int .i64 a, .int .i64 b, .int .i64 c], .int .i64 0, .int .i64 (-1)])
/-- The two blocks of clock. -/
structure CK (w : World) (a b c : Int) (wr : World) : Prop where
  gr : w.grownBy wr none
  b0 : wr.heap[w.heap.size]? = some (.cells #[.int .i64 0, .int .i64 0, .int .i64 0] 92 (0, 0))
  b1 : wr.heap[w.heap.size + 1]? = some (.cells #[.int .i64 a, .int .i64 b, .int .i64 c] 92 (0, 0))
theorem CK.dr {w wr wr' : World} {a b c : Int} (h : CK w a b c wr) (d : Dr wr wr') : CK w a b c wr' := by
  obtain ⟨n, rfl⟩ := d
  exact ⟨grown_drewN h.gr n, h.b0, h.b1⟩
set_option maxHeartbeats 400000 in
theorem rclock_no {s : ByteArray} {i most : Nat} {w : World} (hs : s.size ≤ 140737488351232) (hi : i ≤ s.size + 1) (hm : most ≤ 60) (h0 : two s i 0 23 = none) :
    Calls Tryz.prog 49 #[.string s, .int .i64 i, .int .i64 most] w fun e w' => (∃ a b c : Int, e = .returned (.tuple #[.agg #[.int .i64 a, .int .i64 b, .int .i64 c], .int .i64 0, .int .i64 (-1)])) ∧ w.grownBy w' none := by
  have HN := Lib.hid (fun w => rnumber_any s i 2 w hs (by omega) (by omega) (iv := i) (nv := 2) rfl rfl)
  have hb := numN_bd s i
  have ht := two_no_num h0
  clear h0
  generalize numN (num s 2 i 0) = n at *
  have grn : ∀ o1 o2, w.grownBy ((w.alloc o1).alloc o2) none := fun o1 o2 => grown_alloc (grown_alloc (grown_refl _ _) _) _
  cases hneg : decide (n < 0) with
  | true =>
    go_enter Tryz.func49, Tryz.ntmps49
    go_wp2_with (refine (HN.out _).mono ?_; rintro e w1 ⟨rfl, rfl⟩)
    exact bodyPost_ret (v := .tuple #[.agg #[.int .i64 n, .int .i64 0, .int .i64 0], .int .i64 0, .int .i64 (-1)]) (by simp [results, Tryz.results49, go_sem]) rfl ⟨⟨_, _, _, rfl⟩, grn _ _⟩
  | false =>
    have h2 : decide (23 < n) = true := by simp at hneg; simp; omega
    go_enter Tryz.func49, Tryz.ntmps49
    go_wp2_with (refine (HN.out _).mono ?_; rintro e w1 ⟨rfl, rfl⟩)
    exact bodyPost_ret (v := .tuple #[.agg #[.int .i64 n, .int .i64 0, .int .i64 0], .int .i64 0, .int .i64 (-1)]) (by simp [results, Tryz.results49, go_sem]) rfl ⟨⟨_, _, _, rfl⟩, grn _ _⟩

/-- What is left of a clock: minutes, seconds. -/
def clkR (s : ByteArray) (L : Bool) (most h : Nat) : Nat → Nat → Nat → Nat → Option (Nat × Nat × Nat × Nat × Nat)
  | 0, p, m, x => some (h, m, x, 3, p)
  | f + 1, p, m, x => if more s p L then match two s (p + gap L) 0 (if f = 0 then most else 59) with
      | none => none
      | some v => clkR s L most h f (p + gap L + 2) (if f = 0 then m else v) (if f = 0 then v else x)
    else some (h, m, x, 2 - f, p)
theorem clkR_none {s : ByteArray} {L : Bool} {most h f p m x : Nat} (hm : more s p L = true) (ht : two s (p + gap L) 0 (if f = 0 then most else 59) = none) : clkR s L most h (f + 1) p m x = none := by
  unfold clkR; rw [if_pos hm, ht]
theorem clkR_some {s : ByteArray} {L : Bool} {most h f p m x v : Nat} (hm : more s p L = true) (ht : two s (p + gap L) 0 (if f = 0 then most else 59) = some v) : clkR s L most h (f + 1) p m x = clkR s L most h f (p + gap L + 2) (if f = 0 then m else v) (if f = 0 then v else x) := by
  conv => lhs; unfold clkR
  rw [if_pos hm, ht]
theorem clock_R {s : ByteArray} {i most h : Nat} (h0 : two s i 0 23 = some h) : clock s i most = clkR s (lng s (i + 2)) most h 2 (i + 2) 0 0 := by
  unfold clock
  rw [h0]
  rfl
structure RCL (s : ByteArray) (i most h : Nat) (w : World) (f p m x : Nat) (wr : World) : Prop where
  ck : CK w h m x wr
  eq : clock s i most = clkR s (lng s (i + 2)) most h f p m x
  le : p ≤ s.size + 1
theorem RCL.dr {s : ByteArray} {i most h f p m x : Nat} {w wr wr' : World} (c : RCL s i most h w f p m x wr) (d : Dr wr wr') : RCL s i most h w f p m x wr' := ⟨c.ck.dr d, c.eq, c.le⟩
theorem CK.set1 {w wr : World} {a b c : Int} (h : CK w a b c wr) (v : Int) : CK w a v c (wr.setCell ⟨w.heap.size + 1, 1, none⟩ (.int .i64 v)) :=
  ⟨grown_setNew h.gr (by simp) _, (Below.heap_setCell _ _ _ _ (by simp)).trans h.b0, by simp [World.setCell, Array.getElem?_modify, h.b1]⟩
theorem CK.set2 {w wr : World} {a b c : Int} (h : CK w a b c wr) (v : Int) : CK w a b v (wr.setCell ⟨w.heap.size + 1, 2, none⟩ (.int .i64 v)) :=
  ⟨grown_setNew h.gr (by simp) _, (Below.heap_setCell _ _ _ _ (by simp)).trans h.b0, by simp [World.setCell, Array.getElem?_modify, h.b1]⟩
theorem CK.out {w wr : World} {a b c : Int} (h : CK w a b c wr) (x y z : Value) : w.grownBy (((wr.setCell ⟨w.heap.size, 0, none⟩ x).setCell ⟨w.heap.size, 1, none⟩ y).setCell ⟨w.heap.size, 2, none⟩ z) none :=
  grown_setNew (grown_setNew (grown_setNew h.gr (by simp) _) (by simp) _) (by simp) _
theorem CK.start (w : World) (h : Int) : CK w h 0 0 ((w.alloc (.cells #[.int .i64 0, .int .i64 0, .int .i64 0] 92)).alloc (.cells #[.int .i64 h, .int .i64 0, .int .i64 0] 92)) :=
  ⟨grown_alloc (grown_alloc (grown_refl _ _) _) _, (Below.heap_alloc _ _ _ (by simp)).trans (blk_new _ _), by have := blk_new (w.alloc (.cells #[.int .i64 0, .int .i64 0, .int .i64 0] 92)) (.cells #[.int .i64 h, .int .i64 0, .int .i64 0] 92); simpa using this⟩
set_option maxHeartbeats 1000000 in
theorem rclock_yes {s : ByteArray} {i most h : Nat} {w : World} (hs : s.size ≤ 140737488351232) (hi : i ≤ s.size + 1) (hm : most ≤ 60) (h0 : two s i 0 23 = some h) :
    Calls Tryz.prog 49 #[.string s, .int .i64 i, .int .i64 most] w fun e w' => CPost (clock s i most) e ∧ w.grownBy w' none := by
  have HN := Lib.hid (fun w => rnumber_any s i 2 w hs (by omega) (by omega) (iv := i) (nv := 2) rfl rfl)
  obtain ⟨e0, hh⟩ := two_yes_num h0
  rw [e0] at HN
  have HC := Lib.hid (clock_R (most := most) h0)
  have H20 := Lib.hid (fun w => ris_any s (i + 2) ⟨#[58]⟩ w hs (by omega) (by decide) (iv := (i : Int) + 2) (by omega))
  rw [isOne_1 s (i + 2) 58 (by decide)] at H20
  have hi2 : i + 2 ≤ s.size + 1 := by have := (two_bd h0).2.2; omega
  clear e0 h0
  have hn1 : decide ((h : Int) < 0) = false := by simp
  have hn2 : decide ((23 : Int) < (h : Int)) = false := by simp; omega
  cases hL : lng s (i + 2) with
  | true =>
    have e58 : decide (nx s (i + 2) = UInt8.toNat 58) = true := hL
    rw [e58] at H20
    have HL := Lib.hid hL
    clear e58 hL
    go_enter Tryz.func49, Tryz.ntmps49
    go_wp2_with (first | (refine (HN.out _).mono ?_; rintro e w1 ⟨rfl, rfl⟩) | (refine (H20.out _).mono ?_; rintro e w1 ⟨rfl, hd⟩))
    have RCL1 : RCL s i most h w 2 (i + 2) 0 0 w1 := ⟨CK.dr (CK.start w _) hd, HC.out, hi2⟩
    clear hd hn1 hn2
    go_loopw [1, 11, 12] (fun p k _ wr => ∃ f pp m x : Nat, (f = 0 ∧ k = .int .i64 3 ∨ f = 1 ∧ k = .int .i64 2 ∨ f = 2 ∧ k = .int .i64 1) ∧ p = .int .i64 pp ∧ RCL s i most h w f pp m x wr) (fun _ k _ _ => 3 - (intOf k).toNat)
    case atStart => exact ⟨2, i + 2, 0, 0, .inr (.inr ⟨rfl, rfl⟩), rfl, RCL1⟩
    case round =>
      obtain ⟨f, pp, m, x, hf, rfl, hc⟩ := hrel
      have HQ := Lib.hid hc.eq
      have HK := Lib.hid hc.ck
      have hp := hc.le
      clear hc
      have hI := fun w => isOne_1 s pp 58 (by decide) ▸ ris_any s pp ⟨#[58]⟩ w hs (by omega) (by decide) (iv := (pp : Int)) rfl
      have HI := Lib.hid hI
      clear hI
      rcases hf with ⟨rfl, rfl⟩ | ⟨rfl, rfl⟩ | ⟨rfl, rfl⟩
      ·
        have q0 := blk_cell HK.out.b1 0
        have q1 := blk_cell HK.out.b1 1
        have q2 := blk_cell HK.out.b1 2
        have z0 := blk_cell HK.out.b0 0
        have z1 := blk_cell HK.out.b0 1
        have z2 := blk_cell HK.out.b0 2
        have qf : ∀ o, wr.frozen? ⟨w.heap.size + 1, o, none⟩ = false := fun o => blk_free HK.out.b1 o
        have zf : ∀ o, wr.frozen? ⟨w.heap.size, o, none⟩ = false := fun o => blk_free HK.out.b0 o
        simp only [List.getElem?_toArray, List.getElem?_cons_zero, List.getElem?_cons_succ] at q0 q1 q2 z0 z1 z2
        have HZ := Lib.hid (show clock s i most = some (h, m, x, 3, pp) from HQ.out)
        go_wp2_with fail
        exact bodyPost_ret (v := .tuple #[.agg #[.int .i64 (h : Int), .int .i64 (m : Int), .int .i64 (x : Int)], .int .i64 3, .int .i64 (pp : Int)]) (by simp [results, Tryz.results49, go_sem, q0, q1, q2, z0, z1, z2]) rfl ⟨by rw [HZ.out]; rfl, HK.out.out _ _ _⟩
      ·
        cases hmo : decide (nx s pp = UInt8.toNat 58) with
        | false =>
          have HZ := Lib.hid (show clock s i most = some (h, m, x, 2, pp) by rw [HQ.out, HL.out]; unfold clkR; exact if_neg (by rw [show more s pp true = decide (nx s pp = UInt8.toNat 58) from rfl, hmo]; simp))
          rw [hmo] at HI
          go_wp2_with fail
          refine (HI.out _).mono ?_
          rintro e w2 ⟨rfl, hd2⟩
          have HK := HK.out.dr hd2
          clear hd2
          have q0 := blk_cell HK.b1 0
          have q1 := blk_cell HK.b1 1
          have q2 := blk_cell HK.b1 2
          have z0 := blk_cell HK.b0 0
          have z1 := blk_cell HK.b0 1
          have z2 := blk_cell HK.b0 2
          have qf : ∀ o, w2.frozen? ⟨w.heap.size + 1, o, none⟩ = false := fun o => blk_free HK.b1 o
          have zf : ∀ o, w2.frozen? ⟨w.heap.size, o, none⟩ = false := fun o => blk_free HK.b0 o
          simp only [List.getElem?_toArray, List.getElem?_cons_zero, List.getElem?_cons_succ] at q0 q1 q2 z0 z1 z2
          go_wp2_with fail
          exact bodyPost_ret (v := .tuple #[.agg #[.int .i64 (h : Int), .int .i64 (m : Int), .int .i64 (x : Int)], .int .i64 2, .int .i64 (pp : Int)]) (by simp [results, Tryz.results49, go_sem, q0, q1, q2, z0, z1, z2]) rfl ⟨by rw [HZ.out]; rfl, HK.out _ _ _⟩
        | true =>
          rw [hmo] at HI
          cases htw : two s (pp + gap true) 0 most with
          | none =>
            have HZ := Lib.hid (show clock s i most = none by rw [HQ.out, HL.out]; exact clkR_none hmo htw)
            have hN := fun w => rnumber_any s (pp + gap true) 2 w hs (by have := gap_le true; omega) (by omega) (iv := (pp : Int) + 1) (nv := 2) (by simp [gap]) rfl
            have ht := two_no_num htw
            clear htw
            generalize numN (num s 2 (pp + gap true) 0) = n at *
            have HN2 := Lib.hid hN
            clear hN
            cases hneg : decide (n < 0) with
            | true =>
              go_wp2_with fail
              refine (HI.out _).mono ?_
              rintro e w2 ⟨rfl, hd2⟩
              have HK := HK.out.dr hd2
              clear hd2
              have q0 := blk_cell HK.b1 0
              have q1 := blk_cell HK.b1 1
              have q2 := blk_cell HK.b1 2
              have z0 := blk_cell HK.b0 0
              have z1 := blk_cell HK.b0 1
              have z2 := blk_cell HK.b0 2
              have qf : ∀ o, w2.frozen? ⟨w.heap.size + 1, o, none⟩ = false := fun o => blk_free HK.b1 o
              have zf : ∀ o, w2.frozen? ⟨w.heap.size, o, none⟩ = false := fun o => blk_free HK.b0 o
              simp only [List.getElem?_toArray, List.getElem?_cons_zero, List.getElem?_cons_succ] at q0 q1 q2 z0 z1 z2
              go_wp2_with fail
              refine (HN2.out _).mono ?_
              rintro e w3 ⟨rfl, hw⟩
              rw [hw]; clear hw
              go_wp2_with fail
              exact bodyPost_ret (v := .tuple #[.agg #[.int .i64 (h : Int), .int .i64 (m : Int), .int .i64 n], .int .i64 0, .int .i64 (-1)]) (by simp [results, Tryz.results49, go_sem, q0, q1, q2, z0, z1, z2]) rfl ⟨by rw [HZ.out]; exact ⟨_, _, _, rfl⟩, (HK.set2 n).out _ _ _⟩
            | false =>
              have hN9 : decide ((most : Int) < n) = true := by simp at hneg; simp; omega
              go_wp2_with fail
              refine (HI.out _).mono ?_
              rintro e w2 ⟨rfl, hd2⟩
              have HK := HK.out.dr hd2
              clear hd2
              have q0 := blk_cell HK.b1 0
              have q1 := blk_cell HK.b1 1
              have q2 := blk_cell HK.b1 2
              have z0 := blk_cell HK.b0 0
              have z1 := blk_cell HK.b0 1
              have z2 := blk_cell HK.b0 2
              have qf : ∀ o, w2.frozen? ⟨w.heap.size + 1, o, none⟩ = false := fun o => blk_free HK.b1 o
              have zf : ∀ o, w2.frozen? ⟨w.heap.size, o, none⟩ = false := fun o => blk_free HK.b0 o
              simp only [List.getElem?_toArray, List.getElem?_cons_zero, List.getElem?_cons_succ] at q0 q1 q2 z0 z1 z2
              go_wp2_with fail
              refine (HN2.out _).mono ?_
              rintro e w3 ⟨rfl, hw⟩
              rw [hw]; clear hw
              go_wp2_with fail
              exact bodyPost_ret (v := .tuple #[.agg #[.int .i64 (h : Int), .int .i64 (m : Int), .int .i64 n], .int .i64 0, .int .i64 (-1)]) (by simp [results, Tryz.results49, go_sem, q0, q1, q2, z0, z1, z2]) rfl ⟨by rw [HZ.out]; exact ⟨_, _, _, rfl⟩, (HK.set2 n).out _ _ _⟩
          | some v =>
            have hN := fun w => rnumber_any s (pp + gap true) 2 w hs (by have := gap_le true; omega) (by omega) (iv := (pp : Int) + 1) (nv := 2) (by simp [gap]) rfl
            obtain ⟨e9, hv9⟩ := two_yes_num htw
            rw [e9] at hN
            have HN2 := Lib.hid hN
            have HZ := Lib.hid (show clock s i most = clkR s (lng s (i + 2)) most h 0 (pp + gap true + 2) m v by rw [HQ.out, HL.out]; exact clkR_some hmo htw)
            have hle : pp + gap true + 2 ≤ s.size + 1 := by have := (two_bd htw).2.2; omega
            clear hN e9 htw
            have hn1 : decide ((v : Int) < 0) = false := by simp
            have hn2 : decide ((most : Int) < (v : Int)) = false := by simp; omega
            go_wp2_with fail
            refine (HI.out _).mono ?_
            rintro e w2 ⟨rfl, hd2⟩
            have HK := HK.out.dr hd2
            clear hd2
            have q0 := blk_cell HK.b1 0
            have q1 := blk_cell HK.b1 1
            have q2 := blk_cell HK.b1 2
            have z0 := blk_cell HK.b0 0
            have z1 := blk_cell HK.b0 1
            have z2 := blk_cell HK.b0 2
            have qf : ∀ o, w2.frozen? ⟨w.heap.size + 1, o, none⟩ = false := fun o => blk_free HK.b1 o
            have zf : ∀ o, w2.frozen? ⟨w.heap.size, o, none⟩ = false := fun o => blk_free HK.b0 o
            simp only [List.getElem?_toArray, List.getElem?_cons_zero, List.getElem?_cons_succ] at q0 q1 q2 z0 z1 z2
            go_wp2_with fail
            refine (HN2.out _).mono ?_
            rintro e w3 ⟨rfl, hw⟩
            rw [hw]; clear hw
            go_wp2_with fail
            go_roundw
            case rel => exact ⟨0, pp + gap true + 2, _, _, by simp, by simp [gap], ⟨HK.set2 v, HZ.out, hle⟩⟩
            case measure => simp [intOf]
      ·
        cases hmo : decide (nx s pp = UInt8.toNat 58) with
        | false =>
          have HZ := Lib.hid (show clock s i most = some (h, m, x, 1, pp) by rw [HQ.out, HL.out]; unfold clkR; exact if_neg (by rw [show more s pp true = decide (nx s pp = UInt8.toNat 58) from rfl, hmo]; simp))
          rw [hmo] at HI
          go_wp2_with fail
          refine (HI.out _).mono ?_
          rintro e w2 ⟨rfl, hd2⟩
          have HK := HK.out.dr hd2
          clear hd2
          have q0 := blk_cell HK.b1 0
          have q1 := blk_cell HK.b1 1
          have q2 := blk_cell HK.b1 2
          have z0 := blk_cell HK.b0 0
          have z1 := blk_cell HK.b0 1
          have z2 := blk_cell HK.b0 2
          have qf : ∀ o, w2.frozen? ⟨w.heap.size + 1, o, none⟩ = false := fun o => blk_free HK.b1 o
          have zf : ∀ o, w2.frozen? ⟨w.heap.size, o, none⟩ = false := fun o => blk_free HK.b0 o
          simp only [List.getElem?_toArray, List.getElem?_cons_zero, List.getElem?_cons_succ] at q0 q1 q2 z0 z1 z2
          go_wp2_with fail
          exact bodyPost_ret (v := .tuple #[.agg #[.int .i64 (h : Int), .int .i64 (m : Int), .int .i64 (x : Int)], .int .i64 1, .int .i64 (pp : Int)]) (by simp [results, Tryz.results49, go_sem, q0, q1, q2, z0, z1, z2]) rfl ⟨by rw [HZ.out]; rfl, HK.out _ _ _⟩
        | true =>
          rw [hmo] at HI
          cases htw : two s (pp + gap true) 0 59 with
          | none =>
            have HZ := Lib.hid (show clock s i most = none by rw [HQ.out, HL.out]; exact clkR_none hmo htw)
            have hN := fun w => rnumber_any s (pp + gap true) 2 w hs (by have := gap_le true; omega) (by omega) (iv := (pp : Int) + 1) (nv := 2) (by simp [gap]) rfl
            have ht := two_no_num htw
            clear htw
            generalize numN (num s 2 (pp + gap true) 0) = n at *
            have HN2 := Lib.hid hN
            clear hN
            cases hneg : decide (n < 0) with
            | true =>
              go_wp2_with fail
              refine (HI.out _).mono ?_
              rintro e w2 ⟨rfl, hd2⟩
              have HK := HK.out.dr hd2
              clear hd2
              have q0 := blk_cell HK.b1 0
              have q1 := blk_cell HK.b1 1
              have q2 := blk_cell HK.b1 2
              have z0 := blk_cell HK.b0 0
              have z1 := blk_cell HK.b0 1
              have z2 := blk_cell HK.b0 2
              have qf : ∀ o, w2.frozen? ⟨w.heap.size + 1, o, none⟩ = false := fun o => blk_free HK.b1 o
              have zf : ∀ o, w2.frozen? ⟨w.heap.size, o, none⟩ = false := fun o => blk_free HK.b0 o
              simp only [List.getElem?_toArray, List.getElem?_cons_zero, List.getElem?_cons_succ] at q0 q1 q2 z0 z1 z2
              go_wp2_with fail
              refine (HN2.out _).mono ?_
              rintro e w3 ⟨rfl, hw⟩
              rw [hw]; clear hw
              go_wp2_with fail
              exact bodyPost_ret (v := .tuple #[.agg #[.int .i64 (h : Int), .int .i64 n, .int .i64 (x : Int)], .int .i64 0, .int .i64 (-1)]) (by simp [results, Tryz.results49, go_sem, q0, q1, q2, z0, z1, z2]) rfl ⟨by rw [HZ.out]; exact ⟨_, _, _, rfl⟩, (HK.set1 n).out _ _ _⟩
            | false =>
              have hN9 : decide ((59 : Int) < n) = true := by simp at hneg; simp; omega
              go_wp2_with fail
              refine (HI.out _).mono ?_
              rintro e w2 ⟨rfl, hd2⟩
              have HK := HK.out.dr hd2
              clear hd2
              have q0 := blk_cell HK.b1 0
              have q1 := blk_cell HK.b1 1
              have q2 := blk_cell HK.b1 2
              have z0 := blk_cell HK.b0 0
              have z1 := blk_cell HK.b0 1
              have z2 := blk_cell HK.b0 2
              have qf : ∀ o, w2.frozen? ⟨w.heap.size + 1, o, none⟩ = false := fun o => blk_free HK.b1 o
              have zf : ∀ o, w2.frozen? ⟨w.heap.size, o, none⟩ = false := fun o => blk_free HK.b0 o
              simp only [List.getElem?_toArray, List.getElem?_cons_zero, List.getElem?_cons_succ] at q0 q1 q2 z0 z1 z2
              go_wp2_with fail
              refine (HN2.out _).mono ?_
              rintro e w3 ⟨rfl, hw⟩
              rw [hw]; clear hw
              go_wp2_with fail
              exact bodyPost_ret (v := .tuple #[.agg #[.int .i64 (h : Int), .int .i64 n, .int .i64 (x : Int)], .int .i64 0, .int .i64 (-1)]) (by simp [results, Tryz.results49, go_sem, q0, q1, q2, z0, z1, z2]) rfl ⟨by rw [HZ.out]; exact ⟨_, _, _, rfl⟩, (HK.set1 n).out _ _ _⟩
          | some v =>
            have hN := fun w => rnumber_any s (pp + gap true) 2 w hs (by have := gap_le true; omega) (by omega) (iv := (pp : Int) + 1) (nv := 2) (by simp [gap]) rfl
            obtain ⟨e9, hv9⟩ := two_yes_num htw
            rw [e9] at hN
            have HN2 := Lib.hid hN
            have HZ := Lib.hid (show clock s i most = clkR s (lng s (i + 2)) most h 1 (pp + gap true + 2) v x by rw [HQ.out, HL.out]; exact clkR_some hmo htw)
            have hle : pp + gap true + 2 ≤ s.size + 1 := by have := (two_bd htw).2.2; omega
            clear hN e9 htw
            have hn1 : decide ((v : Int) < 0) = false := by simp
            have hn2 : decide ((59 : Int) < (v : Int)) = false := by simp; omega
            go_wp2_with fail
            refine (HI.out _).mono ?_
            rintro e w2 ⟨rfl, hd2⟩
            have HK := HK.out.dr hd2
            clear hd2
            have q0 := blk_cell HK.b1 0
            have q1 := blk_cell HK.b1 1
            have q2 := blk_cell HK.b1 2
            have z0 := blk_cell HK.b0 0
            have z1 := blk_cell HK.b0 1
            have z2 := blk_cell HK.b0 2
            have qf : ∀ o, w2.frozen? ⟨w.heap.size + 1, o, none⟩ = false := fun o => blk_free HK.b1 o
            have zf : ∀ o, w2.frozen? ⟨w.heap.size, o, none⟩ = false := fun o => blk_free HK.b0 o
            simp only [List.getElem?_toArray, List.getElem?_cons_zero, List.getElem?_cons_succ] at q0 q1 q2 z0 z1 z2
            go_wp2_with fail
            refine (HN2.out _).mono ?_
            rintro e w3 ⟨rfl, hw⟩
            rw [hw]; clear hw
            go_wp2_with fail
            go_roundw
            case rel => exact ⟨1, pp + gap true + 2, _, _, by simp, by simp [gap], ⟨HK.set1 v, HZ.out, hle⟩⟩
            case measure => simp [intOf]
  | false =>
    have e58 : decide (nx s (i + 2) = UInt8.toNat 58) = false := hL
    rw [e58] at H20
    have HL := Lib.hid hL
    clear e58 hL
    go_enter Tryz.func49, Tryz.ntmps49
    go_wp2_with (first | (refine (HN.out _).mono ?_; rintro e w1 ⟨rfl, rfl⟩) | (refine (H20.out _).mono ?_; rintro e w1 ⟨rfl, hd⟩))
    have RCL1 : RCL s i most h w 2 (i + 2) 0 0 w1 := ⟨CK.dr (CK.start w _) hd, HC.out, hi2⟩
    clear hd hn1 hn2
    go_loopw [1, 11, 12] (fun p k _ wr => ∃ f pp m x : Nat, (f = 0 ∧ k = .int .i64 3 ∨ f = 1 ∧ k = .int .i64 2 ∨ f = 2 ∧ k = .int .i64 1) ∧ p = .int .i64 pp ∧ RCL s i most h w f pp m x wr) (fun _ k _ _ => 3 - (intOf k).toNat)
    case atStart => exact ⟨2, i + 2, 0, 0, .inr (.inr ⟨rfl, rfl⟩), rfl, RCL1⟩
    case round =>
      obtain ⟨f, pp, m, x, hf, rfl, hc⟩ := hrel
      have HQ := Lib.hid hc.eq
      have HK := Lib.hid hc.ck
      have hp := hc.le
      clear hc
      have hI := fun w => (rdigit_any s pp w hs (by omega) (iv := (pp : Int)) rfl).mono fun e w' h => (⟨h.1, h.2 ▸ Dr.refl _⟩ : e = .returned (.bool (dg s pp)) ∧ Dr w w')
      have HI := Lib.hid hI
      clear hI
      rcases hf with ⟨rfl, rfl⟩ | ⟨rfl, rfl⟩ | ⟨rfl, rfl⟩
      ·
        have q0 := blk_cell HK.out.b1 0
        have q1 := blk_cell HK.out.b1 1
        have q2 := blk_cell HK.out.b1 2
        have z0 := blk_cell HK.out.b0 0
        have z1 := blk_cell HK.out.b0 1
        have z2 := blk_cell HK.out.b0 2
        have qf : ∀ o, wr.frozen? ⟨w.heap.size + 1, o, none⟩ = false := fun o => blk_free HK.out.b1 o
        have zf : ∀ o, wr.frozen? ⟨w.heap.size, o, none⟩ = false := fun o => blk_free HK.out.b0 o
        simp only [List.getElem?_toArray, List.getElem?_cons_zero, List.getElem?_cons_succ] at q0 q1 q2 z0 z1 z2
        have HZ := Lib.hid (show clock s i most = some (h, m, x, 3, pp) from HQ.out)
        go_wp2_with fail
        exact bodyPost_ret (v := .tuple #[.agg #[.int .i64 (h : Int), .int .i64 (m : Int), .int .i64 (x : Int)], .int .i64 3, .int .i64 (pp : Int)]) (by simp [results, Tryz.results49, go_sem, q0, q1, q2, z0, z1, z2]) rfl ⟨by rw [HZ.out]; rfl, HK.out.out _ _ _⟩
      ·
        cases hmo : dg s pp with
        | false =>
          have HZ := Lib.hid (show clock s i most = some (h, m, x, 2, pp) by rw [HQ.out, HL.out]; unfold clkR; exact if_neg (by rw [show more s pp false = dg s pp from rfl, hmo]; simp))
          rw [hmo] at HI
          go_wp2_with fail
          refine (HI.out _).mono ?_
          rintro e w2 ⟨rfl, hd2⟩
          have HK := HK.out.dr hd2
          clear hd2
          have q0 := blk_cell HK.b1 0
          have q1 := blk_cell HK.b1 1
          have q2 := blk_cell HK.b1 2
          have z0 := blk_cell HK.b0 0
          have z1 := blk_cell HK.b0 1
          have z2 := blk_cell HK.b0 2
          have qf : ∀ o, w2.frozen? ⟨w.heap.size + 1, o, none⟩ = false := fun o => blk_free HK.b1 o
          have zf : ∀ o, w2.frozen? ⟨w.heap.size, o, none⟩ = false := fun o => blk_free HK.b0 o
          simp only [List.getElem?_toArray, List.getElem?_cons_zero, List.getElem?_cons_succ] at q0 q1 q2 z0 z1 z2
          go_wp2_with fail
          exact bodyPost_ret (v := .tuple #[.agg #[.int .i64 (h : Int), .int .i64 (m : Int), .int .i64 (x : Int)], .int .i64 2, .int .i64 (pp : Int)]) (by simp [results, Tryz.results49, go_sem, q0, q1, q2, z0, z1, z2]) rfl ⟨by rw [HZ.out]; rfl, HK.out _ _ _⟩
        | true =>
          rw [hmo] at HI
          cases htw : two s (pp + gap false) 0 most with
          | none =>
            have HZ := Lib.hid (show clock s i most = none by rw [HQ.out, HL.out]; exact clkR_none hmo htw)
            have hN := fun w => rnumber_any s (pp + gap false) 2 w hs (by have := gap_le false; omega) (by omega) (iv := (pp : Int) + 0) (nv := 2) (by simp [gap]) rfl
            have ht := two_no_num htw
            clear htw
            generalize numN (num s 2 (pp + gap false) 0) = n at *
            have HN2 := Lib.hid hN
            clear hN
            cases hneg : decide (n < 0) with
            | true =>
              go_wp2_with fail
              refine (HI.out _).mono ?_
              rintro e w2 ⟨rfl, hd2⟩
              have HK := HK.out.dr hd2
              clear hd2
              have q0 := blk_cell HK.b1 0
              have q1 := blk_cell HK.b1 1
              have q2 := blk_cell HK.b1 2
              have z0 := blk_cell HK.b0 0
              have z1 := blk_cell HK.b0 1
              have z2 := blk_cell HK.b0 2
              have qf : ∀ o, w2.frozen? ⟨w.heap.size + 1, o, none⟩ = false := fun o => blk_free HK.b1 o
              have zf : ∀ o, w2.frozen? ⟨w.heap.size, o, none⟩ = false := fun o => blk_free HK.b0 o
              simp only [List.getElem?_toArray, List.getElem?_cons_zero, List.getElem?_cons_succ] at q0 q1 q2 z0 z1 z2
              go_wp2_with fail
              refine (HN2.out _).mono ?_
              rintro e w3 ⟨rfl, hw⟩
              rw [hw]; clear hw
              go_wp2_with fail
              exact bodyPost_ret (v := .tuple #[.agg #[.int .i64 (h : Int), .int .i64 (m : Int), .int .i64 n], .int .i64 0, .int .i64 (-1)]) (by simp [results, Tryz.results49, go_sem, q0, q1, q2, z0, z1, z2]) rfl ⟨by rw [HZ.out]; exact ⟨_, _, _, rfl⟩, (HK.set2 n).out _ _ _⟩
            | false =>
              have hN9 : decide ((most : Int) < n) = true := by simp at hneg; simp; omega
              go_wp2_with fail
              refine (HI.out _).mono ?_
              rintro e w2 ⟨rfl, hd2⟩
              have HK := HK.out.dr hd2
              clear hd2
              have q0 := blk_cell HK.b1 0
              have q1 := blk_cell HK.b1 1
              have q2 := blk_cell HK.b1 2
              have z0 := blk_cell HK.b0 0
              have z1 := blk_cell HK.b0 1
              have z2 := blk_cell HK.b0 2
              have qf : ∀ o, w2.frozen? ⟨w.heap.size + 1, o, none⟩ = false := fun o => blk_free HK.b1 o
              have zf : ∀ o, w2.frozen? ⟨w.heap.size, o, none⟩ = false := fun o => blk_free HK.b0 o
              simp only [List.getElem?_toArray, List.getElem?_cons_zero, List.getElem?_cons_succ] at q0 q1 q2 z0 z1 z2
              go_wp2_with fail
              refine (HN2.out _).mono ?_
              rintro e w3 ⟨rfl, hw⟩
              rw [hw]; clear hw
              go_wp2_with fail
              exact bodyPost_ret (v := .tuple #[.agg #[.int .i64 (h : Int), .int .i64 (m : Int), .int .i64 n], .int .i64 0, .int .i64 (-1)]) (by simp [results, Tryz.results49, go_sem, q0, q1, q2, z0, z1, z2]) rfl ⟨by rw [HZ.out]; exact ⟨_, _, _, rfl⟩, (HK.set2 n).out _ _ _⟩
          | some v =>
            have hN := fun w => rnumber_any s (pp + gap false) 2 w hs (by have := gap_le false; omega) (by omega) (iv := (pp : Int) + 0) (nv := 2) (by simp [gap]) rfl
            obtain ⟨e9, hv9⟩ := two_yes_num htw
            rw [e9] at hN
            have HN2 := Lib.hid hN
            have HZ := Lib.hid (show clock s i most = clkR s (lng s (i + 2)) most h 0 (pp + gap false + 2) m v by rw [HQ.out, HL.out]; exact clkR_some hmo htw)
            have hle : pp + gap false + 2 ≤ s.size + 1 := by have := (two_bd htw).2.2; omega
            clear hN e9 htw
            have hn1 : decide ((v : Int) < 0) = false := by simp
            have hn2 : decide ((most : Int) < (v : Int)) = false := by simp; omega
            go_wp2_with fail
            refine (HI.out _).mono ?_
            rintro e w2 ⟨rfl, hd2⟩
            have HK := HK.out.dr hd2
            clear hd2
            have q0 := blk_cell HK.b1 0
            have q1 := blk_cell HK.b1 1
            have q2 := blk_cell HK.b1 2
            have z0 := blk_cell HK.b0 0
            have z1 := blk_cell HK.b0 1
            have z2 := blk_cell HK.b0 2
            have qf : ∀ o, w2.frozen? ⟨w.heap.size + 1, o, none⟩ = false := fun o => blk_free HK.b1 o
            have zf : ∀ o, w2.frozen? ⟨w.heap.size, o, none⟩ = false := fun o => blk_free HK.b0 o
            simp only [List.getElem?_toArray, List.getElem?_cons_zero, List.getElem?_cons_succ] at q0 q1 q2 z0 z1 z2
            go_wp2_with fail
            refine (HN2.out _).mono ?_
            rintro e w3 ⟨rfl, hw⟩
            rw [hw]; clear hw
            go_wp2_with fail
            go_roundw
            case rel => exact ⟨0, pp + gap false + 2, _, _, by simp, by simp [gap], ⟨HK.set2 v, HZ.out, hle⟩⟩
            case measure => simp [intOf]
      ·
        cases hmo : dg s pp with
        | false =>
          have HZ := Lib.hid (show clock s i most = some (h, m, x, 1, pp) by rw [HQ.out, HL.out]; unfold clkR; exact if_neg (by rw [show more s pp false = dg s pp from rfl, hmo]; simp))
          rw [hmo] at HI
          go_wp2_with fail
          refine (HI.out _).mono ?_
          rintro e w2 ⟨rfl, hd2⟩
          have HK := HK.out.dr hd2
          clear hd2
          have q0 := blk_cell HK.b1 0
          have q1 := blk_cell HK.b1 1
          have q2 := blk_cell HK.b1 2
          have z0 := blk_cell HK.b0 0
          have z1 := blk_cell HK.b0 1
          have z2 := blk_cell HK.b0 2
          have qf : ∀ o, w2.frozen? ⟨w.heap.size + 1, o, none⟩ = false := fun o => blk_free HK.b1 o
          have zf : ∀ o, w2.frozen? ⟨w.heap.size, o, none⟩ = false := fun o => blk_free HK.b0 o
          simp only [List.getElem?_toArray, List.getElem?_cons_zero, List.getElem?_cons_succ] at q0 q1 q2 z0 z1 z2
          go_wp2_with fail
          exact bodyPost_ret (v := .tuple #[.agg #[.int .i64 (h : Int), .int .i64 (m : Int), .int .i64 (x : Int)], .int .i64 1, .int .i64 (pp : Int)]) (by simp [results, Tryz.results49, go_sem, q0, q1, q2, z0, z1, z2]) rfl ⟨by rw [HZ.out]; rfl, HK.out _ _ _⟩
        | true =>
          rw [hmo] at HI
          cases htw : two s (pp + gap false) 0 59 with
          | none =>
            have HZ := Lib.hid (show clock s i most = none by rw [HQ.out, HL.out]; exact clkR_none hmo htw)
            have hN := fun w => rnumber_any s (pp + gap false) 2 w hs (by have := gap_le false; omega) (by omega) (iv := (pp : Int) + 0) (nv := 2) (by simp [gap]) rfl
            have ht := two_no_num htw
            clear htw
            generalize numN (num s 2 (pp + gap false) 0) = n at *
            have HN2 := Lib.hid hN
            clear hN
            cases hneg : decide (n < 0) with
            | true =>
              go_wp2_with fail
              refine (HI.out _).mono ?_
              rintro e w2 ⟨rfl, hd2⟩
              have HK := HK.out.dr hd2
              clear hd2
              have q0 := blk_cell HK.b1 0
              have q1 := blk_cell HK.b1 1
              have q2 := blk_cell HK.b1 2
              have z0 := blk_cell HK.b0 0
              have z1 := blk_cell HK.b0 1
              have z2 := blk_cell HK.b0 2
              have qf : ∀ o, w2.frozen? ⟨w.heap.size + 1, o, none⟩ = false := fun o => blk_free HK.b1 o
              have zf : ∀ o, w2.frozen? ⟨w.heap.size, o, none⟩ = false := fun o => blk_free HK.b0 o
              simp only [List.getElem?_toArray, List.getElem?_cons_zero, List.getElem?_cons_succ] at q0 q1 q2 z0 z1 z2
              go_wp2_with fail
              refine (HN2.out _).mono ?_
              rintro e w3 ⟨rfl, hw⟩
              rw [hw]; clear hw
              go_wp2_with fail
              exact bodyPost_ret (v := .tuple #[.agg #[.int .i64 (h : Int), .int .i64 n, .int .i64 (x : Int)], .int .i64 0, .int .i64 (-1)]) (by simp [results, Tryz.results49, go_sem, q0, q1, q2, z0, z1, z2]) rfl ⟨by rw [HZ.out]; exact ⟨_, _, _, rfl⟩, (HK.set1 n).out _ _ _⟩
            | false =>
              have hN9 : decide ((59 : Int) < n) = true := by simp at hneg; simp; omega
              go_wp2_with fail
              refine (HI.out _).mono ?_
              rintro e w2 ⟨rfl, hd2⟩
              have HK := HK.out.dr hd2
              clear hd2
              have q0 := blk_cell HK.b1 0
              have q1 := blk_cell HK.b1 1
              have q2 := blk_cell HK.b1 2
              have z0 := blk_cell HK.b0 0
              have z1 := blk_cell HK.b0 1
              have z2 := blk_cell HK.b0 2
              have qf : ∀ o, w2.frozen? ⟨w.heap.size + 1, o, none⟩ = false := fun o => blk_free HK.b1 o
              have zf : ∀ o, w2.frozen? ⟨w.heap.size, o, none⟩ = false := fun o => blk_free HK.b0 o
              simp only [List.getElem?_toArray, List.getElem?_cons_zero, List.getElem?_cons_succ] at q0 q1 q2 z0 z1 z2
              go_wp2_with fail
              refine (HN2.out _).mono ?_
              rintro e w3 ⟨rfl, hw⟩
              rw [hw]; clear hw
              go_wp2_with fail
              exact bodyPost_ret (v := .tuple #[.agg #[.int .i64 (h : Int), .int .i64 n, .int .i64 (x : Int)], .int .i64 0, .int .i64 (-1)]) (by simp [results, Tryz.results49, go_sem, q0, q1, q2, z0, z1, z2]) rfl ⟨by rw [HZ.out]; exact ⟨_, _, _, rfl⟩, (HK.set1 n).out _ _ _⟩
          | some v =>
            have hN := fun w => rnumber_any s (pp + gap false) 2 w hs (by have := gap_le false; omega) (by omega) (iv := (pp : Int) + 0) (nv := 2) (by simp [gap]) rfl
            obtain ⟨e9, hv9⟩ := two_yes_num htw
            rw [e9] at hN
            have HN2 := Lib.hid hN
            have HZ := Lib.hid (show clock s i most = clkR s (lng s (i + 2)) most h 1 (pp + gap false + 2) v x by rw [HQ.out, HL.out]; exact clkR_some hmo htw)
            have hle : pp + gap false + 2 ≤ s.size + 1 := by have := (two_bd htw).2.2; omega
            clear hN e9 htw
            have hn1 : decide ((v : Int) < 0) = false := by simp
            have hn2 : decide ((59 : Int) < (v : Int)) = false := by simp; omega
            go_wp2_with fail
            refine (HI.out _).mono ?_
            rintro e w2 ⟨rfl, hd2⟩
            have HK := HK.out.dr hd2
            clear hd2
            have q0 := blk_cell HK.b1 0
            have q1 := blk_cell HK.b1 1
            have q2 := blk_cell HK.b1 2
            have z0 := blk_cell HK.b0 0
            have z1 := blk_cell HK.b0 1
            have z2 := blk_cell HK.b0 2
            have qf : ∀ o, w2.frozen? ⟨w.heap.size + 1, o, none⟩ = false := fun o => blk_free HK.b1 o
            have zf : ∀ o, w2.frozen? ⟨w.heap.size, o, none⟩ = false := fun o => blk_free HK.b0 o
            simp only [List.getElem?_toArray, List.getElem?_cons_zero, List.getElem?_cons_succ] at q0 q1 q2 z0 z1 z2
            go_wp2_with fail
            refine (HN2.out _).mono ?_
            rintro e w3 ⟨rfl, hw⟩
            rw [hw]; clear hw
            go_wp2_with fail
            go_roundw
            case rel => exact ⟨1, pp + gap false + 2, _, _, by simp, by simp [gap], ⟨HK.set1 v, HZ.out, hle⟩⟩
            case measure => simp [intOf]
theorem rclock_any {s : ByteArray} {i most : Nat} {w : World} (hs : s.size ≤ 140737488351232) (hi : i ≤ s.size + 1) (hm : most ≤ 60) :
    Calls Tryz.prog 49 #[.string s, .int .i64 i, .int .i64 most] w fun e w' => CPost (clock s i most) e ∧ w.grownBy w' none := by
  cases h0 : two s i 0 23 with
  | none =>
    have hc : clock s i most = none := by unfold clock; rw [h0]
    rw [hc]
    exact rclock_no hs hi hm h0
  | some h => exact rclock_yes hs hi hm h0

end Go.Proofs.YtkhpdiilghncgaaGreatDoor
