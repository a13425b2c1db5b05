/- The reference's Clock; GrammarClocks: the walk. -/
import Derived.Test.YtkhpdiilghncgaaGreatDoorRd
import Derived.Test.YtkhpdiilghncgaaGreatDoorAl
namespace Go.Proofs.YtkhpdiilghncgaaGreatDoor
open Go.RowKit
set_option linter.unusedVariables false

/-- What the reference's Clock hands back: the number is an int. -/
theorem tpost_no {e : Ending} (h : TPost none e) : ∃ a b c d : Int, e = .returned (.tuple #[.agg #[.int .i64 a, .int .i64 b, .int .i64 c, .int .i64 d], .int .i64 (-1)]) := h
theorem tpost_yes {e : Ending} {h m x f k : Nat} (hp : TPost (some ((h, m, x, f), k)) e) : e = .returned (.tuple #[.agg #[.int .i64 (h : Int), .int .i64 (m : Int), .int .i64 (x : Int), .int .i64 (f : Int)], .int .i64 (k : Int)]) := hp
theorem isOne_tt (s : ByteArray) : isOne s 0 ⟨#[84, 116]⟩ = decide (nx s 0 = 84 ∨ nx s 0 = 116) := isOne_2 s 0 84 116 (by decide) (by decide)
theorem rclockret {W : World} {act : Act} {B : Nat} {a b c d k : Value} {Q : Ending → World → Prop} (hF : Four W B) (h4 : act.tmps[2]?.getD undef = .pointer (some ⟨B, 0, none⟩)) (h5 : act.tmps[3]?.getD undef = k) (hd : act.defers = [])
    (hq : Q (.returned (.tuple #[.agg #[a, b, c, d], k])) ((((W.setCell ⟨B, 0, none⟩ a).setCell ⟨B, 1, none⟩ b).setCell ⟨B, 2, none⟩ c).setCell ⟨B, 3, none⟩ d)) :
    bodyPost Tryz.prog Tryz.f10 Q Exit.ret act ((((W.setCell ⟨B, 0, none⟩ a).setCell ⟨B, 1, none⟩ b).setCell ⟨B, 2, none⟩ c).setCell ⟨B, 3, none⟩ d) := by
  obtain ⟨T, x0, x1, x2, x3, h⟩ := hF
  have hW := out4 h a b c d
  generalize (((W.setCell ⟨B, 0, none⟩ a).setCell ⟨B, 1, none⟩ b).setCell ⟨B, 2, none⟩ c).setCell ⟨B, 3, none⟩ d = W' at *
  have q0 := blk_cell hW 0
  have q1 := blk_cell hW 1
  have q2 := blk_cell hW 2
  have q3 := blk_cell hW 3
  simp only [List.getElem?_toArray, List.getElem?_cons_zero, List.getElem?_cons_succ] at q0 q1 q2 q3
  exact bodyPost_ret (v := .tuple #[.agg #[a, b, c, d], k]) (by simp [results, Tryz.results10, go_sem, h4, h5, q0, q1, q2, q3]) hd hq
set_option maxHeartbeats 2000000 in
theorem rClock_any (s : ByteArray) (w : World) (hs : s.size ≤ 140737488351232) :
    Calls Tryz.prog 10 #[.string s] w fun e w' => e = .returned (clkV (clk s)) ∧ w.grownBy w' none := by
  have hO := fun w => ris_any s 0 ⟨#[84, 116]⟩ w hs (by omega) (by decide) (iv := 0) rfl
  rw [isOne_tt] at hO
  have hle : tskip s 0 ≤ s.size := by
    unfold tskip; split
    · have := nx_in (s := s) (i := 0) (by omega); omega
    · omega
  have HT0 := fun w => rtime_any s (tskip s 0) w hs hle (iv := (tskip s 0 : Nat)) rfl
  cases hT : decide (nx s 0 = 84 ∨ nx s 0 = 116) with
  | true =>
    have htk : tskip s 0 = 1 := if_pos (of_decide_eq_true hT)
    rw [hT] at hO
    have HO := Lib.hid hO
    clear hO hT hle
    cases ht : time s (tskip s 0) with
    | none =>
      have HZ := Lib.hid (show clk s = none by unfold clk; rw [ht])
      rw [ht] at HT0
      rw [htk] at HT0
      have HT := Lib.hid HT0
      have hne : ((-1 : Int) == (s.size : Int)) = false := by rw [Bool.eq_false_iff]; simp only [ne_eq, beq_iff_eq]; omega
      have hne2 : ((-1 : Int) != (s.size : Int)) = true := by simp only [bne_iff_ne, ne_eq]; omega
      clear ht HT0 htk
      go_enter Tryz.func10, Tryz.ntmps10
      go_wp2_with fail
      refine (HO.out _).mono ?_
      rintro e w1 ⟨rfl, ⟨nq, rfl⟩⟩
      go_wp2_with fail
      refine (HT.out _).mono ?_
      rintro e w2 ⟨he, hg⟩
      obtain ⟨a, b, c, d, rfl⟩ := tpost_no he
      clear he
      have hK := blk_grown hg (show ((w.alloc (.cells #[.int .i64 0, .int .i64 0, .int .i64 0, .int .i64 0] 23)).drewN nq).heap[w.heap.size]? = _ from blk_new w _) (by simp)
      have K0 : Hid (Four w2 w.heap.size) := Lib.hid ⟨_, _, _, _, _, hK⟩
      have G := grown_trans (grown_drewN (grown_alloc (grown_refl w none) (.cells #[.int .i64 0, .int .i64 0, .int .i64 0, .int .i64 0] 23)) nq) hg
      obtain ⟨-, -, f3, f4⟩ := blk_facts hK
      clear hg hK
      go_wp2_with fail
      refine rclockret (?_ : Four _ w.heap.size) rfl rfl rfl ⟨by rw [HZ.out]; rfl, ?_⟩
      · repeat (first | (with_reducible exact K0.out) | (with_reducible refine Four.alloc ?_ _))
      · repeat (first | (with_reducible exact G) | ((with_reducible refine grown_setNew ?_ ?_ _); rotate_left; (simp only; omega)) | (with_reducible refine grown_alloc ?_ _))
    | some v =>
      obtain ⟨⟨h, m, x, f⟩, k⟩ := v
      rw [ht] at HT0
      rw [htk] at HT0
      have HT := Lib.hid HT0
      by_cases hks : k = s.size
      · have HZ := Lib.hid (show clk s = some (h, m, x, f) by unfold clk; rw [ht]; simp only; rw [if_pos hks])
        have hne2 : ((k : Int) != (s.size : Int)) = false := by simp; omega
        clear ht HT0 htk hks
        go_enter Tryz.func10, Tryz.ntmps10
        go_wp2_with fail
        refine (HO.out _).mono ?_
        rintro e w1 ⟨rfl, ⟨nq, rfl⟩⟩
        go_wp2_with fail
        refine (HT.out _).mono ?_
        rintro e w2 ⟨he, hg⟩
        obtain rfl := tpost_yes he
        clear he
        have hK := blk_grown hg (show ((w.alloc (.cells #[.int .i64 0, .int .i64 0, .int .i64 0, .int .i64 0] 23)).drewN nq).heap[w.heap.size]? = _ from blk_new w _) (by simp)
        have K0 : Hid (Four w2 w.heap.size) := Lib.hid ⟨_, _, _, _, _, hK⟩
        have G := grown_trans (grown_drewN (grown_alloc (grown_refl w none) (.cells #[.int .i64 0, .int .i64 0, .int .i64 0, .int .i64 0] 23)) nq) hg
        obtain ⟨-, -, f3, f4⟩ := blk_facts hK
        clear hg hK
        go_wp2_with fail
        refine rclockret (?_ : Four _ w.heap.size) rfl rfl rfl ⟨by rw [HZ.out]; rfl, ?_⟩
        · repeat (first | (with_reducible exact K0.out) | (with_reducible refine Four.alloc ?_ _))
        · repeat (first | (with_reducible exact G) | ((with_reducible refine grown_setNew ?_ ?_ _); rotate_left; (simp only; omega)) | (with_reducible refine grown_alloc ?_ _))
      · have HZ := Lib.hid (show clk s = none by unfold clk; rw [ht]; simp only; rw [if_neg hks])
        have hne2 : ((k : Int) != (s.size : Int)) = true := by simp; omega
        clear ht HT0 htk hks
        go_enter Tryz.func10, Tryz.ntmps10
        go_wp2_with fail
        refine (HO.out _).mono ?_
        rintro e w1 ⟨rfl, ⟨nq, rfl⟩⟩
        go_wp2_with fail
        refine (HT.out _).mono ?_
        rintro e w2 ⟨he, hg⟩
        obtain rfl := tpost_yes he
        clear he
        have hK := blk_grown hg (show ((w.alloc (.cells #[.int .i64 0, .int .i64 0, .int .i64 0, .int .i64 0] 23)).drewN nq).heap[w.heap.size]? = _ from blk_new w _) (by simp)
        have K0 : Hid (Four w2 w.heap.size) := Lib.hid ⟨_, _, _, _, _, hK⟩
        have G := grown_trans (grown_drewN (grown_alloc (grown_refl w none) (.cells #[.int .i64 0, .int .i64 0, .int .i64 0, .int .i64 0] 23)) nq) hg
        obtain ⟨-, -, f3, f4⟩ := blk_facts hK
        clear hg hK
        go_wp2_with fail
        refine rclockret (?_ : Four _ w.heap.size) rfl rfl rfl ⟨by rw [HZ.out]; rfl, ?_⟩
        · repeat (first | (with_reducible exact K0.out) | (with_reducible refine Four.alloc ?_ _))
        · repeat (first | (with_reducible exact G) | ((with_reducible refine grown_setNew ?_ ?_ _); rotate_left; (simp only; omega)) | (with_reducible refine grown_alloc ?_ _))
  | false =>
    have htk : tskip s 0 = 0 := if_neg (of_decide_eq_false hT)
    rw [hT] at hO
    have HO := Lib.hid hO
    clear hO hT hle
    cases ht : time s (tskip s 0) with
    | none =>
      have HZ := Lib.hid (show clk s = none by unfold clk; rw [ht])
      rw [ht] at HT0
      rw [htk] at HT0
      have HT := Lib.hid HT0
      have hne : ((-1 : Int) == (s.size : Int)) = false := by rw [Bool.eq_false_iff]; simp only [ne_eq, beq_iff_eq]; omega
      have hne2 : ((-1 : Int) != (s.size : Int)) = true := by simp only [bne_iff_ne, ne_eq]; omega
      clear ht HT0 htk
      go_enter Tryz.func10, Tryz.ntmps10
      go_wp2_with fail
      refine (HO.out _).mono ?_
      rintro e w1 ⟨rfl, ⟨nq, rfl⟩⟩
      go_wp2_with fail
      refine (HT.out _).mono ?_
      rintro e w2 ⟨he, hg⟩
      obtain ⟨a, b, c, d, rfl⟩ := tpost_no he
      clear he
      have hK := blk_grown hg (show ((w.alloc (.cells #[.int .i64 0, .int .i64 0, .int .i64 0, .int .i64 0] 23)).drewN nq).heap[w.heap.size]? = _ from blk_new w _) (by simp)
      have K0 : Hid (Four w2 w.heap.size) := Lib.hid ⟨_, _, _, _, _, hK⟩
      have G := grown_trans (grown_drewN (grown_alloc (grown_refl w none) (.cells #[.int .i64 0, .int .i64 0, .int .i64 0, .int .i64 0] 23)) nq) hg
      obtain ⟨-, -, f3, f4⟩ := blk_facts hK
      clear hg hK
      go_wp2_with fail
      refine rclockret (?_ : Four _ w.heap.size) rfl rfl rfl ⟨by rw [HZ.out]; rfl, ?_⟩
      · repeat (first | (with_reducible exact K0.out) | (with_reducible refine Four.alloc ?_ _))
      · repeat (first | (with_reducible exact G) | ((with_reducible refine grown_setNew ?_ ?_ _); rotate_left; (simp only; omega)) | (with_reducible refine grown_alloc ?_ _))
    | some v =>
      obtain ⟨⟨h, m, x, f⟩, k⟩ := v
      rw [ht] at HT0
      rw [htk] at HT0
      have HT := Lib.hid HT0
      by_cases hks : k = s.size
      · have HZ := Lib.hid (show clk s = some (h, m, x, f) by unfold clk; rw [ht]; simp only; rw [if_pos hks])
        have hne2 : ((k : Int) != (s.size : Int)) = false := by simp; omega
        clear ht HT0 htk hks
        go_enter Tryz.func10, Tryz.ntmps10
        go_wp2_with fail
        refine (HO.out _).mono ?_
        rintro e w1 ⟨rfl, ⟨nq, rfl⟩⟩
        go_wp2_with fail
        refine (HT.out _).mono ?_
        rintro e w2 ⟨he, hg⟩
        obtain rfl := tpost_yes he
        clear he
        have hK := blk_grown hg (show ((w.alloc (.cells #[.int .i64 0, .int .i64 0, .int .i64 0, .int .i64 0] 23)).drewN nq).heap[w.heap.size]? = _ from blk_new w _) (by simp)
        have K0 : Hid (Four w2 w.heap.size) := Lib.hid ⟨_, _, _, _, _, hK⟩
        have G := grown_trans (grown_drewN (grown_alloc (grown_refl w none) (.cells #[.int .i64 0, .int .i64 0, .int .i64 0, .int .i64 0] 23)) nq) hg
        obtain ⟨-, -, f3, f4⟩ := blk_facts hK
        clear hg hK
        go_wp2_with fail
        refine rclockret (?_ : Four _ w.heap.size) rfl rfl rfl ⟨by rw [HZ.out]; rfl, ?_⟩
        · repeat (first | (with_reducible exact K0.out) | (with_reducible refine Four.alloc ?_ _))
        · repeat (first | (with_reducible exact G) | ((with_reducible refine grown_setNew ?_ ?_ _); rotate_left; (simp only; omega)) | (with_reducible refine grown_alloc ?_ _))
      · have HZ := Lib.hid (show clk s = none by unfold clk; rw [ht]; simp only; rw [if_neg hks])
        have hne2 : ((k : Int) != (s.size : Int)) = true := by simp; omega
        clear ht HT0 htk hks
        go_enter Tryz.func10, Tryz.ntmps10
        go_wp2_with fail
        refine (HO.out _).mono ?_
        rintro e w1 ⟨rfl, ⟨nq, rfl⟩⟩
        go_wp2_with fail
        refine (HT.out _).mono ?_
        rintro e w2 ⟨he, hg⟩
        obtain rfl := tpost_yes he
        clear he
        have hK := blk_grown hg (show ((w.alloc (.cells #[.int .i64 0, .int .i64 0, .int .i64 0, .int .i64 0] 23)).drewN nq).heap[w.heap.size]? = _ from blk_new w _) (by simp)
        have K0 : Hid (Four w2 w.heap.size) := Lib.hid ⟨_, _, _, _, _, hK⟩
        have G := grown_trans (grown_drewN (grown_alloc (grown_refl w none) (.cells #[.int .i64 0, .int .i64 0, .int .i64 0, .int .i64 0] 23)) nq) hg
        obtain ⟨-, -, f3, f4⟩ := blk_facts hK
        clear hg hK
        go_wp2_with fail
        refine rclockret (?_ : Four _ w.heap.size) rfl rfl rfl ⟨by rw [HZ.out]; rfl, ?_⟩
        · repeat (first | (with_reducible exact K0.out) | (with_reducible refine Four.alloc ?_ _))
        · repeat (first | (with_reducible exact G) | ((with_reducible refine grown_setNew ?_ ?_ _); rotate_left; (simp only; omega)) | (with_reducible refine grown_alloc ?_ _))

theorem clock_end {s : ByteArray} {i most h m x n k : Nat} (hc : clock s i most = some (h, m, x, n, k)) : k ≤ i + 8 := by
  have g := gap_le (lng s (i + 2))
  unfold clock at hc
  split at hc
  · cases hc
  · split at hc
    · split at hc
      · cases hc
      · split at hc
        · split at hc
          · cases hc
          · simp at hc; omega
        · simp at hc; omega
    · simp at hc; omega
theorem part_end {s : ByteArray} {i k : Nat} {v : Option Nat} (h : part s i = some (v, k)) : k ≤ i + 11 := by
  unfold part at h
  split at h
  · split at h
    · cases h
    · split at h
      · cases h
      · simp at h
        have : ∀ f j, cnt s f j ≤ f := by
          intro f
          induction f with
          | zero => intro j; simp [cnt]
          | succ f ih => intro j; unfold cnt; split <;> (try have := ih (j + 1)) <;> omega
        have := this 10 (i + 1)
        omega
  · simp at h; omega
theorem clk_long {s : ByteArray} (h : 2000 < s.size) : clk s = none := by
  unfold clk
  cases ht : time s (tskip s 0) with
  | none => rfl
  | some v =>
    obtain ⟨r, k⟩ := v
    simp only
    refine if_neg ?_
    have hk : tskip s 0 ≤ 1 := by unfold tskip; split <;> omega
    unfold time at ht
    cases hc : clock s (tskip s 0) 60 with
    | none => rw [hc] at ht; cases ht
    | some a =>
      obtain ⟨hh, m, x, n, j⟩ := a
      have b1 := clock_end hc
      rw [hc] at ht
      simp only at ht
      split at ht
      · cases hp : part s j with
        | none => rw [hp] at ht; cases ht
        | some a =>
          obtain ⟨v, j2⟩ := a
          have := part_end hp
          rw [hp] at ht
          simp at ht
          omega
      · simp at ht
        omega
theorem clkV_form (X : Option (Nat × Nat × Nat × Nat)) : ∃ a b c d n : Int, clkV X = .tuple #[.agg #[.int .i64 a, .int .i64 b, .int .i64 c, .int .i64 d], .int .i64 n] := by
  cases X with
  | none => exact ⟨_, _, _, _, 6, rfl⟩
  | some v => exact ⟨_, _, _, _, 0, rfl⟩
theorem clocks_big {m : Int} (s : ByteArray) (w : World) (hm : w.cell? ⟨1, 0, none⟩ = some (.int .i64 m)) (h : 2000 < s.size) (hs : s.size ≤ 140737488351232) :
    Calls Tryz.prog 3 #[.string s] w fun e w' => e = .returned (.bool true) ∧ w.grownBy w' none := by
  have H := Lib.hid (fun w h => alive_any (m := m) w h)
  have M := Lib.hid (fun w' (g : w.grownBy w' none) => grown_cell g hm)
  have HC := Lib.hid (fun w => clock_fn s w hs)
  rw [clk_long h] at HC
  unfold clkV at HC
  have hl : decide ((2000 : Int) < (s.size : Int)) = true := by simp; omega
  clear hm
  go_enter Tryz.func3, Tryz.ntmps3
  go_wp2_with fail
  refine (HC.out _).mono ?_
  rintro e w1 ⟨rfl, hg⟩
  go_wp2_with fail
  have G := grown_alloc hg (.cells #[.int .i64 0, .int .i64 0, .int .i64 0, .int .i64 0] 23)
  refine (H.out _ (M.out _ G)).mono ?_
  rintro e w2 ⟨rfl, hg2⟩
  go_wp2_with fail
  go_ret
  exact ⟨rfl, grown_trans G hg2⟩
set_option maxHeartbeats 1000000 in
theorem clocks_small {m : Int} (s : ByteArray) (w : World) (hm : w.cell? ⟨1, 0, none⟩ = some (.int .i64 m)) (h : s.size ≤ 2000) :
    Calls Tryz.prog 3 #[.string s] w fun e w' => e = .returned (.bool true) ∧ w.grownBy w' none := by
  have H := Lib.hid (fun w h => alive_any (m := m) w h)
  have M := Lib.hid (fun w' (g : w.grownBy w' none) => grown_cell g hm)
  have HC := Lib.hid (fun w => clock_fn s w (by omega))
  have HR := Lib.hid (fun w => rClock_any s w (by omega))
  obtain ⟨a, b, c, d, n, e⟩ := clkV_form (clk s)
  rw [e] at HC HR
  have hl : decide ((2000 : Int) < (s.size : Int)) = false := by simp; omega
  clear hm e
  go_enter Tryz.func3, Tryz.ntmps3
  go_wp2_with fail
  refine (HC.out _).mono ?_
  rintro e w1 ⟨rfl, hg⟩
  go_wp2_with fail
  refine (HR.out _).mono ?_
  rintro e w2 ⟨rfl, hg2⟩
  have K1 := blk_grown hg2 (blk_new w1 _) (by simp)
  have l1 := (Array.getElem?_eq_some_iff.1 K1).1
  have G := grown_trans (grown_alloc hg (.cells #[.int .i64 a, .int .i64 b, .int .i64 c, .int .i64 d] 23)) hg2
  clear hg hg2
  go_wp2_with fail
  have G := grown_alloc G (.cells #[.int .i64 a, .int .i64 b, .int .i64 c, .int .i64 d] 23)
  refine (H.out _ (M.out _ G)).mono ?_
  rintro e w3 ⟨rfl, hg3⟩
  have K2 := blk_grown hg3 (blk_new w2 _) (by simp)
  have K1 := blk_grown hg3 ((Below.heap_alloc _ _ _ l1).trans K1) (by simp)
  have G := grown_trans G hg3
  clear hg3 l1
  have a0 := blk_cell K1 0
  have a1 := blk_cell K1 1
  have a2 := blk_cell K1 2
  have a3 := blk_cell K1 3
  have b0 := blk_cell K2 0
  have b1 := blk_cell K2 1
  have b2 := blk_cell K2 2
  have b3 := blk_cell K2 3
  simp only [List.getElem?_toArray, List.getElem?_cons_zero, List.getElem?_cons_succ] at a0 a1 a2 a3 b0 b1 b2 b3
  clear K1 K2
  go_wp2_with fail
  go_ret
  exact ⟨rfl, G⟩
theorem clocks_any {m : Int} (s : ByteArray) (w : World) (hm : w.cell? ⟨1, 0, none⟩ = some (.int .i64 m)) (hs : s.size ≤ 140737488351232) :
    Calls Tryz.prog 3 #[.string s] w fun e w' => e = .returned (.bool true) ∧ w.grownBy w' none := by
  by_cases h : 2000 < s.size
  · exact clocks_big s w hm h hs
  · exact clocks_small s w hm (by omega)

end Go.Proofs.YtkhpdiilghncgaaGreatDoor
