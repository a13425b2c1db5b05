/- GrammarLetters: the walk. -/
import Derived.Test.YtkhpdiilghncgaaGreatDoorPm
import Derived.Test.YtkhpdiilghncgaaGreatDoorOw
namespace Go.Proofs.YtkhpdiilghncgaaGreatDoor
open Go.RowKit
set_option linter.unusedVariables false

theorem let_big {m : Int} (s : ByteArray) (w : World) (hm : w.cell? ⟨1, 0, none⟩ = some (.int .i64 m)) (h : 300 < s.size) :
    Calls Tryz.prog 6 #[.string s] w fun e w' => e = .returned (.bool true) ∧ w.grownBy w' none := by
  have H := Lib.hid (fun w h => alive_any (m := m) w h)
  have hl : decide ((300 : Int) < (s.size : Int)) = true := by simp; omega
  go_enter Tryz.func6, Tryz.ntmps6
  go_wp2_with fail
  refine (H.out _ hm).mono ?_
  rintro e w1 ⟨rfl, hg⟩
  go_wp2_with fail
  go_ret
  exact ⟨rfl, hg⟩

theorem durV_form (X : Except Int (Nat → Int)) : ∃ (dd : Nat → Int) (n : Int), durV X = .tuple #[.agg (dcells dd), .int .i64 n] := by
  cases X with
  | error n => exact ⟨_, n, rfl⟩
  | ok d => exact ⟨d, 0, rfl⟩
theorem blk_next {w w' : World} {k : Nat} {o x : Obj} (h : w.heap[k]? = some o) (g : (w.alloc x).grownBy w' none) : w'.heap[k]? = some o :=
  blk_grown g ((Below.heap_alloc _ _ _ (Array.getElem?_eq_some_iff.1 h).1).trans h) (by simp)
set_option maxRecDepth 20000 in
set_option maxHeartbeats 2000000 in
theorem let_small {m : Int} (s : ByteArray) (w : World) (hm : w.cell? ⟨1, 0, none⟩ = some (.int .i64 m)) (h : s.size ≤ 300) :
    Calls Tryz.prog 6 #[.string s] w fun e w' => e = .returned (.bool true) ∧ w.grownBy w' none := by
  have H := Lib.hid (fun w h => alive_any (m := m) w h)
  have hl : decide ((300 : Int) < (s.size : Int)) = false := by simp; omega
  have M := Lib.hid (fun w' (g : w.grownBy w' none) => grown_cell g hm)
  clear hm
  go_enter Tryz.func6, Tryz.ntmps6
  go_wp2_with fail
  go_loopw [3, 4, 5] (fun t i _ wr => ∃ (k : Nat) (x : ByteArray), k ≤ s.size ∧ t = .string x ∧ i = .int .i64 k ∧ Gt s x k ∧ w.grownBy wr none) (fun _ i _ _ => s.size - (intOf i).toNat)
  case atStart => exact ⟨0, ⟨#[]⟩, Nat.zero_le _, rfl, rfl, Gt.zero _, grown_refl _ _⟩
  case round =>
    obtain ⟨k, x, hk, rfl, rfl, hx, hg⟩ := hrel
    have HX := Lib.hid hx
    have HG := Lib.hid hg
    clear hx hg
    by_cases hlt : k < s.size
    · have hl : decide ((k : Int) < (s.size : Int)) = true := by simp; omega
      have hxs : x.size ≤ 300 := by have := HX.out.size; omega
      have hn := nx_lt hlt
      have h255 := nx_le s k
      rw [hn] at h255
      cases h1 : decide ((97 : Int) ≤ (s[k].toNat : Int)) with
      | true =>
        cases h2 : decide ((s[k].toNat : Int) ≤ 122) with
        | true =>
          have e1 : ((s[k].toNat : Int) - 32) = ((s[k].toNat - 32 : Nat) : Int) := by simp at h1; omega
          have HO := Lib.hid (show s[k].toNat - 32 ≤ 255 ∧ gr (nx s k) = s[k].toNat - 32 from ⟨by omega, by rw [hn]; simp at h1 h2; unfold gr; rw [if_pos (by omega)]⟩)
          have hcv := conv_one (s[k].toNat - 32) wr HO.out.1
          clear hn
          go_upto_region 10 with fail
          clear e1 h255
          generalize s[k].toNat - 32 = o at *
          go_wp2_with fail

          go_roundw
          case rel => exact ⟨k + 1, x ++ ⟨#[UInt8.ofNat o]⟩, by omega, rfl, by go_num, HX.out.step HO.out.1 HO.out.2, grown_alloc HG.out _⟩
          case measure => simp [intOf]; omega
        | false =>
          have HO := Lib.hid (show s[k].toNat ≤ 255 ∧ gr (nx s k) = s[k].toNat from ⟨by omega, by rw [hn]; simp at h2; unfold gr; rw [if_neg (by omega)]⟩)
          have hcv := conv_one s[k].toNat wr HO.out.1
          clear hn h255
          go_upto_region 10 with fail
          generalize s[k].toNat = o at *
          go_wp2_with fail

          go_roundw
          case rel => exact ⟨k + 1, x ++ ⟨#[UInt8.ofNat o]⟩, by omega, rfl, by go_num, HX.out.step HO.out.1 HO.out.2, grown_alloc HG.out _⟩
          case measure => simp [intOf]; omega
      | false =>
        have HO := Lib.hid (show s[k].toNat ≤ 255 ∧ gr (nx s k) = s[k].toNat from ⟨by omega, by rw [hn]; simp at h1; unfold gr; rw [if_neg (by omega)]⟩)
        have hcv := conv_one s[k].toNat wr HO.out.1
        clear hn h255
        go_upto_region 10 with fail
        generalize s[k].toNat = o at *
        go_wp2_with fail

        go_roundw
        case rel => exact ⟨k + 1, x ++ ⟨#[UInt8.ofNat o]⟩, by omega, rfl, by go_num, HX.out.step HO.out.1 HO.out.2, grown_alloc HG.out _⟩
        case measure => simp [intOf]; omega
    · have HX : Hid (Gr s x) := Lib.hid (by have := HX.out; rw [show k = s.size from by omega] at this; exact this.full)
      have hxs : x.size ≤ 300 := by have := HX.out.size; omega
      clear hk
      have H1 := Lib.hid (fun w => span_any s w (by omega))
      have H2 := Lib.hid (fun w => span_any x w (by omega))
      rw [← HX.out.span] at H2
      by_cases hz : s.size = 0
      · have hz : ((s.size : Int) == 0) = true := by rw [beq_iff_eq]; omega
        obtain ⟨dd, n, e⟩ := durV_form (spanF s)
        rw [e] at H1 H2
        clear e
        simp only [dcells] at H1 H2
        go_wp2_with fail
        refine (H1.out _).mono ?_
        rintro e w1 ⟨rfl, g1⟩
        have G1 := grown_trans HG.out g1
        clear g1
        go_wp2_with fail
        refine (H2.out _).mono ?_
        rintro e w2 ⟨rfl, g2⟩
        have K1 := blk_grown g2 (blk_new w1 _) (by simp)
        have G2 := grown_trans (grown_alloc G1 _) g2
        clear g2 G1
        go_upto_region 13 with fail
        have K2 := blk_new w2 (.cells #[.int .i64 (dd 0), .int .i64 (dd 1), .int .i64 (dd 2), .int .i64 (dd 3), .int .i64 (dd 4), .int .i64 (dd 5), .int .i64 (dd 6), .int .i64 (dd 7)] 32)
        have K1 := (Below.heap_alloc w2 (.cells #[.int .i64 (dd 0), .int .i64 (dd 1), .int .i64 (dd 2), .int .i64 (dd 3), .int .i64 (dd 4), .int .i64 (dd 5), .int .i64 (dd 6), .int .i64 (dd 7)] 32) _ (Array.getElem?_eq_some_iff.1 K1).1).trans K1
        have G := Lib.hid (grown_alloc G2 (.cells #[.int .i64 (dd 0), .int .i64 (dd 1), .int .i64 (dd 2), .int .i64 (dd 3), .int .i64 (dd 4), .int .i64 (dd 5), .int .i64 (dd 6), .int .i64 (dd 7)] 32))
        generalize w2.alloc (.cells #[.int .i64 (dd 0), .int .i64 (dd 1), .int .i64 (dd 2), .int .i64 (dd 3), .int .i64 (dd 4), .int .i64 (dd 5), .int .i64 (dd 6), .int .i64 (dd 7)] 32) = W at *
        clear G2
        have a0 := blk_cell K1 0
        have a1 := blk_cell K1 1
        have a2 := blk_cell K1 2
        have a3 := blk_cell K1 3
        have a4 := blk_cell K1 4
        have a5 := blk_cell K1 5
        have a6 := blk_cell K1 6
        have a7 := blk_cell K1 7
        simp only [List.getElem?_toArray, List.getElem?_cons_zero, List.getElem?_cons_succ] at a0 a1 a2 a3 a4 a5 a6 a7
        have b0 := blk_cell K2 0
        have b1 := blk_cell K2 1
        have b2 := blk_cell K2 2
        have b3 := blk_cell K2 3
        have b4 := blk_cell K2 4
        have b5 := blk_cell K2 5
        have b6 := blk_cell K2 6
        have b7 := blk_cell K2 7
        simp only [List.getElem?_toArray, List.getElem?_cons_zero, List.getElem?_cons_succ] at b0 b1 b2 b3 b4 b5 b6 b7
        have KK := Lib.hid K1
        clear K1 K2
        go_wp2_with fail
        refine (H.out _ (M.out _ G.out)).mono ?_
        rintro e w6 ⟨rfl, hg⟩
        go_wp2_with fail
        go_ret
        exact ⟨rfl, grown_trans G.out hg⟩
      · have h0 : 0 < s.size := by omega
        have hz : ((s.size : Int) == 0) = false := by rw [Bool.eq_false_iff, ne_eq, beq_iff_eq]; omega
        have hn0 := nx_lt h0
        cases hp : ((s[0].toNat : Int) == 43) with
        | true =>
          clear hn0
          obtain ⟨dd, n, e⟩ := durV_form (spanF s)
          rw [e] at H1 H2
          clear e
          simp only [dcells] at H1 H2
          go_wp2_with fail
          refine (H1.out _).mono ?_
          rintro e w1 ⟨rfl, g1⟩
          have G1 := grown_trans HG.out g1
          clear g1
          go_wp2_with fail
          refine (H2.out _).mono ?_
          rintro e w2 ⟨rfl, g2⟩
          have K1 := blk_grown g2 (blk_new w1 _) (by simp)
          have G2 := grown_trans (grown_alloc G1 _) g2
          clear g2 G1
          go_upto_region 13 with fail
          have K2 := blk_new w2 (.cells #[.int .i64 (dd 0), .int .i64 (dd 1), .int .i64 (dd 2), .int .i64 (dd 3), .int .i64 (dd 4), .int .i64 (dd 5), .int .i64 (dd 6), .int .i64 (dd 7)] 32)
          have K1 := (Below.heap_alloc w2 (.cells #[.int .i64 (dd 0), .int .i64 (dd 1), .int .i64 (dd 2), .int .i64 (dd 3), .int .i64 (dd 4), .int .i64 (dd 5), .int .i64 (dd 6), .int .i64 (dd 7)] 32) _ (Array.getElem?_eq_some_iff.1 K1).1).trans K1
          have G := Lib.hid (grown_alloc G2 (.cells #[.int .i64 (dd 0), .int .i64 (dd 1), .int .i64 (dd 2), .int .i64 (dd 3), .int .i64 (dd 4), .int .i64 (dd 5), .int .i64 (dd 6), .int .i64 (dd 7)] 32))
          generalize w2.alloc (.cells #[.int .i64 (dd 0), .int .i64 (dd 1), .int .i64 (dd 2), .int .i64 (dd 3), .int .i64 (dd 4), .int .i64 (dd 5), .int .i64 (dd 6), .int .i64 (dd 7)] 32) = W at *
          clear G2
          have a0 := blk_cell K1 0
          have a1 := blk_cell K1 1
          have a2 := blk_cell K1 2
          have a3 := blk_cell K1 3
          have a4 := blk_cell K1 4
          have a5 := blk_cell K1 5
          have a6 := blk_cell K1 6
          have a7 := blk_cell K1 7
          simp only [List.getElem?_toArray, List.getElem?_cons_zero, List.getElem?_cons_succ] at a0 a1 a2 a3 a4 a5 a6 a7
          have b0 := blk_cell K2 0
          have b1 := blk_cell K2 1
          have b2 := blk_cell K2 2
          have b3 := blk_cell K2 3
          have b4 := blk_cell K2 4
          have b5 := blk_cell K2 5
          have b6 := blk_cell K2 6
          have b7 := blk_cell K2 7
          simp only [List.getElem?_toArray, List.getElem?_cons_zero, List.getElem?_cons_succ] at b0 b1 b2 b3 b4 b5 b6 b7
          have KK := Lib.hid K1
          clear K1 K2
          go_wp2_with fail
          refine (H.out _ (M.out _ G.out)).mono ?_
          rintro e w6 ⟨rfl, hg⟩
          go_wp2_with fail
          go_ret
          exact ⟨rfl, grown_trans G.out hg⟩
        | false =>
          cases hm : ((s[0].toNat : Int) == 45) with
          | true =>
            clear hn0
            obtain ⟨dd, n, e⟩ := durV_form (spanF s)
            rw [e] at H1 H2
            clear e
            simp only [dcells] at H1 H2
            go_wp2_with fail
            refine (H1.out _).mono ?_
            rintro e w1 ⟨rfl, g1⟩
            have G1 := grown_trans HG.out g1
            clear g1
            go_wp2_with fail
            refine (H2.out _).mono ?_
            rintro e w2 ⟨rfl, g2⟩
            have K1 := blk_grown g2 (blk_new w1 _) (by simp)
            have G2 := grown_trans (grown_alloc G1 _) g2
            clear g2 G1
            go_upto_region 13 with fail
            have K2 := blk_new w2 (.cells #[.int .i64 (dd 0), .int .i64 (dd 1), .int .i64 (dd 2), .int .i64 (dd 3), .int .i64 (dd 4), .int .i64 (dd 5), .int .i64 (dd 6), .int .i64 (dd 7)] 32)
            have K1 := (Below.heap_alloc w2 (.cells #[.int .i64 (dd 0), .int .i64 (dd 1), .int .i64 (dd 2), .int .i64 (dd 3), .int .i64 (dd 4), .int .i64 (dd 5), .int .i64 (dd 6), .int .i64 (dd 7)] 32) _ (Array.getElem?_eq_some_iff.1 K1).1).trans K1
            have G := Lib.hid (grown_alloc G2 (.cells #[.int .i64 (dd 0), .int .i64 (dd 1), .int .i64 (dd 2), .int .i64 (dd 3), .int .i64 (dd 4), .int .i64 (dd 5), .int .i64 (dd 6), .int .i64 (dd 7)] 32))
            generalize w2.alloc (.cells #[.int .i64 (dd 0), .int .i64 (dd 1), .int .i64 (dd 2), .int .i64 (dd 3), .int .i64 (dd 4), .int .i64 (dd 5), .int .i64 (dd 6), .int .i64 (dd 7)] 32) = W at *
            clear G2
            have a0 := blk_cell K1 0
            have a1 := blk_cell K1 1
            have a2 := blk_cell K1 2
            have a3 := blk_cell K1 3
            have a4 := blk_cell K1 4
            have a5 := blk_cell K1 5
            have a6 := blk_cell K1 6
            have a7 := blk_cell K1 7
            simp only [List.getElem?_toArray, List.getElem?_cons_zero, List.getElem?_cons_succ] at a0 a1 a2 a3 a4 a5 a6 a7
            have b0 := blk_cell K2 0
            have b1 := blk_cell K2 1
            have b2 := blk_cell K2 2
            have b3 := blk_cell K2 3
            have b4 := blk_cell K2 4
            have b5 := blk_cell K2 5
            have b6 := blk_cell K2 6
            have b7 := blk_cell K2 7
            simp only [List.getElem?_toArray, List.getElem?_cons_zero, List.getElem?_cons_succ] at b0 b1 b2 b3 b4 b5 b6 b7
            have KK := Lib.hid K1
            clear K1 K2
            go_wp2_with fail
            refine (H.out _ (M.out _ G.out)).mono ?_
            rintro e w6 ⟨rfl, hg⟩
            go_wp2_with fail
            go_ret
            exact ⟨rfl, grown_trans G.out hg⟩
          | false =>
            obtain ⟨dd, n, e1, e2, e3, hd, hd2, hr⟩ := letters_form (s := s) (by rw [hn0]; simp at hp hm; omega)
            have HM := Lib.hid (fun w => span_any (⟨#[45]⟩ ++ s) w (by rw [app_size]; show 1 + _ ≤ _; omega))
            have HP := Lib.hid (fun w => span_any (⟨#[43]⟩ ++ s) w (by rw [app_size]; show 1 + _ ≤ _; omega))
            have HN := Lib.hid (fun w => dneg_any dd w hd hd2 hr)
            rw [e1] at H1 H2
            rw [e2] at HM
            rw [e3] at HP
            clear e1 e2 e3 hd hd2 hr hn0
            simp only [dcells] at H1 H2
            go_wp2_with fail
            refine (H1.out _).mono ?_
            rintro e w1 ⟨rfl, g1⟩
            have G1 := grown_trans HG.out g1
            clear g1
            go_wp2_with fail
            refine (H2.out _).mono ?_
            rintro e w2 ⟨rfl, g2⟩
            have K1 := blk_grown g2 (blk_new w1 _) (by simp)
            have G2 := grown_trans (grown_alloc G1 _) g2
            clear g2 G1
            go_upto_region 13 with fail
            have K2 := blk_new w2 (.cells #[.int .i64 (dd 0), .int .i64 (dd 1), .int .i64 (dd 2), .int .i64 (dd 3), .int .i64 (dd 4), .int .i64 (dd 5), .int .i64 (dd 6), .int .i64 (dd 7)] 32)
            have K1 := (Below.heap_alloc w2 (.cells #[.int .i64 (dd 0), .int .i64 (dd 1), .int .i64 (dd 2), .int .i64 (dd 3), .int .i64 (dd 4), .int .i64 (dd 5), .int .i64 (dd 6), .int .i64 (dd 7)] 32) _ (Array.getElem?_eq_some_iff.1 K1).1).trans K1
            have G := Lib.hid (grown_alloc G2 (.cells #[.int .i64 (dd 0), .int .i64 (dd 1), .int .i64 (dd 2), .int .i64 (dd 3), .int .i64 (dd 4), .int .i64 (dd 5), .int .i64 (dd 6), .int .i64 (dd 7)] 32))
            generalize w2.alloc (.cells #[.int .i64 (dd 0), .int .i64 (dd 1), .int .i64 (dd 2), .int .i64 (dd 3), .int .i64 (dd 4), .int .i64 (dd 5), .int .i64 (dd 6), .int .i64 (dd 7)] 32) = W at *
            clear G2
            have a0 := blk_cell K1 0
            have a1 := blk_cell K1 1
            have a2 := blk_cell K1 2
            have a3 := blk_cell K1 3
            have a4 := blk_cell K1 4
            have a5 := blk_cell K1 5
            have a6 := blk_cell K1 6
            have a7 := blk_cell K1 7
            simp only [List.getElem?_toArray, List.getElem?_cons_zero, List.getElem?_cons_succ] at a0 a1 a2 a3 a4 a5 a6 a7
            have b0 := blk_cell K2 0
            have b1 := blk_cell K2 1
            have b2 := blk_cell K2 2
            have b3 := blk_cell K2 3
            have b4 := blk_cell K2 4
            have b5 := blk_cell K2 5
            have b6 := blk_cell K2 6
            have b7 := blk_cell K2 7
            simp only [List.getElem?_toArray, List.getElem?_cons_zero, List.getElem?_cons_succ] at b0 b1 b2 b3 b4 b5 b6 b7
            have KK := Lib.hid K1
            clear K1 K2
            simp only [dcells] at HM HP HN
            go_wp2_with fail
            clear a0 a1 a2 a3 a4 a5 a6 a7 b0 b1 b2 b3 b4 b5 b6 b7
            refine (HM.out _).mono ?_
            rintro e w3 ⟨rfl, g3⟩
            have K1 := blk_grown g3 KK.out (by simp)
            have G3 := grown_trans G.out g3
            clear g3 KK G
            go_upto_region 18 with fail
            have K3 := blk_new w3 (.cells #[.int .i64 (-dd 0), .int .i64 (-dd 1), .int .i64 (-dd 2), .int .i64 (-dd 3), .int .i64 (-dd 4), .int .i64 (-dd 5), .int .i64 (-dd 6), .int .i64 (-dd 7)] 32)
            have K1 := (Below.heap_alloc w3 (.cells #[.int .i64 (-dd 0), .int .i64 (-dd 1), .int .i64 (-dd 2), .int .i64 (-dd 3), .int .i64 (-dd 4), .int .i64 (-dd 5), .int .i64 (-dd 6), .int .i64 (-dd 7)] 32) _ (Array.getElem?_eq_some_iff.1 K1).1).trans K1
            have G3 := Lib.hid (grown_alloc G3 (.cells #[.int .i64 (-dd 0), .int .i64 (-dd 1), .int .i64 (-dd 2), .int .i64 (-dd 3), .int .i64 (-dd 4), .int .i64 (-dd 5), .int .i64 (-dd 6), .int .i64 (-dd 7)] 32))
            generalize w3.alloc (.cells #[.int .i64 (-dd 0), .int .i64 (-dd 1), .int .i64 (-dd 2), .int .i64 (-dd 3), .int .i64 (-dd 4), .int .i64 (-dd 5), .int .i64 (-dd 6), .int .i64 (-dd 7)] 32) = W3 at *
            have a0 := blk_cell K1 0
            have a1 := blk_cell K1 1
            have a2 := blk_cell K1 2
            have a3 := blk_cell K1 3
            have a4 := blk_cell K1 4
            have a5 := blk_cell K1 5
            have a6 := blk_cell K1 6
            have a7 := blk_cell K1 7
            simp only [List.getElem?_toArray, List.getElem?_cons_zero, List.getElem?_cons_succ] at a0 a1 a2 a3 a4 a5 a6 a7
            have H31 := Lib.hid K1
            have H33 := Lib.hid K3
            clear K1 K3
            go_wp2_with fail
            clear a0 a1 a2 a3 a4 a5 a6 a7
            refine (HN.out _).mono ?_
            rintro e w4 ⟨rfl, g4⟩
            have H41 := Lib.hid (blk_grown g4 H31.out (by simp))
            have H43 := Lib.hid (blk_grown g4 H33.out (by simp))
            have G4 := Lib.hid (grown_trans G3.out g4)
            clear g4 H31 H33 G3
            go_wp2_with fail
            refine (HP.out _).mono ?_
            rintro e w5 ⟨rfl, g5⟩
            have H51 := Lib.hid (blk_next H41.out g5)
            have H53 := Lib.hid (blk_next H43.out g5)
            have H54 := Lib.hid (blk_grown g5 (blk_new w4 _) (by simp))
            have G5 := grown_alloc (grown_trans (grown_alloc G4.out _) g5) (.cells #[.int .i64 (dd 0), .int .i64 (dd 1), .int .i64 (dd 2), .int .i64 (dd 3), .int .i64 (dd 4), .int .i64 (dd 5), .int .i64 (dd 6), .int .i64 (dd 7)] 32)
            clear g5 H41 H43 G4
            go_wp2_with fail
            refine (H.out _ (M.out _ G5)).mono ?_
            rintro e w6 ⟨rfl, g6⟩
            have K1 := blk_next H51.out g6
            have K3 := blk_next H53.out g6
            have K4 := blk_next H54.out g6
            have K5 := blk_grown g6 (blk_new w5 _) (by simp)
            have G6 := grown_trans G5 g6
            clear g6 H51 H53 H54 G5
            have a0 := blk_cell K1 0
            have a1 := blk_cell K1 1
            have a2 := blk_cell K1 2
            have a3 := blk_cell K1 3
            have a4 := blk_cell K1 4
            have a5 := blk_cell K1 5
            have a6 := blk_cell K1 6
            have a7 := blk_cell K1 7
            simp only [List.getElem?_toArray, List.getElem?_cons_zero, List.getElem?_cons_succ] at a0 a1 a2 a3 a4 a5 a6 a7
            have b0 := blk_cell K3 0
            have b1 := blk_cell K3 1
            have b2 := blk_cell K3 2
            have b3 := blk_cell K3 3
            have b4 := blk_cell K3 4
            have b5 := blk_cell K3 5
            have b6 := blk_cell K3 6
            have b7 := blk_cell K3 7
            simp only [List.getElem?_toArray, List.getElem?_cons_zero, List.getElem?_cons_succ] at b0 b1 b2 b3 b4 b5 b6 b7
            have c0 := blk_cell K4 0
            have c1 := blk_cell K4 1
            have c2 := blk_cell K4 2
            have c3 := blk_cell K4 3
            have c4 := blk_cell K4 4
            have c5 := blk_cell K4 5
            have c6 := blk_cell K4 6
            have c7 := blk_cell K4 7
            simp only [List.getElem?_toArray, List.getElem?_cons_zero, List.getElem?_cons_succ] at c0 c1 c2 c3 c4 c5 c6 c7
            have d0 := blk_cell K5 0
            have d1 := blk_cell K5 1
            have d2 := blk_cell K5 2
            have d3 := blk_cell K5 3
            have d4 := blk_cell K5 4
            have d5 := blk_cell K5 5
            have d6 := blk_cell K5 6
            have d7 := blk_cell K5 7
            simp only [List.getElem?_toArray, List.getElem?_cons_zero, List.getElem?_cons_succ] at d0 d1 d2 d3 d4 d5 d6 d7
            clear K1 K3 K4 K5
            cases hnn : (n != 0) with
            | true =>
              go_wp2_with fail
              go_ret
              exact ⟨rfl, G6⟩
            | false =>
              go_wp2_with fail
              go_ret
              exact ⟨rfl, G6⟩
theorem let_any {m : Int} (s : ByteArray) (w : World) (hm : w.cell? ⟨1, 0, none⟩ = some (.int .i64 m)) (hs : s.size ≤ 140737488351232) :
    Calls Tryz.prog 6 #[.string s] w fun e w' => e = .returned (.bool true) ∧ w.grownBy w' none := by
  by_cases h : 300 < s.size
  · exact let_big s w hm h
  · exact let_small s w hm (by omega)

end Go.Proofs.YtkhpdiilghncgaaGreatDoor
