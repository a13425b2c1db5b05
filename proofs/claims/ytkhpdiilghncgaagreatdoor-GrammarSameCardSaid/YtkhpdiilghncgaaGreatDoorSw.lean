/- GrammarSame: the walk. -/
import Derived.Test.YtkhpdiilghncgaaGreatDoorPt
import Derived.Test.YtkhpdiilghncgaaGreatDoorAl
namespace Go.Proofs.YtkhpdiilghncgaaGreatDoor
open Go.RowKit
set_option linter.unusedVariables false

theorem same_big1 {m : Int} (a b : ByteArray) (w : World) (hm : w.cell? ⟨1, 0, none⟩ = some (.int .i64 m)) (h : 100 < a.size ∨ 100 < b.size) :
    Calls Tryz.prog 5 #[.string a, .string b] w fun e w' => e = .returned (.bool true) ∧ w.grownBy w' none := by
  have H := Lib.hid (fun w h => alive_any (m := m) w h)
  cases h1 : decide ((100 : Int) < (a.size : Int)) with
  | true =>
    go_enter Tryz.func5, Tryz.ntmps5
    go_wp2_with fail
    refine (H.out _ hm).mono ?_
    rintro e w1 ⟨rfl, hg⟩
    go_wp2_with fail
    go_ret
    exact ⟨rfl, hg⟩
  | false =>
    have h2 : decide ((100 : Int) < (b.size : Int)) = true := by simp at h1; simp; omega
    go_enter Tryz.func5, Tryz.ntmps5
    go_wp2_with fail
    refine (H.out _ hm).mono ?_
    rintro e w1 ⟨rfl, hg⟩
    go_wp2_with fail
    go_ret
    exact ⟨rfl, hg⟩

set_option maxRecDepth 20000 in
set_option maxHeartbeats 2000000 in
theorem same_small {m : Int} (a b : ByteArray) (w : World) (hm : w.cell? ⟨1, 0, none⟩ = some (.int .i64 m)) (ha : a.size ≤ 100) (hb : b.size ≤ 100) :
    Calls Tryz.prog 5 #[.string a, .string b] w fun e w' => e = .returned (.bool true) ∧ w.grownBy w' none := by
  have H := Lib.hid (fun w h => alive_any (m := m) w h)
  have h1 : decide ((100 : Int) < (a.size : Int)) = false := by simp; omega
  have h2 : decide ((100 : Int) < (b.size : Int)) = false := by simp; omega
  have M := Lib.hid (fun w' (g : w.grownBy w' none) => grown_cell g hm)
  clear hm
  go_enter Tryz.func5, Tryz.ntmps5
  go_wp2_with fail
  go_loop [5] (fun i => ∃ k : Nat, k ≤ a.size ∧ i = .int .i64 k ∧ NoBr a k) (fun i => a.size - (intOf i).toNat)
  case atStart => exact ⟨0, Nat.zero_le _, rfl, NoBr.zero _⟩
  case round =>
    obtain ⟨k, hk, rfl, hn⟩ := hrel
    have HN := Lib.hid hn
    clear hn
    by_cases hlt : k < a.size
    · have hx := nx_lt hlt
      cases hc : ((a[k].toNat : Int) == 91) with
      | true =>
        clear hx
        go_wp2_with fail
        refine (H.out _ (M.out _ (grown_refl _ _))).mono ?_
        rintro e w1 ⟨rfl, hg⟩
        go_wp2_with fail
        go_ret
        exact ⟨rfl, hg⟩
      | false =>
        have HB := Lib.hid (show nx a k ≠ 91 by rw [hx]; simp at hc; omega)
        clear hx
        go_wp2_with fail
        go_round
        case rel => exact ⟨k + 1, by omega, by go_num, HN.out.step HB.out⟩
        case measure => simp [intOf]; omega
    · have HB : Hid (NoBr a a.size) := Lib.hid (by have := HN.out; rwa [show k = a.size from by omega] at this)
      clear HN hk
      go_wp2_with fail
      clear hlt
      go_loop [6, 7] (fun d i => ∃ x : ByteArray, d = .string x ∧ x.size ≤ 100 ∧ ((∃ k : Nat, k ≤ b.size ∧ i = .int .i64 k ∧ Dt b x k) ∨ (i = .int .i64 ((b.size : Int) + 1) ∧ Df b x))) (fun _ i => b.size + 1 - (intOf i).toNat)
      case atStart => exact ⟨⟨#[]⟩, rfl, by decide, .inl ⟨0, Nat.zero_le _, rfl, Dt.zero _⟩⟩
      case round =>
        obtain ⟨x, rfl, hx, hk⟩ := hrel
        by_cases hlt : ∃ k : Nat, k < b.size ∧ u7 = .int .i64 k ∧ Dt b x k
        · obtain ⟨k, hlt, rfl, ht⟩ := hlt
          have HT := Lib.hid ht
          clear ht hk
          have HX := Lib.hid (nx_lt hlt)
          cases hc : ((b[k].toNat : Int) == 91) with
          | true =>
            have HD := Lib.hid (HT.out.rest (by omega))
            go_wp2_with fail
            go_round
            case rel => exact ⟨_, rfl, by have := HD.out.1; omega, .inr ⟨rfl, HD.out⟩⟩
            case measure => simp [intOf]; omega
          | false =>
            have H91 : Hid (nx b k ≠ 91) := Lib.hid (by rw [HX.out]; simp at hc; omega)
            cases hc2 : ((b[k].toNat : Int) == 46) with
            | true =>
              have HD := Lib.hid (HT.out.step (c := 44) H91.out (by rw [HX.out]; simp at hc2; unfold swp; rw [if_pos (by omega)]; rfl))
              go_wp2_with fail
              go_round
              case rel => exact ⟨_, rfl, by have := HD.out.size; omega, .inl ⟨k + 1, by omega, by go_num, HD.out⟩⟩
              case measure => simp [intOf]; omega
            | false =>
              cases hc3 : ((b[k].toNat : Int) == 44) with
              | true =>
                have HD := Lib.hid (HT.out.step (c := 46) H91.out (by rw [HX.out]; simp at hc2 hc3; unfold swp; rw [if_neg (by omega), if_pos (by omega)]; rfl))
                go_wp2_with fail
                go_round
                case rel => exact ⟨_, rfl, by have := HD.out.size; omega, .inl ⟨k + 1, by omega, by go_num, HD.out⟩⟩
                case measure => simp [intOf]; omega
              | false =>
                have HD := Lib.hid (HT.out.same hlt H91.out (by rw [HX.out]; simp at hc2; omega) (by rw [HX.out]; simp at hc3; omega))
                go_wp2_with fail
                go_round
                case rel => exact ⟨_, rfl, by have := HD.out.size; omega, .inl ⟨k + 1, by omega, by go_num, HD.out⟩⟩
                case measure => simp [intOf]; omega
        · obtain ⟨j, hj, rfl, HD⟩ : ∃ j : Nat, b.size ≤ j ∧ u7 = .int .i64 j ∧ Hid (Df b x) := by
            rcases hk with ⟨k, hk, rfl, ht⟩ | ⟨rfl, hd⟩
            · by_cases c : k < b.size
              · exact absurd ⟨k, c, rfl, ht⟩ hlt
              · exact ⟨k, by omega, rfl, Lib.hid (ht.full (by omega))⟩
            · exact ⟨b.size + 1, by omega, by go_num, Lib.hid hd⟩
          have hlj : ¬ j < b.size := by omega
          have HP1 := Lib.hid (fun w h => parse_any (txt a 84 b) (m := m) w (by rw [txt_size]; omega) h)
          have HP2 := Lib.hid (fun w h => parse_any (txt a 116 b) (m := m) w (by rw [txt_size]; omega) h)
          have HP3 := Lib.hid (fun w h => parse_any (txt a 32 b) (m := m) w (by rw [txt_size]; omega) h)
          have HP4 := Lib.hid (fun w h => parse_any (txt a 84 x) (m := m) w (by rw [txt_size]; omega) h)
          rw [← same_parse (a := 84) HB.out (by unfold isSep; decide) (by unfold isSep; decide)] at HP2 HP3
          rw [dots_parse HB.out HD.out] at HP4
          obtain ⟨y, mo, d, ht, hh, mi, xx, ff, kd, oo, zz, nn, e⟩ := parV_form (parseF (txt a 84 b))
          rw [e] at HP1 HP2 HP3 HP4
          unfold txt at HP1 HP2 HP3 HP4
          clear e hk hlt
          have hlt := hlj
          go_wp2_with fail
          clear hlt hlj
          refine (HP1.out _ (M.out _ (grown_refl _ _))).mono ?_
          rintro e w1 ⟨rfl, G1⟩
          go_wp2_with fail
          refine (HP2.out _ (M.out _ (grown_alloc G1 _))).mono ?_
          rintro e w2 ⟨rfl, g2⟩
          have K1 := blk_grown g2 (blk_new w1 _) (by simp)
          have l1 : w1.heap.size < w2.heap.size := (Array.getElem?_eq_some_iff.1 K1).1
          have G2 := grown_trans (grown_alloc G1 _) g2
          clear g2 G1
          go_wp2_with fail
          refine (HP3.out _ (M.out _ (grown_alloc G2 _))).mono ?_
          rintro e w3 ⟨rfl, g3⟩
          have K2 := blk_grown g3 (blk_new w2 _) (by simp)
          have K1 := blk_grown g3 ((Below.heap_alloc _ _ _ l1).trans K1) (by simp)
          have l2 : w2.heap.size < w3.heap.size := (Array.getElem?_eq_some_iff.1 K2).1
          have l1 : w1.heap.size < w3.heap.size := by omega
          have G3 := grown_trans (grown_alloc G2 _) g3
          clear g3 G2
          go_upto_region 23 with fail
          have K3 := blk_new w3 (.cells #[.int .i64 y, .int .i64 mo, .int .i64 d, .bool ht, .int .i64 hh, .int .i64 mi, .int .i64 xx, .int .i64 ff, .int .i64 kd, .int .i64 oo, .string zz] 40)
          have K2 := (Below.heap_alloc w3 (.cells #[.int .i64 y, .int .i64 mo, .int .i64 d, .bool ht, .int .i64 hh, .int .i64 mi, .int .i64 xx, .int .i64 ff, .int .i64 kd, .int .i64 oo, .string zz] 40) _ l2).trans K2
          have K1 := (Below.heap_alloc w3 (.cells #[.int .i64 y, .int .i64 mo, .int .i64 d, .bool ht, .int .i64 hh, .int .i64 mi, .int .i64 xx, .int .i64 ff, .int .i64 kd, .int .i64 oo, .string zz] 40) _ l1).trans K1
          have G3 := grown_alloc G3 (.cells #[.int .i64 y, .int .i64 mo, .int .i64 d, .bool ht, .int .i64 hh, .int .i64 mi, .int .i64 xx, .int .i64 ff, .int .i64 kd, .int .i64 oo, .string zz] 40)
          generalize w3.alloc (.cells #[.int .i64 y, .int .i64 mo, .int .i64 d, .bool ht, .int .i64 hh, .int .i64 mi, .int .i64 xx, .int .i64 ff, .int .i64 kd, .int .i64 oo, .string zz] 40) = W at *
          clear l1 l2
          have a0 := blk_cell K1 0
          have a1 := blk_cell K1 1
          have a2 := blk_cell K1 2
          have a3 := blk_cell K1 3
          have a4 := blk_cell K1 4
          have a5 := blk_cell K1 5
          have a6 := blk_cell K1 6
          have a7 := blk_cell K1 7
          have a8 := blk_cell K1 8
          have a9 := blk_cell K1 9
          have a10 := blk_cell K1 10
          simp only [List.getElem?_toArray, List.getElem?_cons_zero, List.getElem?_cons_succ] at a0 a1 a2 a3 a4 a5 a6 a7 a8 a9 a10
          have b0 := blk_cell K2 0
          have b1 := blk_cell K2 1
          have b2 := blk_cell K2 2
          have b3 := blk_cell K2 3
          have b4 := blk_cell K2 4
          have b5 := blk_cell K2 5
          have b6 := blk_cell K2 6
          have b7 := blk_cell K2 7
          have b8 := blk_cell K2 8
          have b9 := blk_cell K2 9
          have b10 := blk_cell K2 10
          simp only [List.getElem?_toArray, List.getElem?_cons_zero, List.getElem?_cons_succ] at b0 b1 b2 b3 b4 b5 b6 b7 b8 b9 b10
          have c0 := blk_cell K3 0
          have c1 := blk_cell K3 1
          have c2 := blk_cell K3 2
          have c3 := blk_cell K3 3
          have c4 := blk_cell K3 4
          have c5 := blk_cell K3 5
          have c6 := blk_cell K3 6
          have c7 := blk_cell K3 7
          have c8 := blk_cell K3 8
          have c9 := blk_cell K3 9
          have c10 := blk_cell K3 10
          simp only [List.getElem?_toArray, List.getElem?_cons_zero, List.getElem?_cons_succ] at c0 c1 c2 c3 c4 c5 c6 c7 c8 c9 c10
          have KK := Lib.hid K1
          have GG := Lib.hid G3
          clear K1 K2 K3 G3
          go_wp2_with fail
          clear a0 a1 a2 a3 a4 a5 a6 a7 a8 a9 a10 b0 b1 b2 b3 b4 b5 b6 b7 b8 b9 b10 c0 c1 c2 c3 c4 c5 c6 c7 c8 c9 c10
          go_loop [14] (fun i => ∃ k : Nat, k ≤ a.size ∧ i = .int .i64 k) (fun i => a.size - (intOf i).toNat)
          case atStart => exact ⟨0, Nat.zero_le _, rfl⟩
          case round =>
            obtain ⟨k, hk, rfl⟩ := hrel
            by_cases hlt : k < a.size
            · cases hc : ((a[k].toNat : Int) == 91) with
              | true =>
                go_wp2_with fail
                refine (H.out _ (M.out _ GG.out)).mono ?_
                rintro e w6 ⟨rfl, hg⟩
                go_wp2_with fail
                go_ret
                exact ⟨rfl, grown_trans GG.out hg⟩
              | false =>
                cases hc2 : ((a[k].toNat : Int) == 46) with
                | true =>
                  go_wp2_with fail
                  refine (H.out _ (M.out _ GG.out)).mono ?_
                  rintro e w6 ⟨rfl, hg⟩
                  go_wp2_with fail
                  go_ret
                  exact ⟨rfl, grown_trans GG.out hg⟩
                | false =>
                  cases hc3 : ((a[k].toNat : Int) == 44) with
                  | true =>
                    go_wp2_with fail
                    refine (H.out _ (M.out _ GG.out)).mono ?_
                    rintro e w6 ⟨rfl, hg⟩
                    go_wp2_with fail
                    go_ret
                    exact ⟨rfl, grown_trans GG.out hg⟩
                  | false =>
                    go_wp2_with fail
                    go_round
                    case rel => exact ⟨k + 1, by omega, by go_num⟩
                    case measure => simp [intOf]; omega
            · go_wp2_with fail
              clear hlt
              refine (HP4.out _ (M.out _ GG.out)).mono ?_
              rintro e w5 ⟨rfl, g5⟩
              have K1 := blk_grown g5 KK.out (by simp)
              have l1 := (Array.getElem?_eq_some_iff.1 K1).1
              have G5 := grown_alloc (grown_trans GG.out g5) (.cells #[.int .i64 y, .int .i64 mo, .int .i64 d, .bool ht, .int .i64 hh, .int .i64 mi, .int .i64 xx, .int .i64 ff, .int .i64 kd, .int .i64 oo, .string zz] 40)
              clear g5
              go_wp2_with fail
              refine (H.out _ (M.out _ G5)).mono ?_
              rintro e w6 ⟨rfl, g6⟩
              have K2 := blk_grown g6 (blk_new w5 _) (by simp)
              have K1 := blk_grown g6 ((Below.heap_alloc _ _ _ l1).trans K1) (by simp)
              have G6 := grown_trans G5 g6
              clear g6 G5 l1
              have a0 := blk_cell K1 0
              have a1 := blk_cell K1 1
              have a2 := blk_cell K1 2
              have a3 := blk_cell K1 3
              have a4 := blk_cell K1 4
              have a5 := blk_cell K1 5
              have a6 := blk_cell K1 6
              have a7 := blk_cell K1 7
              have a8 := blk_cell K1 8
              have a9 := blk_cell K1 9
              have a10 := blk_cell K1 10
              simp only [List.getElem?_toArray, List.getElem?_cons_zero, List.getElem?_cons_succ] at a0 a1 a2 a3 a4 a5 a6 a7 a8 a9 a10
              have b0 := blk_cell K2 0
              have b1 := blk_cell K2 1
              have b2 := blk_cell K2 2
              have b3 := blk_cell K2 3
              have b4 := blk_cell K2 4
              have b5 := blk_cell K2 5
              have b6 := blk_cell K2 6
              have b7 := blk_cell K2 7
              have b8 := blk_cell K2 8
              have b9 := blk_cell K2 9
              have b10 := blk_cell K2 10
              simp only [List.getElem?_toArray, List.getElem?_cons_zero, List.getElem?_cons_succ] at b0 b1 b2 b3 b4 b5 b6 b7 b8 b9 b10
              clear K1 K2
              go_wp2_with fail
              go_ret
              exact ⟨rfl, G6⟩
theorem same_any {m : Int} (a b : ByteArray) (w : World) (hm : w.cell? ⟨1, 0, none⟩ = some (.int .i64 m)) (ha : a.size ≤ 140737488351232) (hb : b.size ≤ 140737488351232) :
    Calls Tryz.prog 5 #[.string a, .string b] w fun e w' => e = .returned (.bool true) ∧ w.grownBy w' none := by
  by_cases h : 100 < a.size ∨ 100 < b.size
  · exact same_big1 a b w hm h
  · exact same_small a b w hm (by omega) (by omega)

end Go.Proofs.YtkhpdiilghncgaaGreatDoor
