/- GrammarOdd: the walk. -/
import Derived.Test.YtkhpdiilghncgaaGreatDoorOq
import Derived.Test.YtkhpdiilghncgaaGreatDoorNb
import Derived.Test.YtkhpdiilghncgaaGreatDoorAl
import Derived.Laws.IdiomStrings
namespace Go.Proofs.YtkhpdiilghncgaaGreatDoor
open Go.RowKit
set_option linter.unusedVariables false

theorem odd_big {m : Int} (a b : ByteArray) (c : Nat) (w : World) (hm : w.cell? ⟨1, 0, none⟩ = some (.int .i64 m)) (h : 300 < a.size + b.size) (ha : a.size ≤ 140737488351232) (hb : b.size ≤ 140737488351232) :
    Calls Tryz.prog 7 #[.string a, .int .u8 c, .string b] w fun e w' => e = .returned (.bool true) ∧ w.grownBy w' none := by
  have H := Lib.hid (fun w h => alive_any (m := m) w h)
  have hl : decide ((300 : Int) < (a.size : Int) + (b.size : Int)) = true := by simp; omega
  go_enter Tryz.func7, Tryz.ntmps7
  go_wp2_with fail
  refine (H.out _ hm).mono ?_
  rintro e w1 ⟨rfl, hg⟩
  go_wp2_with fail
  go_ret
  exact ⟨rfl, hg⟩

/-- The odd byte. -/
def oddB (c : Nat) : Nat := if 32 ≤ c ∧ c < 127 then c + 128 else c
def oddS (a b : ByteArray) (c : Nat) : ByteArray := a ++ ⟨#[UInt8.ofNat (oddB c)]⟩ ++ b
theorem oddS_size (a b : ByteArray) (c : Nat) : (oddS a b c).size = a.size + 1 + b.size := by unfold oddS; rw [ByteArray.size_append, ByteArray.size_append]; rfl
theorem odd_not (a b : ByteArray) (c : Nat) (hc : c ≤ 255) : ¬ Fine (oddS a b c) 0 (oddS a b c).size := by
  intro h
  have := h.2 a.size (Nat.zero_le _) (by rw [oddS_size]; omega)
  have e : nx (oddS a b c) a.size = oddB c := by
    have h2 : oddB c ≤ 255 := by unfold oddB; split <;> omega
    unfold oddS
    rw [nx_app_lt (by rw [app_size]; show _ < _ + 1; omega), nx_app_ge (Nat.le_refl _), Nat.sub_self, nx_one]
    simp; omega
  rw [e] at this
  unfold oddB at this
  split at this <;> omega
theorem conv_one (o : Nat) (w : World) (ho : o ≤ 255) : (convert 44 9 (.slice (some ⟨w.heap.size, 0, none⟩) 1 1)).run Tryz.prog (w.alloc (.cells #[.int .u8 (o : Int)] 5)) = .ok (.string ⟨#[o.toUInt8]⟩) (w.alloc (.cells #[.int .u8 (o : Int)] 5)) := by
  have h := run_convert_bytes_back (P := Tryz.prog) (w.alloc (.cells #[.int .u8 (o : Int)] 5)) 44 9 5 ⟨w.heap.size, 0, none⟩ 1 [o.toUInt8] Tryz.underlying44 Tryz.underlying5 Tryz.underlying9 (fun j hj => by
    have hj0 : j = 0 := by simpa using hj
    subst hj0
    have e : ((o.toUInt8).toNat : Int) = o := by rw [show (o.toUInt8).toNat = o from by simp; omega]
    simp only [List.getElem_cons_zero]
    rw [e]
    exact blk_cell (alloc_at w _) 0)
  exact h
theorem parV_err : parV (.error 6) = .tuple #[.agg #[.int .i64 0, .int .i64 0, .int .i64 0, .bool false, .int .i64 0, .int .i64 0, .int .i64 0, .int .i64 0, .int .i64 0, .int .i64 0, .string ⟨#[]⟩], .int .i64 6] := rfl
theorem durV_err : durV (.error 6) = .tuple #[.agg #[.int .i64 0, .int .i64 0, .int .i64 0, .int .i64 0, .int .i64 0, .int .i64 0, .int .i64 0, .int .i64 0], .int .i64 6] := rfl
theorem clkV_err : clkV none = .tuple #[.agg #[.int .i64 0, .int .i64 0, .int .i64 0, .int .i64 0], .int .i64 6] := rfl
set_option maxRecDepth 20000 in
set_option maxHeartbeats 1000000 in
theorem odd_small {m : Int} (a b : ByteArray) (c : Nat) (w : World) (hm : w.cell? ⟨1, 0, none⟩ = some (.int .i64 m)) (h : a.size + b.size ≤ 300) (hc : c ≤ 255) :
    Calls Tryz.prog 7 #[.string a, .int .u8 c, .string b] w fun e w' => e = .returned (.bool true) ∧ w.grownBy w' none := by
  have hl : decide ((300 : Int) < (a.size : Int) + (b.size : Int)) = false := by simp; omega
  have hodd := odd_not a b c hc
  have H := Lib.hid (fun w h => alive_any (m := m) w h)
  have H0 := Lib.hid (fun w h => parse_any (oddS a b c) (m := m) w (by rw [oddS_size]; omega) h)
  have H1 := Lib.hid (fun w => span_any (oddS a b c) w (by rw [oddS_size]; omega))
  have H2 := Lib.hid (fun w => clock_fn (oddS a b c) w (by rw [oddS_size]; omega))
  have M := Lib.hid (fun w' (g : w.grownBy w' none) => grown_cell g hm)
  rw [parse_odd hodd, parV_err] at H0
  rw [span_odd hodd, durV_err] at H1
  rw [clk_odd hodd, clkV_err] at H2
  unfold oddS at H0 H1 H2
  clear hodd hm
  cases h1 : decide ((32 : Int) ≤ (c : Int)) with
  | true =>
    cases h2 : decide ((c : Int) < 127) with
    | true =>
      have hb : oddB c = c + 128 := by simp at h1 h2; unfold oddB; rw [if_pos (by omega)]
      have e1 : ((c : Int) + 128) % 256 = (oddB c : Int) := by rw [hb]; simp at h2; omega
      go_enter Tryz.func7, Tryz.ntmps7
      go_upto_region 6 with fail
      rw [show (c : Int) + 128 = (oddB c : Int) by rw [hb]; rfl]
      have hcv := conv_one (oddB c) w (by rw [hb]; simp at h2; omega)
      clear hb e1
      generalize oddB c = o at *
      go_wp2_with fail
      have G0 := grown_alloc (grown_refl w none) (.cells #[.int .u8 (o : Int)] 5)
      refine (H0.out _ (M.out _ G0)).mono ?_
      rintro e w1 ⟨rfl, g1⟩
      have G1 := grown_trans G0 g1
      clear G0 g1 hcv
      go_wp2_with fail
      refine (H2.out _).mono ?_
      rintro e w2 ⟨rfl, g2⟩
      have K1 := blk_grown g2 (alloc_at w1 _) (by simp)
      have l1 : w1.heap.size < w2.heap.size := (Array.getElem?_eq_some_iff.1 K1).1
      have G2 := grown_trans (grown_alloc G1 _) g2
      clear g2 G1
      go_wp2_with fail
      refine (H1.out _).mono ?_
      rintro e w3 ⟨rfl, g3⟩
      have K2 := blk_grown g3 (alloc_at w2 _) (by simp)
      have K1 := blk_grown g3 ((Below.heap_alloc _ _ _ l1).trans K1) (by simp)
      have l2 : w2.heap.size < w3.heap.size := (Array.getElem?_eq_some_iff.1 K2).1
      have l1 : w1.heap.size < w3.heap.size := by omega
      have G3 := grown_trans (grown_alloc G2 _) g3
      clear g3 G2
      go_wp2_with fail
      have G3 := grown_alloc G3 (.cells #[.int .i64 0, .int .i64 0, .int .i64 0, .int .i64 0, .int .i64 0, .int .i64 0, .int .i64 0, .int .i64 0] 32)
      refine (H.out _ (M.out _ G3)).mono ?_
      rintro e w4 ⟨rfl, g4⟩
      have K3 := blk_grown g4 (alloc_at w3 _) (by simp)
      have K2 := blk_grown g4 ((Below.heap_alloc _ _ _ l2).trans K2) (by simp)
      have K1 := blk_grown g4 ((Below.heap_alloc _ _ _ l1).trans K1) (by simp)
      have G4 := grown_trans G3 g4
      clear g4 G3 l1 l2
      have a0 := blk_cell K1 0
      have a1 := blk_cell K1 1
      have a2 := blk_cell K1 2
      have a3 := blk_cell K1 3
      have a4 := blk_cell K1 4
      have a5 := blk_cell K1 5
      have a6 := blk_cell K1 6
      have a7 := blk_cell K1 7
      have a8 := blk_cell K1 8
      have a9 := blk_cell K1 9
      have a10 := blk_cell K1 10
      have b0 := blk_cell K2 0
      have b1 := blk_cell K2 1
      have b2 := blk_cell K2 2
      have b3 := blk_cell K2 3
      have c0 := blk_cell K3 0
      have c1 := blk_cell K3 1
      have c2 := blk_cell K3 2
      have c3 := blk_cell K3 3
      have c4 := blk_cell K3 4
      have c5 := blk_cell K3 5
      have c6 := blk_cell K3 6
      have c7 := blk_cell K3 7
      simp only [List.getElem?_toArray, List.getElem?_cons_zero, List.getElem?_cons_succ] at a0 a1 a2 a3 a4 a5 a6 a7 a8 a9 a10 b0 b1 b2 b3 c0 c1 c2 c3 c4 c5 c6 c7
      clear K1 K2 K3
      go_wp2_with fail
      go_ret
      exact ⟨rfl, G4⟩
    | false =>
      have hb : oddB c = c := by simp at h2; unfold oddB; rw [if_neg (by omega)]
      rw [hb] at H0 H1 H2
      clear hb
      have hcv := conv_one c w hc
      go_enter Tryz.func7, Tryz.ntmps7
      generalize c = o at *
      go_wp2_with fail
      have G0 := grown_alloc (grown_refl w none) (.cells #[.int .u8 (o : Int)] 5)
      refine (H0.out _ (M.out _ G0)).mono ?_
      rintro e w1 ⟨rfl, g1⟩
      have G1 := grown_trans G0 g1
      clear G0 g1 hcv
      go_wp2_with fail
      refine (H2.out _).mono ?_
      rintro e w2 ⟨rfl, g2⟩
      have K1 := blk_grown g2 (alloc_at w1 _) (by simp)
      have l1 : w1.heap.size < w2.heap.size := (Array.getElem?_eq_some_iff.1 K1).1
      have G2 := grown_trans (grown_alloc G1 _) g2
      clear g2 G1
      go_wp2_with fail
      refine (H1.out _).mono ?_
      rintro e w3 ⟨rfl, g3⟩
      have K2 := blk_grown g3 (alloc_at w2 _) (by simp)
      have K1 := blk_grown g3 ((Below.heap_alloc _ _ _ l1).trans K1) (by simp)
      have l2 : w2.heap.size < w3.heap.size := (Array.getElem?_eq_some_iff.1 K2).1
      have l1 : w1.heap.size < w3.heap.size := by omega
      have G3 := grown_trans (grown_alloc G2 _) g3
      clear g3 G2
      go_wp2_with fail
      have G3 := grown_alloc G3 (.cells #[.int .i64 0, .int .i64 0, .int .i64 0, .int .i64 0, .int .i64 0, .int .i64 0, .int .i64 0, .int .i64 0] 32)
      refine (H.out _ (M.out _ G3)).mono ?_
      rintro e w4 ⟨rfl, g4⟩
      have K3 := blk_grown g4 (alloc_at w3 _) (by simp)
      have K2 := blk_grown g4 ((Below.heap_alloc _ _ _ l2).trans K2) (by simp)
      have K1 := blk_grown g4 ((Below.heap_alloc _ _ _ l1).trans K1) (by simp)
      have G4 := grown_trans G3 g4
      clear g4 G3 l1 l2
      have a0 := blk_cell K1 0
      have a1 := blk_cell K1 1
      have a2 := blk_cell K1 2
      have a3 := blk_cell K1 3
      have a4 := blk_cell K1 4
      have a5 := blk_cell K1 5
      have a6 := blk_cell K1 6
      have a7 := blk_cell K1 7
      have a8 := blk_cell K1 8
      have a9 := blk_cell K1 9
      have a10 := blk_cell K1 10
      have b0 := blk_cell K2 0
      have b1 := blk_cell K2 1
      have b2 := blk_cell K2 2
      have b3 := blk_cell K2 3
      have c0 := blk_cell K3 0
      have c1 := blk_cell K3 1
      have c2 := blk_cell K3 2
      have c3 := blk_cell K3 3
      have c4 := blk_cell K3 4
      have c5 := blk_cell K3 5
      have c6 := blk_cell K3 6
      have c7 := blk_cell K3 7
      simp only [List.getElem?_toArray, List.getElem?_cons_zero, List.getElem?_cons_succ] at a0 a1 a2 a3 a4 a5 a6 a7 a8 a9 a10 b0 b1 b2 b3 c0 c1 c2 c3 c4 c5 c6 c7
      clear K1 K2 K3
      go_wp2_with fail
      go_ret
      exact ⟨rfl, G4⟩
  | false =>
    have hb : oddB c = c := by simp at h1; unfold oddB; rw [if_neg (by omega)]
    rw [hb] at H0 H1 H2
    clear hb
    have hcv := conv_one c w hc
    go_enter Tryz.func7, Tryz.ntmps7
    generalize c = o at *
    go_wp2_with fail
    have G0 := grown_alloc (grown_refl w none) (.cells #[.int .u8 (o : Int)] 5)
    refine (H0.out _ (M.out _ G0)).mono ?_
    rintro e w1 ⟨rfl, g1⟩
    have G1 := grown_trans G0 g1
    clear G0 g1 hcv
    go_wp2_with fail
    refine (H2.out _).mono ?_
    rintro e w2 ⟨rfl, g2⟩
    have K1 := blk_grown g2 (alloc_at w1 _) (by simp)
    have l1 : w1.heap.size < w2.heap.size := (Array.getElem?_eq_some_iff.1 K1).1
    have G2 := grown_trans (grown_alloc G1 _) g2
    clear g2 G1
    go_wp2_with fail
    refine (H1.out _).mono ?_
    rintro e w3 ⟨rfl, g3⟩
    have K2 := blk_grown g3 (alloc_at w2 _) (by simp)
    have K1 := blk_grown g3 ((Below.heap_alloc _ _ _ l1).trans K1) (by simp)
    have l2 : w2.heap.size < w3.heap.size := (Array.getElem?_eq_some_iff.1 K2).1
    have l1 : w1.heap.size < w3.heap.size := by omega
    have G3 := grown_trans (grown_alloc G2 _) g3
    clear g3 G2
    go_wp2_with fail
    have G3 := grown_alloc G3 (.cells #[.int .i64 0, .int .i64 0, .int .i64 0, .int .i64 0, .int .i64 0, .int .i64 0, .int .i64 0, .int .i64 0] 32)
    refine (H.out _ (M.out _ G3)).mono ?_
    rintro e w4 ⟨rfl, g4⟩
    have K3 := blk_grown g4 (alloc_at w3 _) (by simp)
    have K2 := blk_grown g4 ((Below.heap_alloc _ _ _ l2).trans K2) (by simp)
    have K1 := blk_grown g4 ((Below.heap_alloc _ _ _ l1).trans K1) (by simp)
    have G4 := grown_trans G3 g4
    clear g4 G3 l1 l2
    have a0 := blk_cell K1 0
    have a1 := blk_cell K1 1
    have a2 := blk_cell K1 2
    have a3 := blk_cell K1 3
    have a4 := blk_cell K1 4
    have a5 := blk_cell K1 5
    have a6 := blk_cell K1 6
    have a7 := blk_cell K1 7
    have a8 := blk_cell K1 8
    have a9 := blk_cell K1 9
    have a10 := blk_cell K1 10
    have b0 := blk_cell K2 0
    have b1 := blk_cell K2 1
    have b2 := blk_cell K2 2
    have b3 := blk_cell K2 3
    have c0 := blk_cell K3 0
    have c1 := blk_cell K3 1
    have c2 := blk_cell K3 2
    have c3 := blk_cell K3 3
    have c4 := blk_cell K3 4
    have c5 := blk_cell K3 5
    have c6 := blk_cell K3 6
    have c7 := blk_cell K3 7
    simp only [List.getElem?_toArray, List.getElem?_cons_zero, List.getElem?_cons_succ] at a0 a1 a2 a3 a4 a5 a6 a7 a8 a9 a10 b0 b1 b2 b3 c0 c1 c2 c3 c4 c5 c6 c7
    clear K1 K2 K3
    go_wp2_with fail
    go_ret
    exact ⟨rfl, G4⟩
theorem odd_any {m : Int} (a b : ByteArray) (c : Nat) (w : World) (hm : w.cell? ⟨1, 0, none⟩ = some (.int .i64 m)) (ha : a.size ≤ 140737488351232) (hb : b.size ≤ 140737488351232) (hc : c ≤ 255) :
    Calls Tryz.prog 7 #[.string a, .int .u8 c, .string b] w fun e w' => e = .returned (.bool true) ∧ w.grownBy w' none := by
  by_cases h : 300 < a.size + b.size
  · exact odd_big a b c w hm h ha hb
  · exact odd_small a b c w hm (by omega) hc

end Go.Proofs.YtkhpdiilghncgaaGreatDoor
