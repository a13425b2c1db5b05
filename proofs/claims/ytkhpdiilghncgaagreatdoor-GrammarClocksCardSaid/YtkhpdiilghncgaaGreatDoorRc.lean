/- The reference's Part, Time, Clock. -/
import Derived.Test.YtkhpdiilghncgaaGreatDoorRb
import Derived.Test.YtkhpdiilghncgaaGreatDoorGe
namespace Go.Proofs.YtkhpdiilghncgaaGreatDoor
open Go.RowKit
set_option linter.unusedVariables false

theorem cnt_min {s : ByteArray} : ∀ f g i, f ≤ g → cnt s f i = min (cnt s g i) f
  | 0, g, i, h => by simp [cnt]
  | f + 1, 0, i, h => by omega
  | f + 1, g + 1, i, h => by
    by_cases hd : dg s i = true
    · rw [cnt_yes hd, cnt_yes hd, cnt_min f g (i + 1) (by omega)]; omega
    · have hd : dg s i = false := by simpa using hd
      rw [cnt_no hd, cnt_no hd]; omega
theorem num_cnt {s : ByteArray} : ∀ n g i x, n ≤ cnt s g i → ∃ v, num s n i x = some v
  | 0, g, i, x, h => ⟨x, rfl⟩
  | n + 1, 0, i, x, h => by simp [cnt] at h
  | n + 1, g + 1, i, x, h => by
    by_cases hd : dg s i = true
    · rw [cnt_yes hd] at h
      rw [num_step hd]
      exact num_cnt n g (i + 1) _ (by omega)
    · have hd : dg s i = false := by simpa using hd
      rw [cnt_no hd] at h; omega
/-- What the reference's Part hands back. -/
def partR : Option (Option Nat × Nat) → Value
  | some (v, k) => .tuple #[.int .i64 (partN v), .int .i64 (k : Int)]
  | none => .tuple #[.int .i64 (-1), .int .i64 (-1)]
theorem part_of {s : ByteArray} {i n : Nat} (hd : nx s i = 46 ∨ nx s i = 44) (hn : cnt s (s.size + 10) (i + 1) = n) : part s i = if n = 0 ∨ 9 < n then none else (num s n (i + 1) 0).map fun v => (some (v * 10 ^ (9 - n)), i + 1 + n) := by
  unfold part
  rw [if_pos hd, cnt_min 10 (s.size + 10) (i + 1) (by omega), hn]
  by_cases c : n = 0 ∨ 9 < n
  · rw [if_pos c, if_pos (by omega)]
  · rw [if_neg c, if_neg (by omega), show min n 10 = n from by omega]
    cases num s n (i + 1) 0 <;> rfl
structure PL (s : ByteArray) (i j : Nat) : Prop where
  eq : cnt s (s.size + 10) (i + 1) = cnt s (s.size + 10 - j) (i + 1 + j) + j
  le : i + 1 + j ≤ s.size
theorem PL.stop {s : ByteArray} {i j : Nat} (h : PL s i j) (hd : dg s (i + 1 + j) = false) : cnt s (s.size + 10) (i + 1) = j := by rw [h.eq, cnt_no hd]; omega
theorem PL.step {s : ByteArray} {i j : Nat} (h : PL s i j) (hd : dg s (i + 1 + j) = true) : PL s i (j + 1) where
  eq := by
    have := dg_in hd
    rw [h.eq, show s.size + 10 - j = (s.size + 10 - (j + 1)) + 1 from by omega, cnt_yes hd, Nat.add_assoc, show i + 1 + j + 1 = i + 1 + (j + 1) from by omega]
    omega
  le := by have := dg_in hd; omega
set_option maxHeartbeats 1000000 in
theorem rpart_any (s : ByteArray) (i : Nat) (w : World) (hs : s.size ≤ 140737488351232) (hi : i ≤ s.size + 1) {iv : Int} (hv : iv = i) :
    Calls Tryz.prog 36 #[.string s, .int .i64 iv] w fun e w' => e = .returned (partR (part s i)) ∧ Dr w w' := by
  subst hv
  have H20 := Lib.hid (fun w => ris_any s i ⟨#[46, 44]⟩ w hs (by omega) (by decide) (iv := (i : Int)) rfl)
  rw [isOne_2 s i 46 44 (by decide) (by decide)] at H20
  cases hd : decide (nx s i = UInt8.toNat 46 ∨ nx s i = UInt8.toNat 44) with
  | false =>
    have HZ := Lib.hid (show part s i = some (none, i) by unfold part; exact if_neg (of_decide_eq_false hd))
    rw [hd] at H20
    go_enter Tryz.func36, Tryz.ntmps36
    go_wp2_with (refine (H20.out _).mono ?_; rintro e w1 ⟨rfl, hd1⟩)
    go_returns
    rw [HZ.out]
    exact ⟨rfl, hd1⟩
  | true =>
    have hdd : nx s i = 46 ∨ nx s i = 44 := of_decide_eq_true hd
    have HP := Lib.hid (fun n => part_of (n := n) hdd)
    have hi1 : i < s.size := nx_in (s := s) (i := i) (by omega)
    rw [hd] at H20
    clear hdd hd
    go_enter Tryz.func36, Tryz.ntmps36
    go_wp2_with (refine (H20.out _).mono ?_; rintro e w1 ⟨rfl, hd1⟩)
    go_loopw [6] (fun p wr => ∃ j : Nat, p = .int .i64 ((i + 1 + j : Nat) : Int) ∧ PL s i j ∧ Dr w wr) (fun p _ => s.size - (intOf p).toNat)
    case atStart => exact ⟨0, by go_num, ⟨by simp, by omega⟩, hd1⟩
    case round =>
      obtain ⟨j, rfl, hp, hdr⟩ := hrel
      have HJ := Lib.hid hp
      have HD := Lib.hid hdr
      have hjle := hp.le
      clear hp hdr hd1
      cases hdg : dg s (i + 1 + j) with
      | true =>
        have HS := Lib.hid (HJ.out.step hdg)
        have hle := HS.out.le
        have hN := Lib.hid (fun w => rdigit_any s (i + 1 + j) w hs (by omega) (iv := ((i + 1 + j : Nat) : Int)) rfl)
        rw [hdg] at hN
        clear hdg
        go_wp2_with (refine (hN.out _).mono ?_; rintro e w2 ⟨rfl, hw⟩; rw [hw]; clear hw)
        go_roundw
        case rel => exact ⟨j + 1, by go_num, HS.out, HD.out⟩
        case measure => simp [intOf]; omega
      | false =>
        have HS := Lib.hid (HP.out j (HJ.out.stop hdg))
        have hN := Lib.hid (fun w => rdigit_any s (i + 1 + j) w hs (by omega) (iv := ((i + 1 + j : Nat) : Int)) rfl)
        rw [hdg] at hN
        have HC := Lib.hid (HJ.out.stop hdg)
        clear hdg
        have e1 : (i : Int) + 1 + (j : Int) - (i : Int) - 1 = (j : Int) := by omega
        cases h1 : decide ((j : Int) < 1) with
        | true =>
          have HZ := Lib.hid (show part s i = none by rw [HS.out]; simp at h1; rw [if_pos (by omega)])
          go_wp2_with (refine (hN.out _).mono ?_; rintro e w2 ⟨rfl, hw⟩; rw [hw]; clear hw)
          go_returns
          rw [HZ.out]
          exact ⟨rfl, HD.out⟩
        | false =>
          cases h2 : decide ((9 : Int) < (j : Int)) with
          | true =>
            have HZ := Lib.hid (show part s i = none by rw [HS.out]; simp at h2; rw [if_pos (by omega)])
            go_wp2_with (refine (hN.out _).mono ?_; rintro e w2 ⟨rfl, hw⟩; rw [hw]; clear hw)
            go_returns
            rw [HZ.out]
            exact ⟨rfl, HD.out⟩
          | false =>
            have hj9 : j ≤ 9 := by simp at h2; omega
            obtain ⟨v, hv⟩ := num_cnt (s := s) j (s.size + 10) (i + 1) 0 (by rw [HC.out]; exact Nat.le_refl _)
            have hvl := (num_lt hv).1
            rw [Nat.zero_add, Nat.one_mul] at hvl
            have HV := Lib.hid hvl
            have HZ := Lib.hid (show part s i = some (some (v * 10 ^ (9 - j)), i + 1 + j) by rw [HS.out]; simp at h1 h2; rw [if_neg (by omega), hv]; rfl)
            have H7 := Lib.hid (fun w => rnumber_any s (i + 1) j w hs (by omega) hj9 (iv := (i : Int) + 1) (nv := (j : Int)) (by omega) rfl)
            rw [hv] at H7
            clear hv hvl
            go_wp2_with (first | (refine (hN.out _).mono ?_; rintro e w2 ⟨rfl, hw⟩; rw [hw]; clear hw) | (refine (H7.out _).mono ?_; rintro e w2 ⟨rfl, hw⟩; rw [hw]; clear hw))
            clear e1 h1 h2
            unfold numN
            go_loopw [7, 8] (fun n x wx => ∃ q y : Nat, j ≤ q ∧ q ≤ 9 ∧ n = .int .i64 q ∧ x = .int .i64 y ∧ y = v * 10 ^ (q - j) ∧ wx = wr) (fun n _ _ => 9 - (intOf n).toNat)
            case atStart => exact ⟨j, v, by omega, hj9, rfl, rfl, by simp, rfl⟩
            case round =>
              obtain ⟨q, y, hq1, hq2, rfl, rfl, hy, rfl⟩ := hrel
              have HY := Lib.hid hy
              clear hy
              by_cases hj9 : q < 9
              · have hyb : (y : Int) ≤ 100000000 := by have := pow_split hq1 hj9 v HV.out; rw [HY.out]; omega
                go_wp2_with fail
                go_roundw
                case rel => exact ⟨q + 1, y * 10, by omega, by omega, by go_num, by go_num, by rw [HY.out, Nat.mul_assoc, ← Nat.pow_succ, show q + 1 - j = (q - j) + 1 from by omega], by trivial⟩
                case measure => simp [intOf]; omega
              · go_wp2_with fail
                go_returns
                rw [HZ.out]
                have : y = v * 10 ^ (9 - j) := by rw [HY.out, show q = 9 from by omega]
                exact ⟨by rw [← this]; rfl, HD.out⟩

end Go.Proofs.YtkhpdiilghncgaaGreatDoor
