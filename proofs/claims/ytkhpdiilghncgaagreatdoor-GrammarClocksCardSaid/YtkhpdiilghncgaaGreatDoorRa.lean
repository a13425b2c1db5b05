/- The reference's digit, is, number. -/
import Derived.Test.YtkhpdiilghncgaaGreatDoorGb
namespace Go.Proofs.YtkhpdiilghncgaaGreatDoor
open Go.RowKit
set_option linter.unusedVariables false

theorem rdigit_any (s : ByteArray) (i : Nat) (w : World) (hs : s.size ≤ 140737488351232) (hi : i ≤ 140737488355328) {iv : Int} (hv : iv = i) :
    Calls Tryz.prog 32 #[.string s, .int .i64 iv] w fun e w' => e = .returned (.bool (dg s i)) ∧ w' = w := by
  subst hv
  have hp : decide ((0 : Int) ≤ (i : Int)) = true := by simp
  by_cases hlt : i < s.size
  · have hl : decide ((i : Int) < (s.size : Int)) = true := by simp; omega
    have hn := nx_lt hlt
    cases hc : decide ((48 : Int) ≤ (s[i].toNat : Int)) with
    | true =>
      cases he : decide ((s[i].toNat : Int) ≤ 57) with
      | true =>
        have hd : Hid (dg s i = true) := by simp at hc he; simp [dg, Hid, hn]; omega
        clear hn
        go_enter Tryz.func32, Tryz.ntmps32
        go_wp2
        go_ret
        exact ⟨by rw [hd.out]; rfl, rfl⟩
      | false =>
        have hd : Hid (dg s i = false) := by simp at hc he; simp [dg, Hid, hn]; omega
        clear hn
        go_enter Tryz.func32, Tryz.ntmps32
        go_wp2
        go_ret
        exact ⟨by rw [hd.out]; rfl, rfl⟩
    | false =>
      have hd : Hid (dg s i = false) := by simp at hc; simp [dg, Hid, hn]; omega
      clear hn
      go_enter Tryz.func32, Tryz.ntmps32
      go_wp2
      go_ret
      exact ⟨by rw [hd.out]; rfl, rfl⟩
  · have hl : decide ((i : Int) < (s.size : Int)) = false := by simp; omega
    have hd : Hid (dg s i = false) := by simp [dg, Hid, nx_end hlt]
    go_enter Tryz.func32, Tryz.ntmps32
    go_wp2
    go_ret
    exact ⟨by rw [hd.out]; rfl, rfl⟩

/-- Is one of the bytes from a place on there? -/
def isFrom (s : ByteArray) (i : Nat) (of : ByteArray) : Nat → Nat → Bool
  | 0, _ => false
  | f + 1, k => (nx of k == nx s i) || isFrom s i of f (k + 1)
theorem isFrom_iff (s : ByteArray) (i : Nat) (of : ByteArray) : ∀ f k, isFrom s i of f k = true ↔ ∃ j, k ≤ j ∧ j < k + f ∧ nx of j = nx s i
  | 0, k => by simp [isFrom]; omega
  | f + 1, k => by
    simp only [isFrom, Bool.or_eq_true, beq_iff_eq, isFrom_iff s i of f (k + 1)]
    constructor
    · rintro (h | ⟨j, h1, h2, h3⟩)
      · exact ⟨k, by omega, by omega, h⟩
      · exact ⟨j, by omega, by omega, h3⟩
    · rintro ⟨j, h1, h2, h3⟩
      by_cases e : j = k
      · exact .inl (e ▸ h3)
      · exact .inr ⟨j, by omega, by omega, h3⟩
theorem rsize_list (s : ByteArray) : s.data.toList.length = s.size := Array.length_toList
theorem isOne_from (s : ByteArray) (i : Nat) (of : ByteArray) (hi : i < s.size) : isOne s i of = isFrom s i of of.size 0 := by
  have e : of = ⟨of.data.toList.toArray⟩ := by cases of; simp
  have h := isOne_iff s i of.data.toList
  rw [← e] at h
  rw [h, Bool.eq_iff_iff, isFrom_iff]
  simp only [decide_eq_true_eq, Nat.zero_add]
  constructor
  · rintro ⟨_, x, hx, h2⟩
    obtain ⟨j, hj, rfl⟩ := List.mem_iff_getElem.1 hx
    have hj' : j < of.size := by rw [← rsize_list]; exact hj
    exact ⟨j, Nat.zero_le _, hj', by rw [nx_lt hj', ← h2]; rfl⟩
  · rintro ⟨j, _, hj, h2⟩
    refine ⟨hi, of[j], List.mem_iff_getElem.2 ⟨j, by rw [rsize_list]; exact hj, rfl⟩, ?_⟩
    rw [← h2, nx_lt hj]

set_option maxHeartbeats 400000 in
theorem ris_any (s : ByteArray) (i : Nat) (of : ByteArray) (w : World) (hs : s.size ≤ 140737488351232) (hi : i ≤ 140737488355328) (ho : of.size ≤ 1000) {iv : Int} (hv : iv = i) :
    Calls Tryz.prog 20 #[.string s, .int .i64 iv, .string of] w fun e w' => e = .returned (.bool (isOne s i of)) ∧ Dr w w' := by
  subst hv
  have hp : decide ((0 : Int) ≤ (i : Int)) = true := by simp
  by_cases hlt : i < s.size
  · have HZ := Lib.hid (isOne_from s i of hlt)
    have hl : decide ((i : Int) < (s.size : Int)) = true := by simp; omega
    go_enter Tryz.func20, Tryz.ntmps20
    go_wp2_with fail
    go_loopw [7] (fun c wr => ∃ k : Nat, k ≤ of.size ∧ c = .int .i64 k ∧ Dr w wr ∧ isOne s i of = isFrom s i of (of.size - k) k) (fun c _ => of.size - (intOf c).toNat)
    case atStart => exact ⟨0, by omega, rfl, Dr.refl _, HZ.out⟩
    case round =>
      obtain ⟨k, hk, rfl, hd, he⟩ := hrel
      have HD := Lib.hid hd
      have HE := Lib.hid he
      clear hd he
      by_cases hlk : k < of.size
      · have hn1 := Lib.hid (nx_lt hlt)
        have hn2 := Lib.hid (nx_lt hlk)
        have hl2 : decide ((k : Int) < (of.size : Int)) = true := by simp; omega
        cases hc : ((s[i].toNat : Int) == (of[k].toNat : Int)) with
        | true =>
          have hz : Hid (isOne s i of = true) := Lib.hid (by
            rw [HE.out, show of.size - k = (of.size - k - 1) + 1 from by omega]
            unfold isFrom
            have : nx of k = nx s i := by rw [hn1.out, hn2.out]; simp at hc; omega
            rw [this]; simp)
          go_wp2_with fail
          go_quiet (fail)
          go_wp2_with fail
          go_ret
          exact ⟨by rw [hz.out]; rfl, HD.out.trans (Dr.one _ _)⟩
        | false =>
          have hz : Hid (isOne s i of = isFrom s i of (of.size - (k + 1)) (k + 1)) := Lib.hid (by
            rw [HE.out, show of.size - k = (of.size - (k + 1)) + 1 from by omega]
            conv => lhs; unfold isFrom
            have : (nx of k == nx s i) = false := by rw [hn1.out, hn2.out]; simp at hc ⊢; omega
            rw [this]; simp)
          go_wp2_with fail
          go_quiet (fail)
          go_wp2_with fail
          go_roundw
          case rel => exact ⟨k + 1, by omega, by go_num, HD.out.trans (Dr.one _ _), hz.out⟩
          case measure => simp [intOf]; omega
      · have hl2 : decide ((k : Int) < (of.size : Int)) = false := by simp; omega
        have hz : Hid (isOne s i of = false) := Lib.hid (by rw [HE.out, show of.size - k = 0 from by omega]; rfl)
        go_wp2_with fail
        go_ret
        exact ⟨by rw [hz.out]; rfl, HD.out⟩
  · have hl : decide ((i : Int) < (s.size : Int)) = false := by simp; omega
    have hz : Hid (isOne s i of = false) := Lib.hid (by unfold isOne; rw [decide_eq_false hlt]; rfl)
    go_enter Tryz.func20, Tryz.ntmps20
    go_wp2_with fail
    go_loopw [7] (fun c wr => c = .int .i64 0 ∧ wr = w) (fun c _ => 0)
    case atStart => exact ⟨rfl, rfl⟩
    case round =>
      obtain ⟨rfl, rfl⟩ := hrel
      go_wp2_with fail
      all_goals
        go_ret
        exact ⟨by rw [hz.out]; rfl, Dr.refl _⟩

/-- What number hands back. -/
def numN (v : Option Nat) : Int := match v with | some v => (v : Int) | none => -1
set_option maxHeartbeats 400000 in
theorem rnumber_any (s : ByteArray) (i n : Nat) (w : World) (hs : s.size ≤ 140737488351232) (hi : i ≤ 140737488352232) (hn : n ≤ 9) {iv nv : Int} (hv : iv = i) (hnv : nv = n) :
    Calls Tryz.prog 74 #[.string s, .int .i64 iv, .int .i64 nv] w fun e w' => e = .returned (.int .i64 (numN (num s n i 0))) ∧ w' = w := by
  subst hv hnv
  go_enter Tryz.func74, Tryz.ntmps74
  go_wp2_with fail
  go_loopw [7, 8] (fun v c wr => ∃ k x : Nat, k ≤ n ∧ c = .int .i64 (i + k : Nat) ∧ v = .int .i64 x ∧ x < 10 ^ k ∧ wr = w ∧ num s n i 0 = num s (n - k) (i + k) x) (fun _ c _ => i + n - (intOf c).toNat)
  case atStart => exact ⟨0, 0, by omega, rfl, rfl, by simp, rfl, by simp⟩
  case round =>
    obtain ⟨k, x, hk, rfl, rfl, hx, rfl, hnum⟩ := hrel
    have HX := Lib.hid hx
    have HN := Lib.hid hnum
    clear hx hnum
    by_cases hlt : k < n
    · have hlk : decide (((i + k : Nat) : Int) < (i : Int) + (n : Int)) = true := by simp; omega
      cases hdg : dg s (i + k) with
      | true =>
        have hd := Lib.hid hdg
        have hb := dg_bd hdg
        have hlt2 : i + k < s.size := dg_in hdg
        have hn2 := nx_lt hlt2
        rw [hn2] at hb
        have hb1 : (48 : Int) ≤ (s[i + k].toNat : Int) := by omega
        have hb2 : (s[i + k].toNat : Int) ≤ 57 := by omega
        have hx8 : (x : Int) ≤ 100000000 := by have := pow_le_8 (k := k) (by omega); have := HX.out; omega
        have HNN := Lib.hid (num_step (n := n - k - 1) (v := x) hdg)
        have HN2 := Lib.hid hn2
        clear hb hn2 hdg
        go_wp2_with ((refine (rdigit_any s (i + k) _ hs (by omega) (by omega)).mono ?_; rintro e w1 ⟨rfl, hw⟩; rw [hd.out, hw]; clear hw))
        go_roundw
        case rel =>
          refine ⟨k + 1, x * 10 + (nx s (i + k) - 48), by omega, by go_num, ?_, ?_, by trivial, ?_⟩
          · rw [HN2.out]; congr 1; omega
          · have := HX.out; have := HN2.out; rw [Nat.pow_succ]; omega
          · rw [HN.out]; have h := HNN.out; rw [show n - k - 1 + 1 = n - k from by omega] at h; rw [h, show n - (k + 1) = n - k - 1 from by omega, Nat.add_assoc]
        case measure => simp [intOf]; omega
      | false =>
        have hd := Lib.hid hdg
        have HNN := Lib.hid (num_stop (n := n - k - 1) (v := x) hdg)
        clear hdg
        go_wp2_with fail
        refine (rdigit_any s (i + k) _ hs (by omega) (by omega)).mono ?_; rintro e w1 ⟨rfl, hw⟩; rw [hd.out, hw]; clear hw
        go_wp2_with fail
        go_ret
        have hz : num s n i 0 = none := by rw [HN.out]; have h := HNN.out; rwa [show n - k - 1 + 1 = n - k from by omega] at h
        rw [hz]
        exact ⟨rfl, rfl⟩
    · have hlk : decide (((i + k : Nat) : Int) < (i : Int) + (n : Int)) = false := by simp; omega
      go_wp2_with fail
      go_ret
      have hz : num s n i 0 = some x := by rw [HN.out, show n - k = 0 from by omega]; rfl
      rw [hz]
      exact ⟨rfl, rfl⟩

end Go.Proofs.YtkhpdiilghncgaaGreatDoor
