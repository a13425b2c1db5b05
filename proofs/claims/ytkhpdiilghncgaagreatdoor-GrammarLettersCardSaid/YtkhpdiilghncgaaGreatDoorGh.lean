/- Keys, words, names: the small functions. -/
import Derived.Test.YtkhpdiilghncgaaGreatDoorGq
import Derived.Test.YtkhpdiilghncgaaGreatDoorGa
import Derived.Handy
namespace Go.Proofs.YtkhpdiilghncgaaGreatDoor
open Go.RowKit
set_option linter.unusedVariables false

theorem small_any (c : Nat) (w : World) : Calls Tryz.prog 115 #[.int .u8 c] w fun e w' => e = .returned (.bool (smallF c)) ∧ w' = w := by
  cases h1 : decide ((97 : Int) ≤ (c : Int)) with
  | true =>
    cases h2 : decide ((c : Int) ≤ 122) with
    | true =>
      have HZ : Hid (smallF c = true) := by simp at h1 h2; simp [smallF, Hid]; omega
      go_enter Tryz.func115, Tryz.ntmps115
      go_wp2_with fail
      go_ret
      exact ⟨by rw [HZ.out]; rfl, rfl⟩
    | false =>
      have HZ : Hid (smallF c = false) := by simp at h1 h2; simp [smallF, Hid]; omega
      go_enter Tryz.func115, Tryz.ntmps115
      go_wp2_with fail
      go_ret
      exact ⟨by rw [HZ.out]; rfl, rfl⟩
  | false =>
    have HZ : Hid (smallF c = false) := by simp at h1; simp [smallF, Hid]; omega
    go_enter Tryz.func115, Tryz.ntmps115
    go_wp2_with fail
    go_ret
    exact ⟨by rw [HZ.out]; rfl, rfl⟩
theorem number_any (c : Nat) (w : World) : Calls Tryz.prog 116 #[.int .u8 c] w fun e w' => e = .returned (.bool (numberF c)) ∧ w' = w := by
  cases h1 : decide ((48 : Int) ≤ (c : Int)) with
  | true =>
    cases h2 : decide ((c : Int) ≤ 57) with
    | true =>
      have HZ : Hid (numberF c = true) := by simp at h1 h2; simp [numberF, Hid]; omega
      go_enter Tryz.func116, Tryz.ntmps116
      go_wp2_with fail
      go_ret
      exact ⟨by rw [HZ.out]; rfl, rfl⟩
    | false =>
      have HZ : Hid (numberF c = false) := by simp at h1 h2; simp [numberF, Hid]; omega
      go_enter Tryz.func116, Tryz.ntmps116
      go_wp2_with fail
      go_ret
      exact ⟨by rw [HZ.out]; rfl, rfl⟩
  | false =>
    have HZ : Hid (numberF c = false) := by simp at h1; simp [numberF, Hid]; omega
    go_enter Tryz.func116, Tryz.ntmps116
    go_wp2_with fail
    go_ret
    exact ⟨by rw [HZ.out]; rfl, rfl⟩
theorem letter_any (c : Nat) (w : World) : Calls Tryz.prog 145 #[.int .u8 c] w fun e w' => e = .returned (.bool (letterF c)) ∧ w' = w := by
  cases h1 : decide ((97 : Int) ≤ (c : Int)) with
  | true =>
    cases h2 : decide ((c : Int) ≤ 122) with
    | true =>
      have HZ : Hid (letterF c = true) := by simp at h1 h2; simp [letterF, Hid]; omega
      go_enter Tryz.func145, Tryz.ntmps145
      go_wp2_with fail
      go_ret
      exact ⟨by rw [HZ.out]; rfl, rfl⟩
    | false =>
      have h3 : decide ((65 : Int) ≤ (c : Int)) = true := by simp at h1 ⊢; omega
      have h4 : decide ((c : Int) ≤ 90) = false := by simp at h2 ⊢; omega
      have HZ : Hid (letterF c = false) := by simp at h1 h2; simp [letterF, Hid]; omega
      go_enter Tryz.func145, Tryz.ntmps145
      go_wp2_with fail
      go_ret
      exact ⟨by rw [HZ.out]; rfl, rfl⟩
  | false =>
    cases h3 : decide ((65 : Int) ≤ (c : Int)) with
    | true =>
      cases h4 : decide ((c : Int) ≤ 90) with
      | true =>
        have HZ : Hid (letterF c = true) := by simp at h1 h3 h4; simp [letterF, Hid]; omega
        go_enter Tryz.func145, Tryz.ntmps145
        go_wp2_with fail
        go_ret
        exact ⟨by rw [HZ.out]; rfl, rfl⟩
      | false =>
        have HZ : Hid (letterF c = false) := by simp at h1 h3 h4; simp [letterF, Hid]; omega
        go_enter Tryz.func145, Tryz.ntmps145
        go_wp2_with fail
        go_ret
        exact ⟨by rw [HZ.out]; rfl, rfl⟩
    | false =>
      have HZ : Hid (letterF c = false) := by simp at h1 h3; simp [letterF, Hid]; omega
      go_enter Tryz.func145, Tryz.ntmps145
      go_wp2_with fail
      go_ret
      exact ⟨by rw [HZ.out]; rfl, rfl⟩

theorem nonempty_eq (s : ByteArray) : (!s.toList.isEmpty) = decide (s.size ≠ 0) := by
  rw [ByteArray.toList_eq]
  show (!s.data.toList.isEmpty) = decide (s.data.size ≠ 0)
  rw [← Array.length_toList]
  cases s.data.toList <;> simp
set_option maxHeartbeats 1000000 in
theorem iskey_any (s : ByteArray) (w : World) (hs : s.size ≤ 140737488351232) : Calls Tryz.prog 85 #[.string s] w fun e w' => e = .returned (.bool (isKeyF s)) ∧ w' = w := by
  go_enter Tryz.func85, Tryz.ntmps85
  go_wp2_with fail
  go_loop [7] (fun c => ∃ k : Nat, k ≤ s.size ∧ c = .int .i64 k ∧ isKeyF s = (allFrom s (fun j c => keyAt (j == 0) c) (s.size - k) k && decide (s.size ≠ 0))) (fun c => s.size - (intOf c).toNat)
  case atStart => exact ⟨0, by omega, rfl, by simp [isKeyF]⟩
  case round =>
    obtain ⟨k, hk, rfl, hz⟩ := hrel
    have HZ := Lib.hid hz
    clear hz
    by_cases hlt : k < s.size
    · have hb : s[k].toNat = nx s k := (nx_lt hlt).symm
      cases h1 : smallF (nx s k) with
      | true =>
        have HK := Lib.hid (show keyAt (k == 0) (nx s k) = true by simp [keyAt, h1])
        go_wp2_with (first | (go_at_call 115; refine (small_any _ _).mono ?_; rintro e w' ⟨rfl, hw⟩; rw [hw]; clear hw) | (go_at_call 116; refine (number_any _ _).mono ?_; rintro e w' ⟨rfl, hw⟩; rw [hw]; clear hw))
        go_round
        case rel => exact ⟨k + 1, by omega, by go_num, by rw [HZ.out, show s.size - k = (s.size - (k + 1)) + 1 from by omega]; simp only [allFrom]; rw [HK.out, Bool.true_and]⟩
        case measure => simp [intOf]; omega
      | false =>
        cases h2 : ((nx s k : Int) != 95) with
        | false =>
          have h2' : nx s k = 95 := by simp at h2; omega
          have HK := Lib.hid (show keyAt (k == 0) (nx s k) = true by simp [keyAt, h2'])
          go_wp2_with (first | (go_at_call 115; refine (small_any _ _).mono ?_; rintro e w' ⟨rfl, hw⟩; rw [hw]; clear hw) | (go_at_call 116; refine (number_any _ _).mono ?_; rintro e w' ⟨rfl, hw⟩; rw [hw]; clear hw))
          go_round
          case rel => exact ⟨k + 1, by omega, by go_num, by rw [HZ.out, show s.size - k = (s.size - (k + 1)) + 1 from by omega]; simp only [allFrom]; rw [HK.out, Bool.true_and]⟩
          case measure => simp [intOf]; omega
        | true =>
          have h2' : (nx s k == 95) = false := by simp at h2 ⊢; omega
          by_cases k0 : k = 0
          · have h3 : ((k : Int) == 0) = true := by simp [k0]
            have h3' : (k == 0) = true := by simp [k0]
            have HK0 := Lib.hid k0
            clear k0
            have HK := Lib.hid (show keyAt (k == 0) (nx s k) = false by simp [keyAt, h1, h2', h3'])
            go_wp2_with (first | (go_at_call 115; refine (small_any _ _).mono ?_; rintro e w' ⟨rfl, hw⟩; rw [hw]; clear hw) | (go_at_call 116; refine (number_any _ _).mono ?_; rintro e w' ⟨rfl, hw⟩; rw [hw]; clear hw))
            go_ret
            rw [HZ.out, show s.size - k = (s.size - (k + 1)) + 1 from by omega]
            simp only [allFrom]
            rw [HK.out, Bool.false_and, Bool.false_and]
            exact ⟨rfl, by trivial⟩
          · have h3 : ((k : Int) == 0) = false := by simp [k0]
            have h3' : (k == 0) = false := by simp [k0]
            cases h4 : ((nx s k : Int) != 45) with
            | false =>
              have h4' : nx s k = 45 := by simp at h4; omega
              have H4 := Lib.hid h4'
              clear h4'
              have HK := Lib.hid (show keyAt (k == 0) (nx s k) = true by simp [keyAt, H4.out, h3'])
              go_wp2_with (first | (go_at_call 115; refine (small_any _ _).mono ?_; rintro e w' ⟨rfl, hw⟩; rw [hw]; clear hw) | (go_at_call 116; refine (number_any _ _).mono ?_; rintro e w' ⟨rfl, hw⟩; rw [hw]; clear hw))
              go_round
              case rel => exact ⟨k + 1, by omega, by go_num, by rw [HZ.out, show s.size - k = (s.size - (k + 1)) + 1 from by omega]; simp only [allFrom]; rw [HK.out, Bool.true_and]⟩
              case measure => simp [intOf]; omega
            | true =>
              have h4' : (nx s k == 45) = false := by simp at h4 ⊢; omega
              cases h5 : numberF (nx s k) with
              | true =>
                have HK := Lib.hid (show keyAt (k == 0) (nx s k) = true by simp [keyAt, h5, h3'])
                go_wp2_with (first | (go_at_call 115; refine (small_any _ _).mono ?_; rintro e w' ⟨rfl, hw⟩; rw [hw]; clear hw) | (go_at_call 116; refine (number_any _ _).mono ?_; rintro e w' ⟨rfl, hw⟩; rw [hw]; clear hw))
                go_round
                case rel => exact ⟨k + 1, by omega, by go_num, by rw [HZ.out, show s.size - k = (s.size - (k + 1)) + 1 from by omega]; simp only [allFrom]; rw [HK.out, Bool.true_and]⟩
                case measure => simp [intOf]; omega
              | false =>
                have HK := Lib.hid (show keyAt (k == 0) (nx s k) = false by simp [keyAt, h1, h2', h3', h4', h5])
                go_wp2_with (first | (go_at_call 115; refine (small_any _ _).mono ?_; rintro e w' ⟨rfl, hw⟩; rw [hw]; clear hw) | (go_at_call 116; refine (number_any _ _).mono ?_; rintro e w' ⟨rfl, hw⟩; rw [hw]; clear hw))
                go_ret
                rw [HZ.out, show s.size - k = (s.size - (k + 1)) + 1 from by omega]
                simp only [allFrom]
                rw [HK.out, Bool.false_and, Bool.false_and]
                exact ⟨rfl, by trivial⟩
    · go_wp2_with fail
      go_ret
      rw [HZ.out, show s.size - k = 0 from by omega]
      exact ⟨by rw [← nonempty_eq]; simp [allFrom], by trivial⟩

theorem or32_eq (c : Nat) (h : c ≤ 255) : bits .or .u8 (c : Int) 32 = (or32 c : Int) := u8_or_nat c 32 (by omega) (by omega)
theorem split_any (s : ByteArray) (c : UInt8) {m : Int} (w : World) (hs : s.size < 4294967281) (hm : w.cell? ⟨1, 0, none⟩ = some (.int .i64 m)) :
    Calls Tryz.prog 117 #[.string s, .string ⟨#[c]⟩] w fun e w' =>
      e = .returned (.slice (some ⟨w.heap.size, 0, none⟩) (pieces s ⟨#[c]⟩).length (pieces s ⟨#[c]⟩).length) ∧ w' = w.alloc (.cells ((pieces s ⟨#[c]⟩).map Value.string).toArray 9) := by
  have h := Tryz.strings_Split s ⟨#[c]⟩ m w hs hm (Nat.le_refl 1)
  rw [pieces_length s ⟨#[c]⟩ (Nat.le_refl 1)]
  exact h

set_option maxHeartbeats 1000000 in
theorem isvalue_any (s : ByteArray) {m : Int} (w : World) (hs : s.size < 4294967281) (hm : w.cell? ⟨1, 0, none⟩ = some (.int .i64 m)) :
    Calls Tryz.prog 86 #[.string s] w fun e w' => e = .returned (.bool (isValueF s)) ∧ w.grownBy w' none := by
  have H1 := Lib.hid (split_any s 45 w hs hm)
  clear hm
  have HV : Hid (isValueF s = (pieces s ⟨#[45]⟩).all isWordF) := rfl
  have hsz : ∀ x ∈ pieces s ⟨#[45]⟩, x.size ≤ s.size := fun x => pieces_size
  have hlen : (pieces s ⟨#[45]⟩).length ≤ s.size + 1 := pieces_len _ _ (by decide)
  generalize pieces s ⟨#[45]⟩ = L at *
  have HL := Lib.hid hsz
  clear hsz
  go_enter Tryz.func86, Tryz.ntmps86
  go_wp2_with fail
  refine H1.out.mono ?_
  rintro e w' ⟨rfl, hw⟩
  have hcell : Hid (∀ k (h : k < L.length), w'.cell? ⟨w.heap.size, k, none⟩ = some (.string L[k])) := fun k h => by
    rw [hw, World.cell?_alloc_new]
    simp [h]
  have hg : w.grownBy w' none := by rw [hw]; exact World.grownBy_alloc _ _ _
  clear hw
  go_wp2_with fail
  go_loop [10] (fun c => ∃ k : Nat, k ≤ L.length ∧ c = .int .i64 k ∧ isValueF s = (L.drop k).all isWordF) (fun c => L.length - (intOf c).toNat)
  case atStart => exact ⟨0, by omega, rfl, by simpa using HV.out⟩
  case round =>
    obtain ⟨k, hk, rfl, hz⟩ := hrel
    have HZ := Lib.hid hz
    clear hz
    by_cases hlt : k < L.length
    · have hc := hcell.out k hlt
      have hps := HL.out L[k] (by simp)
      have hLk := Lib.hid (List.drop_eq_getElem_cons hlt)
      generalize L[k] = p at *
      go_wp2_with fail
      go_loop [16] (fun c => ∃ j : Nat, j ≤ p.size ∧ c = .int .i64 j ∧ isWordF p = (allFrom p (fun _ c => wordAt c) (p.size - j) j && decide (p.size ≠ 0))) (fun c => p.size - (intOf c).toNat)
      case atStart => exact ⟨0, by omega, rfl, by simp [isWordF]⟩
      case round =>
        obtain ⟨j, hj, rfl, hzj⟩ := hrel
        have HJ := Lib.hid hzj
        clear hzj
        by_cases hjl : j < p.size
        · have hb : p[j].toNat = nx p j := (nx_lt hjl).symm
          have hor : bits .or .u8 (nx p j : Int) 32 = (or32 (nx p j) : Int) := or32_eq _ (nx_le p j)
          cases h1 : smallF (or32 (nx p j)) with
          | true =>
            have HK := Lib.hid (show wordAt (nx p j) = true by simp [wordAt, h1])
            go_wp2_with (first | (go_at_call 115; refine (small_any _ _).mono ?_; rintro e w' ⟨rfl, hw⟩; rw [hw]; clear hw) | (go_at_call 116; refine (number_any _ _).mono ?_; rintro e w' ⟨rfl, hw⟩; rw [hw]; clear hw))
            go_round
            case rel => exact ⟨j + 1, by omega, by go_num, by rw [HJ.out, show p.size - j = (p.size - (j + 1)) + 1 from by omega]; simp only [allFrom]; rw [HK.out, Bool.true_and]⟩
            case measure => simp [intOf]; omega
          | false =>
            cases h2 : numberF (nx p j) with
            | true =>
              have HK := Lib.hid (show wordAt (nx p j) = true by simp [wordAt, h2])
              go_wp2_with (first | (go_at_call 115; refine (small_any _ _).mono ?_; rintro e w' ⟨rfl, hw⟩; rw [hw]; clear hw) | (go_at_call 116; refine (number_any _ _).mono ?_; rintro e w' ⟨rfl, hw⟩; rw [hw]; clear hw))
              go_round
              case rel => exact ⟨j + 1, by omega, by go_num, by rw [HJ.out, show p.size - j = (p.size - (j + 1)) + 1 from by omega]; simp only [allFrom]; rw [HK.out, Bool.true_and]⟩
              case measure => simp [intOf]; omega
            | false =>
              have HK := Lib.hid (show isWordF p = false by
                rw [HJ.out, show p.size - j = (p.size - (j + 1)) + 1 from by omega]
                simp [allFrom, wordAt, h1, h2])
              go_wp2_with (first | (go_at_call 115; refine (small_any _ _).mono ?_; rintro e w' ⟨rfl, hw⟩; rw [hw]; clear hw) | (go_at_call 116; refine (number_any _ _).mono ?_; rintro e w' ⟨rfl, hw⟩; rw [hw]; clear hw))
              go_ret
              have e1 : isValueF s = false := by rw [HZ.out, hLk.out, List.all_cons, HK.out]; rfl
              rw [e1]
              exact ⟨rfl, hg⟩
        · by_cases hp0 : p.size = 0
          · have hpe : p.toList.isEmpty = true := by have := nonempty_eq p; simp [hp0] at this; simpa using this
            have HP0 := Lib.hid hp0
            clear hp0
            go_wp2_with fail
            go_ret
            have e1 : isValueF s = false := by rw [HZ.out, hLk.out, List.all_cons]; simp [isWordF, HP0.out]
            rw [e1]
            exact ⟨rfl, hg⟩
          · have hpe : p.toList.isEmpty = false := by have := nonempty_eq p; simp [hp0] at this; simpa using this
            have e1 := Lib.hid (show isValueF s = (L.drop (k + 1)).all isWordF by
              rw [HZ.out, hLk.out, List.all_cons]
              have : isWordF p = true := by rw [HJ.out, show p.size - j = 0 from by omega]; simp [allFrom, hp0]
              rw [this, Bool.true_and])
            go_wp2_with fail
            go_round
            case rel => exact ⟨k + 1, by omega, by go_num, e1.out⟩
            case measure => simp [intOf]; omega
    · go_wp2_with fail
      go_ret
      have e1 : isValueF s = true := by rw [HZ.out, List.drop_of_length_le (by omega)]; rfl
      rw [e1]
      exact ⟨rfl, hg⟩

end Go.Proofs.YtkhpdiilghncgaaGreatDoor
