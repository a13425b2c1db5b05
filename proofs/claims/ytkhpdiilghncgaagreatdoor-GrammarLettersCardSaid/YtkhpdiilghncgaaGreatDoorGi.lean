/- Made names, places, fixed names. -/
import Derived.Test.YtkhpdiilghncgaaGreatDoorGh
namespace Go.Proofs.YtkhpdiilghncgaaGreatDoor
open Go.RowKit
set_option linter.unusedVariables false

set_option maxHeartbeats 1000000 in
theorem made_any (s more : ByteArray) (most : Nat) (mv : Int) (w : World) (hs : s.size ≤ 140737488351232) (hmv : mv = most) :
    Calls Tryz.prog 134 #[.string s, .int .i64 mv, .string more] w fun e w' => e = .returned (.bool (madeF s most more)) ∧ w' = w := by
  subst hmv
  go_enter Tryz.func134, Tryz.ntmps134
  go_wp2_with fail
  go_loop [11] (fun c => ∃ k : Nat, k ≤ s.size ∧ c = .int .i64 k ∧ madeF s most more = (allFrom s (fun _ c => madeAt more c) (s.size - k) k && decide (s.size ≠ 0) && decide (s.size ≤ most))) (fun c => s.size - (intOf c).toNat)
  case atStart => exact ⟨0, by omega, rfl, by simp [madeF]⟩
  case round =>
    obtain ⟨k, hk, rfl, hz⟩ := hrel
    have HZ := Lib.hid hz
    clear hz
    by_cases hlt : k < s.size
    · have hb : s[k].toNat = nx s k := (nx_lt hlt).symm
      cases h1 : letterF (nx s k) with
      | true =>
        have HK := Lib.hid (show madeAt more (nx s k) = true by simp [madeAt, h1])
        go_wp2_with (first | (go_at_call 145; refine (letter_any _ _).mono ?_; rintro e w' ⟨rfl, hw⟩; rw [hw]; clear hw) | (go_at_call 29; refine (index_any _ _ _).mono ?_; rintro e w' ⟨rfl, hw⟩; rw [hw]; clear hw))
        go_round
        case rel => exact ⟨k + 1, by omega, by go_num, by rw [HZ.out, show s.size - k = (s.size - (k + 1)) + 1 from by omega]; simp only [allFrom]; rw [HK.out, Bool.true_and]⟩
        case measure => simp [intOf]; omega
      | false =>
        cases h2 : decide ((nx s k : Int) < 48) with
        | true =>
          cases h3 : decide (ixb more (nx s k) < 0) with
          | true =>
            have HK := Lib.hid (show madeAt more (nx s k) = false by simp at h2 h3; simp [madeAt, numberF, h1]; omega)
            go_wp2_with (first | (go_at_call 145; refine (letter_any _ _).mono ?_; rintro e w' ⟨rfl, hw⟩; rw [hw]; clear hw) | (go_at_call 29; refine (index_any _ _ _).mono ?_; rintro e w' ⟨rfl, hw⟩; rw [hw]; clear hw))
            go_ret
            rw [HZ.out, show s.size - k = (s.size - (k + 1)) + 1 from by omega]
            simp only [allFrom]
            rw [HK.out, Bool.false_and, Bool.false_and, Bool.false_and]
            exact ⟨rfl, by trivial⟩
          | false =>
            have HK := Lib.hid (show madeAt more (nx s k) = true by simp at h3; simp [madeAt]; omega)
            go_wp2_with (first | (go_at_call 145; refine (letter_any _ _).mono ?_; rintro e w' ⟨rfl, hw⟩; rw [hw]; clear hw) | (go_at_call 29; refine (index_any _ _ _).mono ?_; rintro e w' ⟨rfl, hw⟩; rw [hw]; clear hw))
            go_round
            case rel => exact ⟨k + 1, by omega, by go_num, by rw [HZ.out, show s.size - k = (s.size - (k + 1)) + 1 from by omega]; simp only [allFrom]; rw [HK.out, Bool.true_and]⟩
            case measure => simp [intOf]; omega
        | false =>
          cases h4 : decide (57 < (nx s k : Int)) with
          | false =>
            have HK := Lib.hid (show madeAt more (nx s k) = true by simp at h2 h4; simp [madeAt, numberF]; omega)
            go_wp2_with (first | (go_at_call 145; refine (letter_any _ _).mono ?_; rintro e w' ⟨rfl, hw⟩; rw [hw]; clear hw) | (go_at_call 29; refine (index_any _ _ _).mono ?_; rintro e w' ⟨rfl, hw⟩; rw [hw]; clear hw))
            go_round
            case rel => exact ⟨k + 1, by omega, by go_num, by rw [HZ.out, show s.size - k = (s.size - (k + 1)) + 1 from by omega]; simp only [allFrom]; rw [HK.out, Bool.true_and]⟩
            case measure => simp [intOf]; omega
          | true =>
            cases h3 : decide (ixb more (nx s k) < 0) with
            | true =>
              have HK := Lib.hid (show madeAt more (nx s k) = false by simp at h2 h4 h3; simp [madeAt, numberF, h1]; omega)
              go_wp2_with (first | (go_at_call 145; refine (letter_any _ _).mono ?_; rintro e w' ⟨rfl, hw⟩; rw [hw]; clear hw) | (go_at_call 29; refine (index_any _ _ _).mono ?_; rintro e w' ⟨rfl, hw⟩; rw [hw]; clear hw))
              go_ret
              rw [HZ.out, show s.size - k = (s.size - (k + 1)) + 1 from by omega]
              simp only [allFrom]
              rw [HK.out, Bool.false_and, Bool.false_and, Bool.false_and]
              exact ⟨rfl, by trivial⟩
            | false =>
              have HK := Lib.hid (show madeAt more (nx s k) = true by simp at h3; simp [madeAt]; omega)
              go_wp2_with (first | (go_at_call 145; refine (letter_any _ _).mono ?_; rintro e w' ⟨rfl, hw⟩; rw [hw]; clear hw) | (go_at_call 29; refine (index_any _ _ _).mono ?_; rintro e w' ⟨rfl, hw⟩; rw [hw]; clear hw))
              go_round
              case rel => exact ⟨k + 1, by omega, by go_num, by rw [HZ.out, show s.size - k = (s.size - (k + 1)) + 1 from by omega]; simp only [allFrom]; rw [HK.out, Bool.true_and]⟩
              case measure => simp [intOf]; omega
    · have HA := Lib.hid (show madeF s most more = (decide (s.size ≠ 0) && decide (s.size ≤ most)) by rw [HZ.out, show s.size - k = 0 from by omega]; simp [allFrom])
      cases hne : s.toList.isEmpty with
      | true =>
        have hz0 := Lib.hid (show s.size = 0 by have := nonempty_eq s; rw [hne] at this; simpa using this)
        go_wp2_with fail
        go_ret
        rw [HA.out]
        exact ⟨by simp [hz0.out], by trivial⟩
      | false =>
        have hz0 := Lib.hid (show s.size ≠ 0 by have := nonempty_eq s; rw [hne] at this; simpa using this)
        go_wp2_with fail
        go_ret
        rw [HA.out]
        exact ⟨by simp [hz0.out], by trivial⟩

set_option maxHeartbeats 1000000 in
theorem place_any (s : ByteArray) {m : Int} (w : World) (hs : s.size < 4294967281) (hm : w.cell? ⟨1, 0, none⟩ = some (.int .i64 m)) :
    Calls Tryz.prog 114 #[.string s] w fun e w' => e = .returned (.bool (placeF s)) ∧ w.grownBy w' none := by
  have H1 := Lib.hid (split_any s 47 w hs hm)
  clear hm
  have HV : Hid (placeF s = ((pieces s ⟨#[47]⟩).all (fun p => madeF p 40 ⟨#[95, 43, 45]⟩) && decide (s.size ≤ 40))) := rfl
  have hsz : ∀ x ∈ pieces s ⟨#[47]⟩, x.size ≤ s.size := fun x => pieces_size
  have hlen : (pieces s ⟨#[47]⟩).length ≤ s.size + 1 := pieces_len _ _ (by decide)
  generalize pieces s ⟨#[47]⟩ = L at *
  have HL := Lib.hid hsz
  clear hsz
  go_enter Tryz.func114, Tryz.ntmps114
  go_wp2_with fail
  refine H1.out.mono ?_
  rintro e w' ⟨rfl, hw⟩
  have hcell : Hid (∀ k (h : k < L.length), w'.cell? ⟨w.heap.size, k, none⟩ = some (.string L[k])) := fun k h => by
    rw [hw, World.cell?_alloc_new]
    simp [h]
  have hg : w.grownBy w' none := by rw [hw]; exact World.grownBy_alloc _ _ _
  clear hw
  go_wp2_with fail
  go_loop [8] (fun c => ∃ k : Nat, k ≤ L.length ∧ c = .int .i64 k ∧ placeF s = ((L.drop k).all (fun p => madeF p 40 ⟨#[95, 43, 45]⟩) && decide (s.size ≤ 40))) (fun c => L.length - (intOf c).toNat)
  case atStart => exact ⟨0, by omega, rfl, by simpa using HV.out⟩
  case round =>
    obtain ⟨k, hk, rfl, hz⟩ := hrel
    have HZ := Lib.hid hz
    clear hz
    by_cases hlt : k < L.length
    · have hc := hcell.out k hlt
      have hps := HL.out L[k] (by simp)
      have hLk := Lib.hid (List.drop_eq_getElem_cons hlt)
      generalize L[k] = p at *
      have HP := Lib.hid (made_any p ⟨#[95, 43, 45]⟩ 40 40 w' (by omega) rfl)
      cases hmd : madeF p 40 ⟨#[95, 43, 45]⟩ with
      | true =>
        have e1 := Lib.hid (show placeF s = ((L.drop (k + 1)).all (fun p => madeF p 40 ⟨#[95, 43, 45]⟩) && decide (s.size ≤ 40)) by rw [HZ.out, hLk.out, List.all_cons, hmd, Bool.true_and])
        go_wp2_with (go_at_call 134; refine HP.out.mono ?_; rintro e w2 ⟨rfl, hw⟩; rw [hw]; clear hw)
        go_round
        case rel => exact ⟨k + 1, by omega, by go_num, e1.out⟩
        case measure => simp [intOf]; omega
      | false =>
        have e1 := Lib.hid (show placeF s = false by rw [HZ.out, hLk.out, List.all_cons, hmd, Bool.false_and, Bool.false_and])
        go_wp2_with (go_at_call 134; refine HP.out.mono ?_; rintro e w2 ⟨rfl, hw⟩; rw [hw]; clear hw)
        go_ret
        rw [e1.out]
        exact ⟨rfl, hg⟩
    · have e1 := Lib.hid (show placeF s = decide (s.size ≤ 40) by rw [HZ.out, List.drop_of_length_le (by omega)]; simp)
      go_wp2_with fail
      go_ret
      rw [e1.out]
      have hd : decide ((s.size : Int) ≤ 40) = decide (s.size ≤ 40) := by rw [Bool.eq_iff_iff]; simp; omega
      exact ⟨by rw [← hd]; rfl, hg⟩

set_option maxHeartbeats 1000000 in
theorem atwo_any (s : ByteArray) (below : Nat) (bv : Int) (w : World) (hbv : bv = below) :
    Calls Tryz.prog 133 #[.string s, .int .i64 bv] w fun e w' => e = .returned (.tuple #[.int .i64 ((atwo s below).1 : Int), .bool (atwo s below).2]) ∧ Dr w w' := by
  subst hbv
  cases hsz : ((s.size : Int) != 2) with
  | true =>
    have HZ := Lib.hid (show atwo s below = (0, false) by simp at hsz; simp [atwo]; omega)
    go_enter Tryz.func133, Tryz.ntmps133
    go_wp2_with fail
    go_ret2
    exact ⟨by rw [HZ.out]; rfl, Dr.refl _⟩
  | false =>
    have hl : s.size = 2 := by simp at hsz; omega
    have HLE := Lib.hid hl
    have z0 : (0 : Int) < (s.size : Int) := by omega
    have z1 : (1 : Int) < (s.size : Int) := by omega
    have y0 : 0 < s.size := by omega
    have y1 : 1 < s.size := by omega
    have b0 : s[0].toNat = nx s 0 := (nx_lt y0).symm
    have b1 : s[1].toNat = nx s 1 := (nx_lt y1).symm
    clear hl
    cases h0 : decide ((nx s 0 : Int) < 48) with
    | true =>
      have HZ := Lib.hid (show atwo s below = (0, false) by simp at h0; simp [atwo, numberF]; omega)
      go_enter Tryz.func133, Tryz.ntmps133
      go_wp2_with fail
      go_ret2
      exact ⟨by rw [HZ.out]; rfl, Dr.refl _⟩
    | false =>
      cases h1 : decide ((57 : Int) < (nx s 0 : Int)) with
      | true =>
        have HZ := Lib.hid (show atwo s below = (0, false) by simp at h1; simp [atwo, numberF]; omega)
        go_enter Tryz.func133, Tryz.ntmps133
        go_wp2_with fail
        go_ret2
        exact ⟨by rw [HZ.out]; rfl, Dr.refl _⟩
      | false =>
        cases h2 : decide ((nx s 1 : Int) < 48) with
        | true =>
          have HZ := Lib.hid (show atwo s below = (0, false) by simp at h2; simp [atwo, numberF]; omega)
          go_enter Tryz.func133, Tryz.ntmps133
          go_wp2_with fail
          go_ret2
          exact ⟨by rw [HZ.out]; rfl, Dr.refl _⟩
        | false =>
          cases h3 : decide ((57 : Int) < (nx s 1 : Int)) with
          | true =>
            have HZ := Lib.hid (show atwo s below = (0, false) by simp at h3; simp [atwo, numberF]; omega)
            go_enter Tryz.func133, Tryz.ntmps133
            go_wp2_with fail
            go_ret2
            exact ⟨by rw [HZ.out]; rfl, Dr.refl _⟩
          | false =>
            have HZ := Lib.hid (show atwo s below = ((nx s 0 - 48) * 10 + (nx s 1 - 48), decide ((nx s 0 - 48) * 10 + (nx s 1 - 48) < below)) by simp at h0 h1 h2 h3; simp [atwo, numberF, HLE.out]; omega)
            have c0 : (48 : Int) ≤ nx s 0 := by simpa using h0
            have c1 : (nx s 0 : Int) ≤ 57 := by simpa using h1
            have c2 : (48 : Int) ≤ nx s 1 := by simpa using h2
            have c3 : (nx s 1 : Int) ≤ 57 := by simpa using h3
            go_enter Tryz.func133, Tryz.ntmps133
            go_wp2_with fail
            go_quiet (fail)
            go_wp2_with fail
            go_ret2
            have hv : ((nx s 0 : Int) - 48) * 10 + ((nx s 1 : Int) - 48) = (((nx s 0 - 48) * 10 + (nx s 1 - 48) : Nat) : Int) := by omega
            show Ending.returned (.tuple #[.int .i64 (((nx s 0 : Int) - 48) * 10 + ((nx s 1 : Int) - 48)), .bool (decide (((nx s 0 : Int) - 48) * 10 + ((nx s 1 : Int) - 48) < (below : Int)))]) = _ ∧ _
            rw [hv, HZ.out]
            exact ⟨by simp only [Int.ofNat_lt], Dr.one _ _⟩

/-- What Fixed hands back. -/
def fixV (r : Option Int) : Value := match r with
  | some n => .tuple #[.int .i64 n, .bool true]
  | none => .tuple #[.int .i64 0, .bool false]

set_option maxHeartbeats 2000000 in
theorem fixed_6 (s : ByteArray) (w : World) (h6 : ((s.size : Int) != 6) = false) : Calls Tryz.prog 113 #[.string s] w fun e w' => e = .returned (fixV (fixedF s)) ∧ Dr w w' := by
  have hl : s.size = 6 := by simp at h6; omega
  have HLE := Lib.hid hl
  have z0 : (0 : Int) < (s.size : Int) := by omega
  have z3 : (3 : Int) < (s.size : Int) := by omega
  have z6 : (6 : Int) ≤ (s.size : Int) := by omega
  have y0 : 0 < s.size := by omega
  have y3 : 3 < s.size := by omega
  have b0 : s[0].toNat = nx s 0 := (nx_lt y0).symm
  have b3 : s[3].toNat = nx s 3 := (nx_lt y3).symm
  have h9 : ((s.size : Int) == 9) = false := by simp; omega
  clear hl
  cases g1 : ((nx s 0 : Int) != 43) with
  | true =>
    cases g2 : ((nx s 0 : Int) != 45) with
    | true =>
      have HZ := Lib.hid (show fixedF s = none by
        have e1 : nx s 0 ≠ 43 := by simp at g1; omega
        have e2 : nx s 0 ≠ 45 := by simp at g2; omega
        simp [fixedF, e1, e2])
      go_enter Tryz.func113, Tryz.ntmps113
      go_wp2_with fail
      go_ret2
      exact ⟨by rw [HZ.out]; rfl, Dr.refl _⟩
    | false =>
      have e0 := Lib.hid (show nx s 0 = 45 by simp at g2; omega)
      have g4 : ((nx s 0 : Int) == 45) = true := by simp [e0.out]
      cases g3 : ((nx s 3 : Int) != 58) with
      | true =>
        have HZ := Lib.hid (show fixedF s = none by
          have e1 : nx s 3 ≠ 58 := by simp at g3; omega
          simp [fixedF, e1])
        go_enter Tryz.func113, Tryz.ntmps113
        go_wp2_with fail
        go_ret2
        exact ⟨by rw [HZ.out]; rfl, Dr.refl _⟩
      | false =>
        have e3 := Lib.hid (show nx s 3 = 58 by simp at g3; omega)
        have hd := atwo_le (s.extract 1 3) 24
        have hm := atwo_le (s.extract 4 6) 60
        have hd1 : ((atwo (s.extract 1 3) 24).1 : Int) ≤ 99 := by omega
        have hm1 : ((atwo (s.extract 4 6) 60).1 : Int) ≤ 99 := by omega
        clear hd hm
        cases ka : (atwo (s.extract 1 3) 24).2 with
        | false =>
          have HZ := Lib.hid (show fixedF s = none by simp [fixedF, ka])
          go_enter Tryz.func113, Tryz.ntmps113
          go_wp2_with fail
          refine (atwo_any (s.extract 1 3) 24 24 _ rfl).mono ?_
          rintro e w1 ⟨rfl, d1⟩
          go_wp2_with fail
          refine (atwo_any (s.extract 4 6) 60 60 _ rfl).mono ?_
          rintro e w2 ⟨rfl, d2⟩
          have D := Lib.hid (d1.trans d2)
          clear d1 d2
          go_wp2_with fail
          go_ret2
          exact ⟨by rw [HZ.out]; rfl, D.out⟩
        | true =>
          cases kb : (atwo (s.extract 4 6) 60).2 with
          | false =>
            have HZ := Lib.hid (show fixedF s = none by simp [fixedF, kb])
            go_enter Tryz.func113, Tryz.ntmps113
            go_wp2_with fail
            refine (atwo_any (s.extract 1 3) 24 24 _ rfl).mono ?_
            rintro e w1 ⟨rfl, d1⟩
            go_wp2_with fail
            refine (atwo_any (s.extract 4 6) 60 60 _ rfl).mono ?_
            rintro e w2 ⟨rfl, d2⟩
            have D := Lib.hid (d1.trans d2)
            clear d1 d2
            go_wp2_with fail
            go_ret2
            exact ⟨by rw [HZ.out]; rfl, D.out⟩
          | true =>
            have HZ := Lib.hid (show fixedF s = some (-(((atwo (s.extract 1 3) 24).1 : Int) * 3600 + ((atwo (s.extract 4 6) 60).1 : Int) * 60)) by simp [fixedF, ka, kb, e0.out, e3.out, HLE.out])
            go_enter Tryz.func113, Tryz.ntmps113
            go_wp2_with fail
            refine (atwo_any (s.extract 1 3) 24 24 _ rfl).mono ?_
            rintro e w1 ⟨rfl, d1⟩
            go_wp2_with fail
            refine (atwo_any (s.extract 4 6) 60 60 _ rfl).mono ?_
            rintro e w2 ⟨rfl, d2⟩
            have D := Lib.hid (d1.trans d2)
            clear d1 d2
            go_wp2_with fail
            go_ret2
            exact ⟨by rw [HZ.out]; rfl, D.out⟩
  | false =>
    have e0 := Lib.hid (show nx s 0 = 43 by simp at g1; omega)
    have g4 : ((nx s 0 : Int) == 45) = false := by simp [e0.out]
    cases g3 : ((nx s 3 : Int) != 58) with
    | true =>
      have HZ := Lib.hid (show fixedF s = none by
        have e1 : nx s 3 ≠ 58 := by simp at g3; omega
        simp [fixedF, e1])
      go_enter Tryz.func113, Tryz.ntmps113
      go_wp2_with fail
      go_ret2
      exact ⟨by rw [HZ.out]; rfl, Dr.refl _⟩
    | false =>
      have e3 := Lib.hid (show nx s 3 = 58 by simp at g3; omega)
      have hd := atwo_le (s.extract 1 3) 24
      have hm := atwo_le (s.extract 4 6) 60
      have hd1 : ((atwo (s.extract 1 3) 24).1 : Int) ≤ 99 := by omega
      have hm1 : ((atwo (s.extract 4 6) 60).1 : Int) ≤ 99 := by omega
      clear hd hm
      cases ka : (atwo (s.extract 1 3) 24).2 with
      | false =>
        have HZ := Lib.hid (show fixedF s = none by simp [fixedF, ka])
        go_enter Tryz.func113, Tryz.ntmps113
        go_wp2_with fail
        refine (atwo_any (s.extract 1 3) 24 24 _ rfl).mono ?_
        rintro e w1 ⟨rfl, d1⟩
        go_wp2_with fail
        refine (atwo_any (s.extract 4 6) 60 60 _ rfl).mono ?_
        rintro e w2 ⟨rfl, d2⟩
        have D := Lib.hid (d1.trans d2)
        clear d1 d2
        go_wp2_with fail
        go_ret2
        exact ⟨by rw [HZ.out]; rfl, D.out⟩
      | true =>
        cases kb : (atwo (s.extract 4 6) 60).2 with
        | false =>
          have HZ := Lib.hid (show fixedF s = none by simp [fixedF, kb])
          go_enter Tryz.func113, Tryz.ntmps113
          go_wp2_with fail
          refine (atwo_any (s.extract 1 3) 24 24 _ rfl).mono ?_
          rintro e w1 ⟨rfl, d1⟩
          go_wp2_with fail
          refine (atwo_any (s.extract 4 6) 60 60 _ rfl).mono ?_
          rintro e w2 ⟨rfl, d2⟩
          have D := Lib.hid (d1.trans d2)
          clear d1 d2
          go_wp2_with fail
          go_ret2
          exact ⟨by rw [HZ.out]; rfl, D.out⟩
        | true =>
          have HZ := Lib.hid (show fixedF s = some ((((atwo (s.extract 1 3) 24).1 : Int) * 3600 + ((atwo (s.extract 4 6) 60).1 : Int) * 60)) by simp [fixedF, ka, kb, e0.out, e3.out, HLE.out])
          go_enter Tryz.func113, Tryz.ntmps113
          go_wp2_with fail
          refine (atwo_any (s.extract 1 3) 24 24 _ rfl).mono ?_
          rintro e w1 ⟨rfl, d1⟩
          go_wp2_with fail
          refine (atwo_any (s.extract 4 6) 60 60 _ rfl).mono ?_
          rintro e w2 ⟨rfl, d2⟩
          have D := Lib.hid (d1.trans d2)
          clear d1 d2
          go_wp2_with fail
          go_ret2
          exact ⟨by rw [HZ.out]; rfl, D.out⟩
set_option maxHeartbeats 4000000 in
theorem fixed_9 (s : ByteArray) (w : World) (h6 : ((s.size : Int) != 6) = true) (h9 : ((s.size : Int) != 9) = false) : Calls Tryz.prog 113 #[.string s] w fun e w' => e = .returned (fixV (fixedF s)) ∧ Dr w w' := by
  have hl : s.size = 9 := by simp at h9; omega
  have HLE := Lib.hid hl
  have z0 : (0 : Int) < (s.size : Int) := by omega
  have z3 : (3 : Int) < (s.size : Int) := by omega
  have z6 : (6 : Int) ≤ (s.size : Int) := by omega
  have z66 : (6 : Int) < (s.size : Int) := by omega
  have z7 : (7 : Int) ≤ (s.size : Int) := by omega
  have y0 : 0 < s.size := by omega
  have y3 : 3 < s.size := by omega
  have y6 : 6 < s.size := by omega
  have b0 : s[0].toNat = nx s 0 := (nx_lt y0).symm
  have b3 : s[3].toNat = nx s 3 := (nx_lt y3).symm
  have b6 : s[6].toNat = nx s 6 := (nx_lt y6).symm
  have h9' : ((s.size : Int) == 9) = true := by simp; omega
  clear hl
  cases g1 : ((nx s 0 : Int) != 43) with
  | true =>
    cases g2 : ((nx s 0 : Int) != 45) with
    | true =>
      have HZ := Lib.hid (show fixedF s = none by
        have e1 : nx s 0 ≠ 43 := by simp at g1; omega
        have e2 : nx s 0 ≠ 45 := by simp at g2; omega
        simp [fixedF, e1, e2])
      go_enter Tryz.func113, Tryz.ntmps113
      go_wp2_with fail
      go_ret2
      exact ⟨by rw [HZ.out]; rfl, Dr.refl _⟩
    | false =>
      have e0 := Lib.hid (show nx s 0 = 45 by simp at g2; omega)
      have g4 : ((nx s 0 : Int) == 45) = true := by simp [e0.out]
      cases g3 : ((nx s 3 : Int) != 58) with
      | true =>
        have HZ := Lib.hid (show fixedF s = none by
          have e1 : nx s 3 ≠ 58 := by simp at g3; omega
          simp [fixedF, e1])
        go_enter Tryz.func113, Tryz.ntmps113
        go_wp2_with fail
        go_ret2
        exact ⟨by rw [HZ.out]; rfl, Dr.refl _⟩
      | false =>
        have e3 := Lib.hid (show nx s 3 = 58 by simp at g3; omega)
        cases g6 : ((nx s 6 : Int) != 58) with
        | true =>
          have HZ := Lib.hid (show fixedF s = none by
            have e1 : nx s 6 ≠ 58 := by simp at g6; omega
            simp [fixedF, e1, HLE.out])
          go_enter Tryz.func113, Tryz.ntmps113
          go_wp2_with fail
          go_ret2
          exact ⟨by rw [HZ.out]; rfl, Dr.refl _⟩
        | false =>
          have e6 := Lib.hid (show nx s 6 = 58 by simp at g6; omega)
          have hd := atwo_le (s.extract 1 3) 24
          have hm := atwo_le (s.extract 4 6) 60
          have hs := atwo_le (s.extract 7 s.size) 60
          have hd1 : ((atwo (s.extract 1 3) 24).1 : Int) ≤ 99 := by omega
          have hm1 : ((atwo (s.extract 4 6) 60).1 : Int) ≤ 99 := by omega
          have hs1 : ((atwo (s.extract 7 s.size) 60).1 : Int) ≤ 99 := by omega
          clear hd hm hs
          cases ka : (atwo (s.extract 1 3) 24).2 with
          | false =>
            have HZ := Lib.hid (show fixedF s = none by simp [fixedF, ka])
            go_enter Tryz.func113, Tryz.ntmps113
            go_wp2_with fail
            refine (atwo_any (s.extract 1 3) 24 24 _ rfl).mono ?_
            rintro e w1 ⟨rfl, d1⟩
            go_wp2_with fail
            refine (atwo_any (s.extract 4 6) 60 60 _ rfl).mono ?_
            rintro e w2 ⟨rfl, d2⟩
            have D := Lib.hid (d1.trans d2)
            clear d1 d2
            go_wp2_with fail
            refine (atwo_any (s.extract 7 s.size) 60 60 _ rfl).mono ?_
            rintro e w3 ⟨rfl, d3⟩
            have D := Lib.hid (D.out.trans d3)
            clear d3
            go_wp2_with fail
            go_ret2
            exact ⟨by rw [HZ.out]; rfl, D.out⟩
          | true =>
            cases kb : (atwo (s.extract 4 6) 60).2 with
            | false =>
              have HZ := Lib.hid (show fixedF s = none by simp [fixedF, kb])
              go_enter Tryz.func113, Tryz.ntmps113
              go_wp2_with fail
              refine (atwo_any (s.extract 1 3) 24 24 _ rfl).mono ?_
              rintro e w1 ⟨rfl, d1⟩
              go_wp2_with fail
              refine (atwo_any (s.extract 4 6) 60 60 _ rfl).mono ?_
              rintro e w2 ⟨rfl, d2⟩
              have D := Lib.hid (d1.trans d2)
              clear d1 d2
              go_wp2_with fail
              refine (atwo_any (s.extract 7 s.size) 60 60 _ rfl).mono ?_
              rintro e w3 ⟨rfl, d3⟩
              have D := Lib.hid (D.out.trans d3)
              clear d3
              go_wp2_with fail
              go_ret2
              exact ⟨by rw [HZ.out]; rfl, D.out⟩
            | true =>
              cases kc : (atwo (s.extract 7 s.size) 60).2 with
              | false =>
                have HZ := Lib.hid (show fixedF s = none by rw [HLE.out] at kc; simp [fixedF, kc, HLE.out])
                go_enter Tryz.func113, Tryz.ntmps113
                go_wp2_with fail
                refine (atwo_any (s.extract 1 3) 24 24 _ rfl).mono ?_
                rintro e w1 ⟨rfl, d1⟩
                go_wp2_with fail
                refine (atwo_any (s.extract 4 6) 60 60 _ rfl).mono ?_
                rintro e w2 ⟨rfl, d2⟩
                have D := Lib.hid (d1.trans d2)
                clear d1 d2
                go_wp2_with fail
                refine (atwo_any (s.extract 7 s.size) 60 60 _ rfl).mono ?_
                rintro e w3 ⟨rfl, d3⟩
                have D := Lib.hid (D.out.trans d3)
                clear d3
                go_wp2_with fail
                go_ret2
                exact ⟨by rw [HZ.out]; rfl, D.out⟩
              | true =>
                have HZ := Lib.hid (show fixedF s = some (-(((atwo (s.extract 1 3) 24).1 : Int) * 3600 + ((atwo (s.extract 4 6) 60).1 : Int) * 60 + ((atwo (s.extract 7 s.size) 60).1 : Int))) by rw [HLE.out] at kc; simp [fixedF, ka, kb, kc, e0.out, e3.out, e6.out, HLE.out])
                go_enter Tryz.func113, Tryz.ntmps113
                go_wp2_with fail
                refine (atwo_any (s.extract 1 3) 24 24 _ rfl).mono ?_
                rintro e w1 ⟨rfl, d1⟩
                go_wp2_with fail
                refine (atwo_any (s.extract 4 6) 60 60 _ rfl).mono ?_
                rintro e w2 ⟨rfl, d2⟩
                have D := Lib.hid (d1.trans d2)
                clear d1 d2
                go_wp2_with fail
                refine (atwo_any (s.extract 7 s.size) 60 60 _ rfl).mono ?_
                rintro e w3 ⟨rfl, d3⟩
                have D := Lib.hid (D.out.trans d3)
                clear d3
                go_wp2_with fail
                go_ret2
                exact ⟨by rw [HZ.out]; rfl, D.out⟩
  | false =>
    have e0 := Lib.hid (show nx s 0 = 43 by simp at g1; omega)
    have g4 : ((nx s 0 : Int) == 45) = false := by simp [e0.out]
    cases g3 : ((nx s 3 : Int) != 58) with
    | true =>
      have HZ := Lib.hid (show fixedF s = none by
        have e1 : nx s 3 ≠ 58 := by simp at g3; omega
        simp [fixedF, e1])
      go_enter Tryz.func113, Tryz.ntmps113
      go_wp2_with fail
      go_ret2
      exact ⟨by rw [HZ.out]; rfl, Dr.refl _⟩
    | false =>
      have e3 := Lib.hid (show nx s 3 = 58 by simp at g3; omega)
      cases g6 : ((nx s 6 : Int) != 58) with
      | true =>
        have HZ := Lib.hid (show fixedF s = none by
          have e1 : nx s 6 ≠ 58 := by simp at g6; omega
          simp [fixedF, e1, HLE.out])
        go_enter Tryz.func113, Tryz.ntmps113
        go_wp2_with fail
        go_ret2
        exact ⟨by rw [HZ.out]; rfl, Dr.refl _⟩
      | false =>
        have e6 := Lib.hid (show nx s 6 = 58 by simp at g6; omega)
        have hd := atwo_le (s.extract 1 3) 24
        have hm := atwo_le (s.extract 4 6) 60
        have hs := atwo_le (s.extract 7 s.size) 60
        have hd1 : ((atwo (s.extract 1 3) 24).1 : Int) ≤ 99 := by omega
        have hm1 : ((atwo (s.extract 4 6) 60).1 : Int) ≤ 99 := by omega
        have hs1 : ((atwo (s.extract 7 s.size) 60).1 : Int) ≤ 99 := by omega
        clear hd hm hs
        cases ka : (atwo (s.extract 1 3) 24).2 with
        | false =>
          have HZ := Lib.hid (show fixedF s = none by simp [fixedF, ka])
          go_enter Tryz.func113, Tryz.ntmps113
          go_wp2_with fail
          refine (atwo_any (s.extract 1 3) 24 24 _ rfl).mono ?_
          rintro e w1 ⟨rfl, d1⟩
          go_wp2_with fail
          refine (atwo_any (s.extract 4 6) 60 60 _ rfl).mono ?_
          rintro e w2 ⟨rfl, d2⟩
          have D := Lib.hid (d1.trans d2)
          clear d1 d2
          go_wp2_with fail
          refine (atwo_any (s.extract 7 s.size) 60 60 _ rfl).mono ?_
          rintro e w3 ⟨rfl, d3⟩
          have D := Lib.hid (D.out.trans d3)
          clear d3
          go_wp2_with fail
          go_ret2
          exact ⟨by rw [HZ.out]; rfl, D.out⟩
        | true =>
          cases kb : (atwo (s.extract 4 6) 60).2 with
          | false =>
            have HZ := Lib.hid (show fixedF s = none by simp [fixedF, kb])
            go_enter Tryz.func113, Tryz.ntmps113
            go_wp2_with fail
            refine (atwo_any (s.extract 1 3) 24 24 _ rfl).mono ?_
            rintro e w1 ⟨rfl, d1⟩
            go_wp2_with fail
            refine (atwo_any (s.extract 4 6) 60 60 _ rfl).mono ?_
            rintro e w2 ⟨rfl, d2⟩
            have D := Lib.hid (d1.trans d2)
            clear d1 d2
            go_wp2_with fail
            refine (atwo_any (s.extract 7 s.size) 60 60 _ rfl).mono ?_
            rintro e w3 ⟨rfl, d3⟩
            have D := Lib.hid (D.out.trans d3)
            clear d3
            go_wp2_with fail
            go_ret2
            exact ⟨by rw [HZ.out]; rfl, D.out⟩
          | true =>
            cases kc : (atwo (s.extract 7 s.size) 60).2 with
            | false =>
              have HZ := Lib.hid (show fixedF s = none by rw [HLE.out] at kc; simp [fixedF, kc, HLE.out])
              go_enter Tryz.func113, Tryz.ntmps113
              go_wp2_with fail
              refine (atwo_any (s.extract 1 3) 24 24 _ rfl).mono ?_
              rintro e w1 ⟨rfl, d1⟩
              go_wp2_with fail
              refine (atwo_any (s.extract 4 6) 60 60 _ rfl).mono ?_
              rintro e w2 ⟨rfl, d2⟩
              have D := Lib.hid (d1.trans d2)
              clear d1 d2
              go_wp2_with fail
              refine (atwo_any (s.extract 7 s.size) 60 60 _ rfl).mono ?_
              rintro e w3 ⟨rfl, d3⟩
              have D := Lib.hid (D.out.trans d3)
              clear d3
              go_wp2_with fail
              go_ret2
              exact ⟨by rw [HZ.out]; rfl, D.out⟩
            | true =>
              have HZ := Lib.hid (show fixedF s = some ((((atwo (s.extract 1 3) 24).1 : Int) * 3600 + ((atwo (s.extract 4 6) 60).1 : Int) * 60 + ((atwo (s.extract 7 s.size) 60).1 : Int))) by rw [HLE.out] at kc; simp [fixedF, ka, kb, kc, e0.out, e3.out, e6.out, HLE.out])
              go_enter Tryz.func113, Tryz.ntmps113
              go_wp2_with fail
              refine (atwo_any (s.extract 1 3) 24 24 _ rfl).mono ?_
              rintro e w1 ⟨rfl, d1⟩
              go_wp2_with fail
              refine (atwo_any (s.extract 4 6) 60 60 _ rfl).mono ?_
              rintro e w2 ⟨rfl, d2⟩
              have D := Lib.hid (d1.trans d2)
              clear d1 d2
              go_wp2_with fail
              refine (atwo_any (s.extract 7 s.size) 60 60 _ rfl).mono ?_
              rintro e w3 ⟨rfl, d3⟩
              have D := Lib.hid (D.out.trans d3)
              clear d3
              go_wp2_with fail
              go_ret2
              exact ⟨by rw [HZ.out]; rfl, D.out⟩
theorem fixed_any (s : ByteArray) (w : World) : Calls Tryz.prog 113 #[.string s] w fun e w' => e = .returned (fixV (fixedF s)) ∧ Dr w w' := by
  cases h6 : ((s.size : Int) != 6) with
  | true =>
    cases h9 : ((s.size : Int) != 9) with
    | true =>
      have HZ := Lib.hid (show fixedF s = none by
        have e1 : s.size ≠ 6 := by simp at h6; omega
        have e2 : s.size ≠ 9 := by simp at h9; omega
        simp [fixedF, e1, e2])
      go_enter Tryz.func113, Tryz.ntmps113
      go_wp2_with fail
      go_ret2
      exact ⟨by rw [HZ.out]; rfl, Dr.refl _⟩
    | false => exact fixed_9 s w h6 h9
  | false => exact fixed_6 s w h6

set_option maxHeartbeats 1000000 in
theorem name_any (s : ByteArray) {m : Int} (w : World) (hs : s.size < 4294967281) (hm : w.cell? ⟨1, 0, none⟩ = some (.int .i64 m)) :
    Calls Tryz.prog 84 #[.string s] w fun e w' => e = .returned (.bool (nameF s)) ∧ w.grownBy w' none := by
  have H1 := Lib.hid (fixed_any s w)
  cases hf : fixedF s with
  | some n =>
    have HZ := Lib.hid (show nameF s = true by simp [nameF, hf])
    rw [hf] at H1
    clear hf hm
    go_enter Tryz.func84, Tryz.ntmps84
    go_wp2_with (go_at_call 113; refine H1.out.mono ?_; rintro e w1 ⟨rfl, d1⟩; unfold fixV)
    go_ret
    rw [HZ.out]
    obtain ⟨k, rfl⟩ := d1
    exact ⟨rfl, grown_drewN (grown_refl _ _) _⟩
  | none =>
    have HZ := Lib.hid (show nameF s = placeF s by simp [nameF, hf])
    rw [hf] at H1
    have HM := Lib.hid hm
    clear hf hm
    go_enter Tryz.func84, Tryz.ntmps84
    go_wp2_with fail
    refine H1.out.mono ?_
    rintro e w1 ⟨rfl, d1⟩
    unfold fixV
    have hm1 : w1.cell? ⟨1, 0, none⟩ = some (.int .i64 m) := by obtain ⟨k, rfl⟩ := d1; exact HM.out
    have H2 := Lib.hid (place_any s w1 hs hm1)
    clear hm1
    go_wp2_with (go_at_call 114; refine H2.out.mono ?_; rintro e w2 ⟨rfl, g2⟩)
    go_ret
    rw [HZ.out]
    obtain ⟨k, rfl⟩ := d1
    exact ⟨rfl, grown_trans (grown_drewN (grown_refl _ _) _) g2⟩

end Go.Proofs.YtkhpdiilghncgaaGreatDoor
