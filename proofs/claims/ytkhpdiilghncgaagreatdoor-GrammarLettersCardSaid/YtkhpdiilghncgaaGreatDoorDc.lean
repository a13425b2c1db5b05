/- analemma/duration: Right. -/
import Derived.Test.YtkhpdiilghncgaaGreatDoorDb
namespace Go.Proofs.YtkhpdiilghncgaaGreatDoor
open Go.RowKit Go.Shelf
set_option linter.unusedVariables false

def limitN : Int := 9007199254740992000000000
theorem limit_any (w : World) : Calls Tryz.prog 66 #[] w fun e w' => e = .returned (W limitN) ∧ w.grownBy w' none := by
  have HM := Lib.hid (fun w => mul_any 9007199254740992 1000000000 w ⟨by decide, by decide⟩ ⟨by decide, by decide⟩)
  rw [show (9007199254740992 * 1000000000 : Int) = limitN from rfl] at HM
  go_enter Tryz.func66, Tryz.ntmps66
  go_wp2_with fail
  refine (HM.out _).mono ?_
  rintro e w1 ⟨rfl, hg⟩
  have K1 := blk_grown hg (alloc_at w _) (by simp)
  have q0 := blk_cell K1 0
  have q1 := blk_cell K1 1
  have q2 := blk_free K1 0
  have q3 := blk_free K1 1
  simp only [List.getElem?_toArray, List.getElem?_cons_zero, List.getElem?_cons_succ] at q0 q1
  go_wp2_with fail
  refine bodyPost_ret (v := W limitN) (by simp [results, Tryz.results66, go_sem, q0, q1]) rfl ⟨rfl, ?_⟩
  exact grown_setNew (grown_setNew (grown_trans (grown_alloc (grown_refl _ _) _) hg) (by simp) _) (by simp) _

def okU (d : Nat → Int) (s : Int) (k : Nat) : Bool := !(cmpI (d k) 0 != 0 && cmpI (d k) 0 != s) && !(decide (k < 3) && (decide (4294967295 < d k) || decide (d k < -4294967295)))
def rightFrom (d : Nat → Int) (s : Int) : Nat → Nat → Bool
  | 0, _ => true
  | n + 1, k => okU d s k && rightFrom d s n (k + 1)
def finD (d : Nat → Int) : Bool := decide (cmpI (if signD d < 0 then -totalD d else totalD d) limitN < 0)
/-- May a duration be? -/
def rightD (d : Nat → Int) : Bool := rightFrom d (signD d) 8 0 && finD d

theorem total_bd {d : Nat → Int} (h : D64 d) : I128 (totalD d) ∧ I128 (0 - totalD d) := by
  have h3 := h 3
  have h4 := h 4
  have h5 := h 5
  have h6 := h 6
  have h7 := h 7
  unfold I64 at *
  unfold I128 totalD
  omega
structure Rt (d : Nat → Int) (w : World) (f : Nat) (w' : World) : Prop where
  gr : w.grownBy w' none
  db : Db w' w.heap.size d
  fb : Fb w' f w.heap.size
theorem Rt.grow {d : Nat → Int} {w w' w'' : World} {f : Nat} (h : Rt d w f w') (g : w'.grownBy w'' none) : Rt d w f w'' :=
  ⟨grown_trans h.gr g, blk_grown g h.db (by simp), blk_grown g h.fb (by simp)⟩
set_option maxHeartbeats 2000000 in
theorem right_any (d : Nat → Int) (w : World) (hd : D64 d) : Calls Tryz.prog 31 #[.agg (dcells d)] w fun e w' => e = .returned (.bool (rightD d)) ∧ w.grownBy w' none := by
  have HD := Lib.hid hd
  have H1 := Lib.hid (fun w => dsign_any d w hd)
  have H2 := Lib.hid (fun w => total_any d w hd)
  clear hd
  go_enter Tryz.func31, Tryz.ntmps31
  go_wp2_with fail
  refine (H1.out _).mono ?_
  rintro e w1 ⟨rfl, hg⟩
  have hD : Db w1 w.heap.size d := blk_grown hg (alloc_at _ _) (by simp)
  have hG : w.grownBy w1 none := grown_trans (grown_alloc (grown_refl _ _) _) hg
  clear hg
  go_wp2_with fail
  refine (fields_any _ _).mono ?_
  rintro e w2 ⟨rfl, hg2, hf⟩
  have L0 : Rt d w w1.heap.size w2 := ⟨grown_trans hG hg2, blk_grown hg2 hD (by simp), hf⟩
  clear hG hg2 hf hD
  generalize w1.heap.size = f at *
  go_wp2_with fail
  go_loopg [12] 9 (fun n v12 wr => ∃ k : Nat, n = 9 - k ∧ v12 = .int .i64 k ∧ k ≤ 9 ∧ Rt d w f wr ∧ rightD d = (rightFrom d (signD d) (8 - (k - 1)) (k - 1) && finD d))
  case atStart => exact ⟨0, rfl, rfl, by omega, L0, rfl⟩
  case round =>
    obtain ⟨k, rfl, rfl, hk, L, hz⟩ := hrel
    have HZ := Lib.hid hz
    clear hz L0
    by_cases hlt : k < 9
    · have dlt : decide ((k : Int) < 9) = true := by simp; omega
      have ilt : (k : Int) < 9 := by omega
      by_cases h0 : k = 0
      · subst h0
        have c0 : w2.cell? ⟨f, 0, none⟩ = w2.cell? ⟨f, 0, none⟩ := rfl
        have c0 := (blk_cell L.fb 0).trans (show (fcells w.heap.size)[0]? = some (.pointer none) from rfl)
        have HL := Lib.hid L
        clear L
        go_wp2_with fail
        go_roundg (9 - 1)
        case rel => exact ⟨1, rfl, by go_num, by omega, HL.out, HZ.out⟩
        case measure => omega
      · have c0 := (blk_cell L.fb (k - 1 + 1)).trans (fcells_at w.heap.size (k - 1) (by omega))
        rw [show k - 1 + 1 = k from by omega] at c0
        have c1 := (blk_cell L.db (k - 1)).trans (dcells_at d (k - 1) (by omega))
        have k0 : ((k : Int) == 0) = false := by simp; omega
        have H3 := Lib.hid (fun w => of_any (d (k - 1)) w (HD.out _))
        have H4 := Lib.hid (fun w => sign_any (d (k - 1)) w)
        have HL := Lib.hid L
        clear L
        go_wp2_with fail
        refine (H3.out _).mono ?_
        rintro e w3 ⟨rfl, hg3⟩
        go_wp2_with fail
        refine (H4.out _).mono ?_
        rintro e w4 ⟨rfl, hg4⟩
        have HL4 := Lib.hid (HL.out.grow (grown_trans hg3 hg4))
        have c2 := (blk_cell HL4.out.db (k - 1)).trans (dcells_at d (k - 1) (by omega))
        clear hg3 hg4
        cases cz : (cmpI (d (k - 1)) 0 != 0) with
        | true =>
          cases cs : (cmpI (d (k - 1)) 0 != signD d) with
          | true =>
            have hok : okU d (signD d) (k - 1) = false := by unfold okU; rw [cz, cs]; rfl
            have HR : Hid (rightD d = false) := Lib.hid (by rw [HZ.out, show 8 - (k - 1) = (8 - k) + 1 from by omega]; simp only [rightFrom]; rw [hok, Bool.false_and, Bool.false_and])
            clear hok
            go_wp2_with fail
            go_ret
            rw [HR.out]
            exact ⟨rfl, HL4.out.gr⟩
          | false =>
            cases ck : decide ((k : Int) < 4) with
            | false =>
              have ck' : decide (k - 1 < 3) = false := by simp at ck ⊢; omega
              have hok : okU d (signD d) (k - 1) = true := by unfold okU; rw [cz, cs, ck']; rfl
              have HR : Hid (rightD d = (rightFrom d (signD d) (8 - (k + 1 - 1)) (k + 1 - 1) && finD d)) := Lib.hid (by rw [HZ.out, show 8 - (k - 1) = (8 - (k + 1 - 1)) + 1 from by omega]; simp only [rightFrom]; rw [hok, Bool.true_and, show k - 1 + 1 = k + 1 - 1 from by omega])
              clear hok
              go_wp2_with fail
              go_roundg (9 - (k + 1))
              case rel => exact ⟨k + 1, rfl, by go_num, by omega, HL4.out, HR.out⟩
              case measure => omega
            | true =>
              have ck' : decide (k - 1 < 3) = true := by simp at ck ⊢; omega
              cases ca : decide (4294967295 < d (k - 1)) with
              | true =>
                have hok : okU d (signD d) (k - 1) = false := by unfold okU; rw [cz, cs, ck', ca]; rfl
                have HR : Hid (rightD d = false) := Lib.hid (by rw [HZ.out, show 8 - (k - 1) = (8 - k) + 1 from by omega]; simp only [rightFrom]; rw [hok, Bool.false_and, Bool.false_and])
                clear hok
                go_wp2_with fail
                go_ret
                rw [HR.out]
                exact ⟨rfl, HL4.out.gr⟩
              | false =>
                cases cb : decide (d (k - 1) < -4294967295) with
                | true =>
                  have hok : okU d (signD d) (k - 1) = false := by unfold okU; rw [cz, cs, ck', ca, cb]; rfl
                  have HR : Hid (rightD d = false) := Lib.hid (by rw [HZ.out, show 8 - (k - 1) = (8 - k) + 1 from by omega]; simp only [rightFrom]; rw [hok, Bool.false_and, Bool.false_and])
                  clear hok
                  go_wp2_with fail
                  go_ret
                  rw [HR.out]
                  exact ⟨rfl, HL4.out.gr⟩
                | false =>
                  have hok : okU d (signD d) (k - 1) = true := by unfold okU; rw [cz, cs, ck', ca, cb]; rfl
                  have HR : Hid (rightD d = (rightFrom d (signD d) (8 - (k + 1 - 1)) (k + 1 - 1) && finD d)) := Lib.hid (by rw [HZ.out, show 8 - (k - 1) = (8 - (k + 1 - 1)) + 1 from by omega]; simp only [rightFrom]; rw [hok, Bool.true_and, show k - 1 + 1 = k + 1 - 1 from by omega])
                  clear hok
                  go_wp2_with fail
                  go_roundg (9 - (k + 1))
                  case rel => exact ⟨k + 1, rfl, by go_num, by omega, HL4.out, HR.out⟩
                  case measure => omega
        | false =>
          cases ck : decide ((k : Int) < 4) with
          | false =>
            have ck' : decide (k - 1 < 3) = false := by simp at ck ⊢; omega
            have hok : okU d (signD d) (k - 1) = true := by unfold okU; rw [cz, ck']; rfl
            have HR : Hid (rightD d = (rightFrom d (signD d) (8 - (k + 1 - 1)) (k + 1 - 1) && finD d)) := Lib.hid (by rw [HZ.out, show 8 - (k - 1) = (8 - (k + 1 - 1)) + 1 from by omega]; simp only [rightFrom]; rw [hok, Bool.true_and, show k - 1 + 1 = k + 1 - 1 from by omega])
            clear hok
            go_wp2_with fail
            go_roundg (9 - (k + 1))
            case rel => exact ⟨k + 1, rfl, by go_num, by omega, HL4.out, HR.out⟩
            case measure => omega
          | true =>
            have ck' : decide (k - 1 < 3) = true := by simp at ck ⊢; omega
            cases ca : decide (4294967295 < d (k - 1)) with
            | true =>
              have hok : okU d (signD d) (k - 1) = false := by unfold okU; rw [cz, ck', ca]; rfl
              have HR : Hid (rightD d = false) := Lib.hid (by rw [HZ.out, show 8 - (k - 1) = (8 - k) + 1 from by omega]; simp only [rightFrom]; rw [hok, Bool.false_and, Bool.false_and])
              clear hok
              go_wp2_with fail
              go_ret
              rw [HR.out]
              exact ⟨rfl, HL4.out.gr⟩
            | false =>
              cases cb : decide (d (k - 1) < -4294967295) with
              | true =>
                have hok : okU d (signD d) (k - 1) = false := by unfold okU; rw [cz, ck', ca, cb]; rfl
                have HR : Hid (rightD d = false) := Lib.hid (by rw [HZ.out, show 8 - (k - 1) = (8 - k) + 1 from by omega]; simp only [rightFrom]; rw [hok, Bool.false_and, Bool.false_and])
                clear hok
                go_wp2_with fail
                go_ret
                rw [HR.out]
                exact ⟨rfl, HL4.out.gr⟩
              | false =>
                have hok : okU d (signD d) (k - 1) = true := by unfold okU; rw [cz, ck', ca, cb]; rfl
                have HR : Hid (rightD d = (rightFrom d (signD d) (8 - (k + 1 - 1)) (k + 1 - 1) && finD d)) := Lib.hid (by rw [HZ.out, show 8 - (k - 1) = (8 - (k + 1 - 1)) + 1 from by omega]; simp only [rightFrom]; rw [hok, Bool.true_and, show k - 1 + 1 = k + 1 - 1 from by omega])
                clear hok
                go_wp2_with fail
                go_roundg (9 - (k + 1))
                case rel => exact ⟨k + 1, rfl, by go_num, by omega, HL4.out, HR.out⟩
                case measure => omega
    · have dlt : decide ((k : Int) < 9) = false := by simp; omega
      have HR : Hid (rightD d = finD d) := Lib.hid (by rw [HZ.out, show 8 - (k - 1) = 0 from by omega]; rfl)
      clear HZ
      have hT := total_bd HD.out
      have HL := Lib.hid L
      have q0 := blk_cell L.db 0
      have q1 := blk_cell L.db 1
      have q2 := blk_cell L.db 2
      have q3 := blk_cell L.db 3
      have q4 := blk_cell L.db 4
      have q5 := blk_cell L.db 5
      have q6 := blk_cell L.db 6
      have q7 := blk_cell L.db 7
      simp only [List.getElem?_toArray, List.getElem?_cons_zero, List.getElem?_cons_succ] at q0 q1 q2 q3 q4 q5 q6 q7
      clear L
      cases cs : decide (signD d < 0) with
      | true =>
        have HN := Lib.hid (fun w => by have := neg_any (totalD d) w hT.1 hT.2; rw [Int.zero_sub] at this; exact this)
        have HF : Hid (finD d = decide (cmpI (-totalD d) limitN < 0)) := Lib.hid (by unfold finD; rw [if_pos (of_decide_eq_true cs)])
        clear hT
        go_wp2_with fail
        refine (H2.out _).mono ?_
        rintro e w3 ⟨rfl, hg3⟩
        have HL3 := grown_trans HL.out.gr hg3
        have K3 : (w3.alloc (.cells #[.int .i64 (hiW (totalD d)), .int .u64 (loW (totalD d))] 112)).heap[w3.heap.size]? = some (.cells #[.int .i64 (hiW (totalD d)), .int .u64 (loW (totalD d))] 112 (0, 0)) := alloc_at _ _
        have G3 := grown_alloc HL3 (.cells #[.int .i64 (hiW (totalD d)), .int .u64 (loW (totalD d))] 112)
        clear q0 q1 q2 q3 q4 q5 q6 q7 hg3
        go_wp2_with fail
        refine (HN.out _).mono ?_
        rintro e w4 ⟨rfl, hg4⟩
        have K4 := blk_grown hg4 K3 (by simp)
        have G4 := grown_trans G3 hg4
        have p0 := blk_cell K4 0
        have p1 := blk_cell K4 1
        have p2 := blk_free K4 0
        have p3 := blk_free K4 1
        simp only [List.getElem?_toArray, List.getElem?_cons_zero, List.getElem?_cons_succ] at p0 p1
        clear K3 hg4
        go_wp2_with fail
        have KK : Kb w w3.heap.size #[.int .i64 (hiW (-totalD d)), .int .u64 (loW (-totalD d))] 112 ((w4.setCell ⟨w3.heap.size, 0, none⟩ (.int .i64 (hiW (-totalD d)))).setCell ⟨w3.heap.size, 1, none⟩ (.int .u64 (loW (-totalD d)))) :=
          ⟨grown_setNew (grown_setNew G4 (by have := G3.size; rw [heap_alloc_size] at this; show w.heap.size ≤ w3.heap.size; have := HL3.size; omega) _) (by show w.heap.size ≤ w3.heap.size; have := HL3.size; omega) _, by simp [World.setCell, Array.getElem?_modify, K4]⟩
        go_region_held3 (fun w' => w'.cell? ⟨w3.heap.size, 0, none⟩ = some (.int .i64 (hiW (-totalD d))) ∧ w'.cell? ⟨w3.heap.size, 1, none⟩ = some (.int .u64 (loW (-totalD d))) ∧ Kb w w3.heap.size #[.int .i64 (hiW (-totalD d)), .int .u64 (loW (-totalD d))] 112 w') (exact Kb.cells2 (by first | assumption | exact Kb.drew (by assumption)))
          (first
            | (go_at_call 66; refine (Kb.lift (limit_any _) (by first | assumption | exact Kb.drew (by assumption))).mono ?_; rintro e w' ⟨rfl, hkb⟩)
            | (go_at_call 65; refine (Kb.lift (cmp_any (-totalD d) limitN _) (by first | assumption | exact Kb.drew (by assumption))).mono ?_; rintro e w' ⟨rfl, hkb⟩))
        go_wp2_with fail
        go_ret
        rw [HR.out, HF.out]
        exact ⟨rfl, hkb.1⟩
      | false =>
        have HF : Hid (finD d = decide (cmpI (totalD d) limitN < 0)) := Lib.hid (by unfold finD; rw [if_neg (of_decide_eq_false cs)])
        clear hT
        go_wp2_with fail
        refine (H2.out _).mono ?_
        rintro e w3 ⟨rfl, hg3⟩
        have HL3 := grown_trans HL.out.gr hg3
        have K3 : (w3.alloc (.cells #[.int .i64 (hiW (totalD d)), .int .u64 (loW (totalD d))] 112)).heap[w3.heap.size]? = some (.cells #[.int .i64 (hiW (totalD d)), .int .u64 (loW (totalD d))] 112 (0, 0)) := alloc_at _ _
        have G3 := grown_alloc HL3 (.cells #[.int .i64 (hiW (totalD d)), .int .u64 (loW (totalD d))] 112)
        clear q0 q1 q2 q3 q4 q5 q6 q7 hg3
        go_wp2_with fail
        have KK : Kb w w3.heap.size #[.int .i64 (hiW (totalD d)), .int .u64 (loW (totalD d))] 112 (w3.alloc (.cells #[.int .i64 (hiW (totalD d)), .int .u64 (loW (totalD d))] 112)) := ⟨G3, K3⟩
        go_region_held3 (fun w' => w'.cell? ⟨w3.heap.size, 0, none⟩ = some (.int .i64 (hiW (totalD d))) ∧ w'.cell? ⟨w3.heap.size, 1, none⟩ = some (.int .u64 (loW (totalD d))) ∧ Kb w w3.heap.size #[.int .i64 (hiW (totalD d)), .int .u64 (loW (totalD d))] 112 w') (exact Kb.cells2 (by first | assumption | exact Kb.drew (by assumption)))
          (first
            | (go_at_call 66; refine (Kb.lift (limit_any _) (by first | assumption | exact Kb.drew (by assumption))).mono ?_; rintro e w' ⟨rfl, hkb⟩)
            | (go_at_call 65; refine (Kb.lift (cmp_any (totalD d) limitN _) (by first | assumption | exact Kb.drew (by assumption))).mono ?_; rintro e w' ⟨rfl, hkb⟩))
        go_wp2_with fail
        go_ret
        rw [HR.out, HF.out]
        exact ⟨rfl, hkb.1⟩

end Go.Proofs.YtkhpdiilghncgaaGreatDoor
