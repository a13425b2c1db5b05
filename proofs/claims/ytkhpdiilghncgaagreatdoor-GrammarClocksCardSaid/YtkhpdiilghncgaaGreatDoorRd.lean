/- The reference's Time, Clock. -/
import Derived.Test.YtkhpdiilghncgaaGreatDoorRc
namespace Go.Proofs.YtkhpdiilghncgaaGreatDoor
open Go.RowKit
set_option linter.unusedVariables false

def TPost (r : Option ((Nat × Nat × Nat × Nat) × Nat)) (e : Ending) : Prop := match r with
  | some ((h, m, x, f), k) => e = .returned (.tuple #[.agg #[.int .i64 (h : Int), .int .i64 (m : Int), .int .i64 (x : Int), .int .i64 (f : Int)], .int .i64 (k : Int)])
  | none => ∃ a b c d : Int, e = .returned (.tuple #[.agg #[.int .i64 a, .int .i64 b, .int .i64 c, .int .i64 d], .int .i64 (-1)])
theorem cpost_no {e : Ending} (h : CPost none e) : ∃ a b c : Int, e = .returned (.tuple #[.agg #[.int .i64 a, .int .i64 b, .int .i64 c], .int .i64 0, .int .i64 (-1)]) := h
theorem cpost_yes {e : Ending} {h m x n k : Nat} (hp : CPost (some (h, m, x, n, k)) e) : e = .returned (.tuple #[.agg #[.int .i64 (h : Int), .int .i64 (m : Int), .int .i64 (x : Int)], .int .i64 (n : Int), .int .i64 (k : Int)]) := hp
theorem clock_n {s : ByteArray} {i most h m x n k : Nat} (hc : clock s i most = some (h, m, x, n, k)) : 1 ≤ n ∧ n ≤ 3 := by
  unfold clock at hc
  split at hc
  · cases hc
  · split at hc
    · split at hc
      · cases hc
      · split at hc
        · split at hc
          · cases hc
          · simp at hc; omega
        · simp at hc; omega
    · simp at hc; omega
theorem heap_drewN (w : World) (n k : Nat) : (w.drewN n).heap[k]? = w.heap[k]? := rfl
theorem out4 {W : World} {B : Nat} {T : TypeId} {x0 x1 x2 x3 : Value} (h : W.heap[B]? = some (.cells #[x0, x1, x2, x3] T (0, 0))) (a b c d : Value) :
    ((((W.setCell ⟨B, 0, none⟩ a).setCell ⟨B, 1, none⟩ b).setCell ⟨B, 2, none⟩ c).setCell ⟨B, 3, none⟩ d).heap[B]? = some (.cells #[a, b, c, d] T (0, 0)) := by
  simp [World.setCell, Array.getElem?_modify, h]
def Four (W : World) (B : Nat) : Prop := ∃ (T : TypeId) (x0 x1 x2 x3 : Value), W.heap[B]? = some (.cells #[x0, x1, x2, x3] T (0, 0))
theorem Four.alloc {W : World} {B : Nat} (h : Four W B) (o : Obj) : Four (W.alloc o) B := by
  obtain ⟨T, x0, x1, x2, x3, h⟩ := h
  exact ⟨T, x0, x1, x2, x3, (Below.heap_alloc _ _ _ (Array.getElem?_eq_some_iff.1 h).1).trans h⟩
theorem Four.drewN {W : World} {B : Nat} (h : Four W B) (n : Nat) : Four (W.drewN n) B := h
theorem time_ret {W : World} {act : Act} {B : Nat} {a b c d k : Value} {Q : Ending → World → Prop} (hF : Four W B) (h4 : act.tmps[4]?.getD undef = .pointer (some ⟨B, 0, none⟩)) (h5 : act.tmps[5]?.getD undef = k) (hd : act.defers = [])
    (hq : Q (.returned (.tuple #[.agg #[a, b, c, d], k])) ((((W.setCell ⟨B, 0, none⟩ a).setCell ⟨B, 1, none⟩ b).setCell ⟨B, 2, none⟩ c).setCell ⟨B, 3, none⟩ d)) :
    bodyPost Tryz.prog Tryz.f21 Q Exit.ret act ((((W.setCell ⟨B, 0, none⟩ a).setCell ⟨B, 1, none⟩ b).setCell ⟨B, 2, none⟩ c).setCell ⟨B, 3, none⟩ d) := by
  obtain ⟨T, x0, x1, x2, x3, h⟩ := hF
  have hW := out4 h a b c d
  generalize (((W.setCell ⟨B, 0, none⟩ a).setCell ⟨B, 1, none⟩ b).setCell ⟨B, 2, none⟩ c).setCell ⟨B, 3, none⟩ d = W' at *
  have q0 := blk_cell hW 0
  have q1 := blk_cell hW 1
  have q2 := blk_cell hW 2
  have q3 := blk_cell hW 3
  simp only [List.getElem?_toArray, List.getElem?_cons_zero, List.getElem?_cons_succ] at q0 q1 q2 q3
  exact bodyPost_ret (v := .tuple #[.agg #[a, b, c, d], k]) (by simp [results, Tryz.results21, go_sem, h4, h5, q0, q1, q2, q3]) hd hq
/-- The two blocks of Time: the answer's, the time's. -/
structure TK (w : World) (bt : Nat) (a b c d : Int) (wr : World) : Prop where
  gr : w.grownBy wr none
  b0 : wr.heap[w.heap.size]? = some (.cells #[.int .i64 0, .int .i64 0, .int .i64 0, .int .i64 0] 23 (0, 0))
  b1 : wr.heap[bt]? = some (.cells #[.int .i64 a, .int .i64 b, .int .i64 c, .int .i64 d] 23 (0, 0))
  lt : w.heap.size < bt
theorem TK.dr {w wr wr' : World} {bt : Nat} {a b c d : Int} (h : TK w bt a b c d wr) (k : Dr wr wr') : TK w bt a b c d wr' := by
  obtain ⟨n, rfl⟩ := k
  exact ⟨grown_drewN h.gr n, h.b0, h.b1, h.lt⟩
theorem TK.four {w wr : World} {bt : Nat} {a b c d : Int} (h : TK w bt a b c d wr) : Four wr w.heap.size := ⟨_, _, _, _, _, h.b0⟩
theorem TK.set3 {w wr : World} {bt : Nat} {a b c d : Int} (h : TK w bt a b c d wr) (v : Int) : TK w bt a b c v (wr.setCell ⟨bt, 3, none⟩ (.int .i64 v)) :=
  have l := h.lt
  ⟨grown_setNew h.gr (by simp only; omega) _, (Below.heap_setCell _ _ _ _ (by simp only; omega)).trans h.b0, by simp [World.setCell, Array.getElem?_modify, h.b1], l⟩
theorem TK.out {w wr : World} {bt : Nat} {a b c d : Int} (h : TK w bt a b c d wr) (x y z u : Value) : w.grownBy ((((wr.setCell ⟨w.heap.size, 0, none⟩ x).setCell ⟨w.heap.size, 1, none⟩ y).setCell ⟨w.heap.size, 2, none⟩ z).setCell ⟨w.heap.size, 3, none⟩ u) none :=
  grown_setNew (grown_setNew (grown_setNew (grown_setNew h.gr (Nat.le_refl _) _) (Nat.le_refl _) _) (Nat.le_refl _) _) (Nat.le_refl _) _
theorem TK.start {w w1 : World} {x : Obj} (hg : (w.alloc (.cells #[.int .i64 0, .int .i64 0, .int .i64 0, .int .i64 0] 23)).grownBy w1 none) (a b c : Int) :
    TK w (w1.heap.size + 1) a b c 0 ((w1.alloc x).alloc (.cells #[.int .i64 a, .int .i64 b, .int .i64 c, .int .i64 0] 23)) := by
  have hK := blk_grown hg (blk_new w _) (by simp)
  have hl := (Array.getElem?_eq_some_iff.1 hK).1
  refine ⟨grown_alloc (grown_alloc (grown_trans (grown_alloc (grown_refl w none) _) hg) _) _, ?_, ?_, by omega⟩
  · exact (Below.heap_alloc _ _ _ (by simp; omega)).trans ((Below.heap_alloc _ _ _ hl).trans hK)
  · have := blk_new (w1.alloc x) (.cells #[.int .i64 a, .int .i64 b, .int .i64 c, .int .i64 0] 23)
    simpa using this
set_option maxHeartbeats 6000000 in
theorem rtime_any (s : ByteArray) (i : Nat) (w : World) (hs : s.size ≤ 140737488351232) (hi : i ≤ s.size) {iv : Int} (hv : iv = i) :
    Calls Tryz.prog 21 #[.string s, .int .i64 iv] w fun e w' => TPost (time s i) e ∧ w.grownBy w' none := by
  subst hv
  have HK := Lib.hid (fun w => rclock_any (s := s) (i := i) (most := 60) (w := w) hs (by omega) (by omega))
  cases hc : clock s i 60 with
  | none =>
    have HZ := Lib.hid (show time s i = none by unfold time; rw [hc])
    rw [hc] at HK
    go_enter Tryz.func21, Tryz.ntmps21
    go_wp2_with fail
    refine (HK.out _).mono ?_
    rintro e w1 ⟨he, hg⟩
    obtain ⟨a, b, c, rfl⟩ := cpost_no he
    clear he
    have hK := blk_grown hg (blk_new w _) (by simp)
    have K0 : Hid (Four w1 w.heap.size) := Lib.hid ⟨_, _, _, _, _, hK⟩
    have hsz : w.heap.size < w1.heap.size := (Array.getElem?_eq_some_iff.1 hK).1
    have G := grown_trans (grown_alloc (grown_refl w none) (.cells #[.int .i64 0, .int .i64 0, .int .i64 0, .int .i64 0] 23)) hg
    obtain ⟨-, -, f3, f4⟩ := blk_facts hK
    clear hg hK hsz
    go_wp2_with fail
    refine time_ret (?_ : Four _ w.heap.size) rfl rfl rfl ⟨by rw [HZ.out]; exact ⟨_, _, _, _, rfl⟩, ?_⟩
    · repeat (first | (with_reducible exact K0.out) | (with_reducible refine Four.alloc ?_ _))
    · repeat (first | (with_reducible exact G) | ((with_reducible refine grown_setNew ?_ ?_ _); rotate_left; (simp only; omega)) | (with_reducible refine grown_alloc ?_ _))
  | some v =>
    obtain ⟨h, m, x, n, k⟩ := v
    rw [hc] at HK
    have hk0 : decide ((k : Int) < 0) = false := by simp
    have hks := clock_in hc hi
    have hx60 := (clock_bd hc).2.2
    have HP := Lib.hid (fun w => rpart_any s k w hs (by omega) (iv := (k : Int)) rfl)
    cases hx : ((x : Int) == 60) with
    | true =>
      have HM := Lib.hid (show min x 59 = 59 by simp at hx; omega)
      cases hn : ((n : Int) == 3) with
      | false =>
        have HZ := Lib.hid (show time s i = some ((h, m, min x 59, 0), k) by unfold time; rw [hc]; simp only; simp at hn; rw [if_neg (by omega)])
        clear hc HP
        go_enter Tryz.func21, Tryz.ntmps21
        go_wp2_with fail
        refine (HK.out _).mono ?_
        rintro e w1 ⟨he, hg⟩
        obtain rfl := cpost_yes he
        clear he
        have hK := blk_grown hg (blk_new w _) (by simp)
        have K0 : Hid (Four w1 w.heap.size) := Lib.hid ⟨_, _, _, _, _, hK⟩
        have hsz : w.heap.size < w1.heap.size := (Array.getElem?_eq_some_iff.1 hK).1
        have G := grown_trans (grown_alloc (grown_refl w none) (.cells #[.int .i64 0, .int .i64 0, .int .i64 0, .int .i64 0] 23)) hg
        have g3 : ∀ o p j, ((w1.alloc o).alloc p).cell? ⟨w.heap.size, j, none⟩ = (#[.int .i64 0, .int .i64 0, .int .i64 0, .int .i64 0] : Array Value)[j]? := fun o p => (blk_facts ((Below.heap_alloc w1 o _ hsz).trans hK)).2.2.1 p
        have g4 : ∀ o p j, ((w1.alloc o).alloc p).frozen? ⟨w.heap.size, j, none⟩ = false := fun o p => (blk_facts ((Below.heap_alloc w1 o _ hsz).trans hK)).2.2.2 p
        clear hg hK hsz
        go_wp2_with fail
        refine time_ret (?_ : Four _ w.heap.size) rfl rfl rfl ⟨by rw [HZ.out]; unfold TPost; rw [HM.out]; rfl, ?_⟩
        · repeat (first | (with_reducible exact K0.out) | (with_reducible refine Four.alloc ?_ _))
        · repeat (first | (with_reducible exact G) | ((with_reducible refine grown_setNew ?_ ?_ _); rotate_left; (simp only; omega)) | (with_reducible refine grown_alloc ?_ _))
      | true =>
        cases hp : part s k with
        | none =>
          have HZ := Lib.hid (show time s i = none by unfold time; rw [hc]; simp only; simp at hn; rw [if_pos (by omega), hp])
          rw [hp] at HP
          unfold partR at HP
          clear hc hp
          go_enter Tryz.func21, Tryz.ntmps21
          go_wp2_with fail
          refine (HK.out _).mono ?_
          rintro e w1 ⟨he, hg⟩
          obtain rfl := cpost_yes he
          clear he
          go_wp2_with fail
          have T := TK.start (x := .cells #[.int .i64 (h : Int), .int .i64 (m : Int), .int .i64 (x : Int)] 92) hg (h : Int) (m : Int) 59
          generalize (w1.alloc (.cells #[.int .i64 (h : Int), .int .i64 (m : Int), .int .i64 (x : Int)] 92)).alloc (.cells #[.int .i64 (h : Int), .int .i64 (m : Int), .int .i64 59, .int .i64 0] 23) = W2 at *
          generalize w1.heap.size + 1 = bt at *
          refine (HP.out _).mono ?_
          rintro e w2 ⟨rfl, hd⟩
          have T := T.dr hd
          clear hd hg
          have q0 := blk_cell T.b1 0
          have q1 := blk_cell T.b1 1
          have q2 := blk_cell T.b1 2
          have q3 := blk_cell T.b1 3
          have z0 := blk_cell T.b0 0
          have z1 := blk_cell T.b0 1
          have z2 := blk_cell T.b0 2
          have z3 := blk_cell T.b0 3
          have qf : ∀ o, w2.frozen? ⟨bt, o, none⟩ = false := fun o => blk_free T.b1 o
          have zf : ∀ o, w2.frozen? ⟨w.heap.size, o, none⟩ = false := fun o => blk_free T.b0 o
          have ne1 := Nat.ne_of_lt T.lt
          have ne2 := Nat.ne_of_gt T.lt
          simp only [List.getElem?_toArray, List.getElem?_cons_zero, List.getElem?_cons_succ] at q0 q1 q2 q3 z0 z1 z2 z3
          go_wp2_with fail
          exact time_ret T.four rfl rfl rfl ⟨by rw [HZ.out]; exact ⟨_, _, _, _, rfl⟩, T.out _ _ _ _⟩
        | some r =>
          obtain ⟨v, j⟩ := r
          rw [hp] at HP
          cases v with
          | none =>
            have HZ := Lib.hid (show time s i = some ((h, m, min x 59, 0), j) by unfold time; rw [hc]; simp only; simp at hn; rw [if_pos (by omega), hp]; rfl)
            unfold partR partN at HP
            clear hc hp
            go_enter Tryz.func21, Tryz.ntmps21
            go_wp2_with fail
            refine (HK.out _).mono ?_
            rintro e w1 ⟨he, hg⟩
            obtain rfl := cpost_yes he
            clear he
            go_wp2_with fail
            have T := TK.start (x := .cells #[.int .i64 (h : Int), .int .i64 (m : Int), .int .i64 (x : Int)] 92) hg (h : Int) (m : Int) 59
            generalize (w1.alloc (.cells #[.int .i64 (h : Int), .int .i64 (m : Int), .int .i64 (x : Int)] 92)).alloc (.cells #[.int .i64 (h : Int), .int .i64 (m : Int), .int .i64 59, .int .i64 0] 23) = W2 at *
            generalize w1.heap.size + 1 = bt at *
            refine (HP.out _).mono ?_
            rintro e w2 ⟨rfl, hd⟩
            have T := T.dr hd
            clear hd hg
            have q0 := blk_cell T.b1 0
            have q1 := blk_cell T.b1 1
            have q2 := blk_cell T.b1 2
            have q3 := blk_cell T.b1 3
            have z0 := blk_cell T.b0 0
            have z1 := blk_cell T.b0 1
            have z2 := blk_cell T.b0 2
            have z3 := blk_cell T.b0 3
            have qf : ∀ o, w2.frozen? ⟨bt, o, none⟩ = false := fun o => blk_free T.b1 o
            have zf : ∀ o, w2.frozen? ⟨w.heap.size, o, none⟩ = false := fun o => blk_free T.b0 o
            have ne1 := Nat.ne_of_lt T.lt
            have ne2 := Nat.ne_of_gt T.lt
            simp only [List.getElem?_toArray, List.getElem?_cons_zero, List.getElem?_cons_succ] at q0 q1 q2 q3 z0 z1 z2 z3
            go_wp2_with fail
            exact time_ret T.four rfl rfl rfl ⟨by rw [HZ.out]; unfold TPost; rw [HM.out]; rfl, T.out _ _ _ _⟩
          | some v =>
            have HZ := Lib.hid (show time s i = some ((h, m, min x 59, v), j) by unfold time; rw [hc]; simp only; simp at hn; rw [if_pos (by omega), hp]; rfl)
            unfold partR partN at HP
            clear hc hp
            cases hv : decide (0 < v) with
            | true =>
              go_enter Tryz.func21, Tryz.ntmps21
              go_wp2_with fail
              refine (HK.out _).mono ?_
              rintro e w1 ⟨he, hg⟩
              obtain rfl := cpost_yes he
              clear he
              go_wp2_with fail
              have T := TK.start (x := .cells #[.int .i64 (h : Int), .int .i64 (m : Int), .int .i64 (x : Int)] 92) hg (h : Int) (m : Int) 59
              generalize (w1.alloc (.cells #[.int .i64 (h : Int), .int .i64 (m : Int), .int .i64 (x : Int)] 92)).alloc (.cells #[.int .i64 (h : Int), .int .i64 (m : Int), .int .i64 59, .int .i64 0] 23) = W2 at *
              generalize w1.heap.size + 1 = bt at *
              refine (HP.out _).mono ?_
              rintro e w2 ⟨rfl, hd⟩
              have T := T.dr hd
              clear hd hg
              have q0 := blk_cell T.b1 0
              have q1 := blk_cell T.b1 1
              have q2 := blk_cell T.b1 2
              have q3 := blk_cell T.b1 3
              have z0 := blk_cell T.b0 0
              have z1 := blk_cell T.b0 1
              have z2 := blk_cell T.b0 2
              have z3 := blk_cell T.b0 3
              have qf : ∀ o, w2.frozen? ⟨bt, o, none⟩ = false := fun o => blk_free T.b1 o
              have zf : ∀ o, w2.frozen? ⟨w.heap.size, o, none⟩ = false := fun o => blk_free T.b0 o
              have ne1 := Nat.ne_of_lt T.lt
              have ne2 := Nat.ne_of_gt T.lt
              simp only [List.getElem?_toArray, List.getElem?_cons_zero, List.getElem?_cons_succ] at q0 q1 q2 q3 z0 z1 z2 z3
              go_wp2_with fail
              exact time_ret (T.set3 v).four rfl rfl rfl ⟨by rw [HZ.out]; unfold TPost; rw [HM.out]; rfl, (T.set3 v).out _ _ _ _⟩
            | false =>
              have hv0 : v = 0 := by simp at hv; omega
              have HZ := Lib.hid (HZ.out.trans (by rw [hv0]))
              clear hv0
              go_enter Tryz.func21, Tryz.ntmps21
              go_wp2_with fail
              refine (HK.out _).mono ?_
              rintro e w1 ⟨he, hg⟩
              obtain rfl := cpost_yes he
              clear he
              go_wp2_with fail
              have T := TK.start (x := .cells #[.int .i64 (h : Int), .int .i64 (m : Int), .int .i64 (x : Int)] 92) hg (h : Int) (m : Int) 59
              generalize (w1.alloc (.cells #[.int .i64 (h : Int), .int .i64 (m : Int), .int .i64 (x : Int)] 92)).alloc (.cells #[.int .i64 (h : Int), .int .i64 (m : Int), .int .i64 59, .int .i64 0] 23) = W2 at *
              generalize w1.heap.size + 1 = bt at *
              refine (HP.out _).mono ?_
              rintro e w2 ⟨rfl, hd⟩
              have T := T.dr hd
              clear hd hg
              have q0 := blk_cell T.b1 0
              have q1 := blk_cell T.b1 1
              have q2 := blk_cell T.b1 2
              have q3 := blk_cell T.b1 3
              have z0 := blk_cell T.b0 0
              have z1 := blk_cell T.b0 1
              have z2 := blk_cell T.b0 2
              have z3 := blk_cell T.b0 3
              have qf : ∀ o, w2.frozen? ⟨bt, o, none⟩ = false := fun o => blk_free T.b1 o
              have zf : ∀ o, w2.frozen? ⟨w.heap.size, o, none⟩ = false := fun o => blk_free T.b0 o
              have ne1 := Nat.ne_of_lt T.lt
              have ne2 := Nat.ne_of_gt T.lt
              simp only [List.getElem?_toArray, List.getElem?_cons_zero, List.getElem?_cons_succ] at q0 q1 q2 q3 z0 z1 z2 z3
              go_wp2_with fail
              exact time_ret T.four rfl rfl rfl ⟨by rw [HZ.out]; unfold TPost; rw [HM.out]; rfl, T.out _ _ _ _⟩
    | false =>
      have HM := Lib.hid (show min x 59 = x by simp at hx; omega)
      cases hn : ((n : Int) == 3) with
      | false =>
        have HZ := Lib.hid (show time s i = some ((h, m, min x 59, 0), k) by unfold time; rw [hc]; simp only; simp at hn; rw [if_neg (by omega)])
        clear hc HP
        go_enter Tryz.func21, Tryz.ntmps21
        go_wp2_with fail
        refine (HK.out _).mono ?_
        rintro e w1 ⟨he, hg⟩
        obtain rfl := cpost_yes he
        clear he
        have hK := blk_grown hg (blk_new w _) (by simp)
        have K0 : Hid (Four w1 w.heap.size) := Lib.hid ⟨_, _, _, _, _, hK⟩
        have hsz : w.heap.size < w1.heap.size := (Array.getElem?_eq_some_iff.1 hK).1
        have G := grown_trans (grown_alloc (grown_refl w none) (.cells #[.int .i64 0, .int .i64 0, .int .i64 0, .int .i64 0] 23)) hg
        have g3 : ∀ o p j, ((w1.alloc o).alloc p).cell? ⟨w.heap.size, j, none⟩ = (#[.int .i64 0, .int .i64 0, .int .i64 0, .int .i64 0] : Array Value)[j]? := fun o p => (blk_facts ((Below.heap_alloc w1 o _ hsz).trans hK)).2.2.1 p
        have g4 : ∀ o p j, ((w1.alloc o).alloc p).frozen? ⟨w.heap.size, j, none⟩ = false := fun o p => (blk_facts ((Below.heap_alloc w1 o _ hsz).trans hK)).2.2.2 p
        clear hg hK hsz
        go_wp2_with fail
        refine time_ret (?_ : Four _ w.heap.size) rfl rfl rfl ⟨by rw [HZ.out]; unfold TPost; rw [HM.out]; rfl, ?_⟩
        · repeat (first | (with_reducible exact K0.out) | (with_reducible refine Four.alloc ?_ _))
        · repeat (first | (with_reducible exact G) | ((with_reducible refine grown_setNew ?_ ?_ _); rotate_left; (simp only; omega)) | (with_reducible refine grown_alloc ?_ _))
      | true =>
        cases hp : part s k with
        | none =>
          have HZ := Lib.hid (show time s i = none by unfold time; rw [hc]; simp only; simp at hn; rw [if_pos (by omega), hp])
          rw [hp] at HP
          unfold partR at HP
          clear hc hp
          go_enter Tryz.func21, Tryz.ntmps21
          go_wp2_with fail
          refine (HK.out _).mono ?_
          rintro e w1 ⟨he, hg⟩
          obtain rfl := cpost_yes he
          clear he
          go_wp2_with fail
          have T := TK.start (x := .cells #[.int .i64 (h : Int), .int .i64 (m : Int), .int .i64 (x : Int)] 92) hg (h : Int) (m : Int) (x : Int)
          generalize (w1.alloc (.cells #[.int .i64 (h : Int), .int .i64 (m : Int), .int .i64 (x : Int)] 92)).alloc (.cells #[.int .i64 (h : Int), .int .i64 (m : Int), .int .i64 (x : Int), .int .i64 0] 23) = W2 at *
          generalize w1.heap.size + 1 = bt at *
          refine (HP.out _).mono ?_
          rintro e w2 ⟨rfl, hd⟩
          have T := T.dr hd
          clear hd hg
          have q0 := blk_cell T.b1 0
          have q1 := blk_cell T.b1 1
          have q2 := blk_cell T.b1 2
          have q3 := blk_cell T.b1 3
          have z0 := blk_cell T.b0 0
          have z1 := blk_cell T.b0 1
          have z2 := blk_cell T.b0 2
          have z3 := blk_cell T.b0 3
          have qf : ∀ o, w2.frozen? ⟨bt, o, none⟩ = false := fun o => blk_free T.b1 o
          have zf : ∀ o, w2.frozen? ⟨w.heap.size, o, none⟩ = false := fun o => blk_free T.b0 o
          have ne1 := Nat.ne_of_lt T.lt
          have ne2 := Nat.ne_of_gt T.lt
          simp only [List.getElem?_toArray, List.getElem?_cons_zero, List.getElem?_cons_succ] at q0 q1 q2 q3 z0 z1 z2 z3
          go_wp2_with fail
          exact time_ret T.four rfl rfl rfl ⟨by rw [HZ.out]; exact ⟨_, _, _, _, rfl⟩, T.out _ _ _ _⟩
        | some r =>
          obtain ⟨v, j⟩ := r
          rw [hp] at HP
          cases v with
          | none =>
            have HZ := Lib.hid (show time s i = some ((h, m, min x 59, 0), j) by unfold time; rw [hc]; simp only; simp at hn; rw [if_pos (by omega), hp]; rfl)
            unfold partR partN at HP
            clear hc hp
            go_enter Tryz.func21, Tryz.ntmps21
            go_wp2_with fail
            refine (HK.out _).mono ?_
            rintro e w1 ⟨he, hg⟩
            obtain rfl := cpost_yes he
            clear he
            go_wp2_with fail
            have T := TK.start (x := .cells #[.int .i64 (h : Int), .int .i64 (m : Int), .int .i64 (x : Int)] 92) hg (h : Int) (m : Int) (x : Int)
            generalize (w1.alloc (.cells #[.int .i64 (h : Int), .int .i64 (m : Int), .int .i64 (x : Int)] 92)).alloc (.cells #[.int .i64 (h : Int), .int .i64 (m : Int), .int .i64 (x : Int), .int .i64 0] 23) = W2 at *
            generalize w1.heap.size + 1 = bt at *
            refine (HP.out _).mono ?_
            rintro e w2 ⟨rfl, hd⟩
            have T := T.dr hd
            clear hd hg
            have q0 := blk_cell T.b1 0
            have q1 := blk_cell T.b1 1
            have q2 := blk_cell T.b1 2
            have q3 := blk_cell T.b1 3
            have z0 := blk_cell T.b0 0
            have z1 := blk_cell T.b0 1
            have z2 := blk_cell T.b0 2
            have z3 := blk_cell T.b0 3
            have qf : ∀ o, w2.frozen? ⟨bt, o, none⟩ = false := fun o => blk_free T.b1 o
            have zf : ∀ o, w2.frozen? ⟨w.heap.size, o, none⟩ = false := fun o => blk_free T.b0 o
            have ne1 := Nat.ne_of_lt T.lt
            have ne2 := Nat.ne_of_gt T.lt
            simp only [List.getElem?_toArray, List.getElem?_cons_zero, List.getElem?_cons_succ] at q0 q1 q2 q3 z0 z1 z2 z3
            go_wp2_with fail
            exact time_ret T.four rfl rfl rfl ⟨by rw [HZ.out]; unfold TPost; rw [HM.out]; rfl, T.out _ _ _ _⟩
          | some v =>
            have HZ := Lib.hid (show time s i = some ((h, m, min x 59, v), j) by unfold time; rw [hc]; simp only; simp at hn; rw [if_pos (by omega), hp]; rfl)
            unfold partR partN at HP
            clear hc hp
            cases hv : decide (0 < v) with
            | true =>
              go_enter Tryz.func21, Tryz.ntmps21
              go_wp2_with fail
              refine (HK.out _).mono ?_
              rintro e w1 ⟨he, hg⟩
              obtain rfl := cpost_yes he
              clear he
              go_wp2_with fail
              have T := TK.start (x := .cells #[.int .i64 (h : Int), .int .i64 (m : Int), .int .i64 (x : Int)] 92) hg (h : Int) (m : Int) (x : Int)
              generalize (w1.alloc (.cells #[.int .i64 (h : Int), .int .i64 (m : Int), .int .i64 (x : Int)] 92)).alloc (.cells #[.int .i64 (h : Int), .int .i64 (m : Int), .int .i64 (x : Int), .int .i64 0] 23) = W2 at *
              generalize w1.heap.size + 1 = bt at *
              refine (HP.out _).mono ?_
              rintro e w2 ⟨rfl, hd⟩
              have T := T.dr hd
              clear hd hg
              have q0 := blk_cell T.b1 0
              have q1 := blk_cell T.b1 1
              have q2 := blk_cell T.b1 2
              have q3 := blk_cell T.b1 3
              have z0 := blk_cell T.b0 0
              have z1 := blk_cell T.b0 1
              have z2 := blk_cell T.b0 2
              have z3 := blk_cell T.b0 3
              have qf : ∀ o, w2.frozen? ⟨bt, o, none⟩ = false := fun o => blk_free T.b1 o
              have zf : ∀ o, w2.frozen? ⟨w.heap.size, o, none⟩ = false := fun o => blk_free T.b0 o
              have ne1 := Nat.ne_of_lt T.lt
              have ne2 := Nat.ne_of_gt T.lt
              simp only [List.getElem?_toArray, List.getElem?_cons_zero, List.getElem?_cons_succ] at q0 q1 q2 q3 z0 z1 z2 z3
              go_wp2_with fail
              exact time_ret (T.set3 v).four rfl rfl rfl ⟨by rw [HZ.out]; unfold TPost; rw [HM.out]; rfl, (T.set3 v).out _ _ _ _⟩
            | false =>
              have hv0 : v = 0 := by simp at hv; omega
              have HZ := Lib.hid (HZ.out.trans (by rw [hv0]))
              clear hv0
              go_enter Tryz.func21, Tryz.ntmps21
              go_wp2_with fail
              refine (HK.out _).mono ?_
              rintro e w1 ⟨he, hg⟩
              obtain rfl := cpost_yes he
              clear he
              go_wp2_with fail
              have T := TK.start (x := .cells #[.int .i64 (h : Int), .int .i64 (m : Int), .int .i64 (x : Int)] 92) hg (h : Int) (m : Int) (x : Int)
              generalize (w1.alloc (.cells #[.int .i64 (h : Int), .int .i64 (m : Int), .int .i64 (x : Int)] 92)).alloc (.cells #[.int .i64 (h : Int), .int .i64 (m : Int), .int .i64 (x : Int), .int .i64 0] 23) = W2 at *
              generalize w1.heap.size + 1 = bt at *
              refine (HP.out _).mono ?_
              rintro e w2 ⟨rfl, hd⟩
              have T := T.dr hd
              clear hd hg
              have q0 := blk_cell T.b1 0
              have q1 := blk_cell T.b1 1
              have q2 := blk_cell T.b1 2
              have q3 := blk_cell T.b1 3
              have z0 := blk_cell T.b0 0
              have z1 := blk_cell T.b0 1
              have z2 := blk_cell T.b0 2
              have z3 := blk_cell T.b0 3
              have qf : ∀ o, w2.frozen? ⟨bt, o, none⟩ = false := fun o => blk_free T.b1 o
              have zf : ∀ o, w2.frozen? ⟨w.heap.size, o, none⟩ = false := fun o => blk_free T.b0 o
              have ne1 := Nat.ne_of_lt T.lt
              have ne2 := Nat.ne_of_gt T.lt
              simp only [List.getElem?_toArray, List.getElem?_cons_zero, List.getElem?_cons_succ] at q0 q1 q2 q3 z0 z1 z2 z3
              go_wp2_with fail
              exact time_ret T.four rfl rfl rfl ⟨by rw [HZ.out]; unfold TPost; rw [HM.out]; rfl, T.out _ _ _ _⟩

end Go.Proofs.YtkhpdiilghncgaaGreatDoor
