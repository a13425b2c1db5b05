/- grammar.Span: the walk. -/
import Derived.Test.YtkhpdiilghncgaaGreatDoorSc
import Derived.Test.YtkhpdiilghncgaaGreatDoorSp
import Derived.Test.YtkhpdiilghncgaaGreatDoorGm
import Derived.Laws.EntriesVeiled
namespace Go.Proofs.YtkhpdiilghncgaaGreatDoor
open Go.RowKit Go.Shelf
set_option linter.unusedVariables false

/-- Span's blocks, ahead of its units. -/
structure S4 (s : ByteArray) (w : World) (i : Nat) (w' : World) : Prop where
  gr : w.grownBy w' none
  db : Db w' w.heap.size (fun _ => 0)
  er : w'.heap[w.heap.size + 1]? = some (.cells #[.int .i64 0] 24 (0, 0))
  r : Rd w' (w.heap.size + 1 + 1) s i
  br : w'.heap[w.heap.size + 1 + 1 + 1]? = some (.cells #[.pointer (some ⟨w.heap.size + 1 + 1, 0, none⟩)] 49 (0, 0))
/-- What is left when it panics. -/
structure SF (w w' : World) (d : Nat → Int) : Prop where
  gr : w.grownBy w' none
  db : Db w' w.heap.size d
  er : w'.heap[w.heap.size + 1]? = some (.cells #[.int .i64 0] 24 (0, 0))
variable {s : ByteArray} {w w' w'' : World} {bt bm : Nat} {i : Nat} {d : Nat → Int} {room : Bool}
theorem S4.sf (h : S4 s w i w') : SF w w' (fun _ => 0) := ⟨h.gr, h.db, h.er⟩
theorem S4.reader {j : Nat} (h : S4 s w i w') (k : St (w.heap.size + 1 + 1) s w' j w'') : S4 s w j w'' :=
  ⟨grown_new h.gr k.g (by omega), blk_grown k.g h.db (some_ne (by omega)), blk_grown k.g h.er (some_ne (by omega)), k.r, blk_grown k.g h.br (some_ne (by omega))⟩
theorem SS.sf (h : SS s w bt bm i d room w') : SF w w' d := ⟨h.gr, h.db, h.er⟩
theorem SF.reader (h : SF w w' d) (k : w'.grownBy w'' (some (w.heap.size + 1 + 1))) : SF w w'' d :=
  ⟨grown_new h.gr k (by omega), blk_grown k h.db (some_ne (by omega)), blk_grown k h.er (some_ne (by omega))⟩
def durV : Except Int (Nat → Int) → Value
  | .ok d => .tuple #[.agg (dcells d), .int .i64 0]
  | .error n => .tuple #[.agg (dcells fun _ => 0), .int .i64 n]
def clrD (w : World) (c : Nat) : World :=
  (((((((w.setCell ⟨c, 0, none⟩ (.int .i64 0)).setCell ⟨c, 1, none⟩ (.int .i64 0)).setCell ⟨c, 2, none⟩ (.int .i64 0)).setCell ⟨c, 3, none⟩ (.int .i64 0)).setCell ⟨c, 4, none⟩ (.int .i64 0)).setCell ⟨c, 5, none⟩ (.int .i64 0)).setCell ⟨c, 6, none⟩ (.int .i64 0)).setCell ⟨c, 7, none⟩ (.int .i64 0)
set_option maxHeartbeats 1000000 in
theorem clear_dur2 {c : Nat} {d : Nat → Int} {w : World} (h : Db w c d) : Calls Tryz.prog 22 #[.pointer (some ⟨c, 0, none⟩)] w fun e w' => e = .returned (.tuple #[]) ∧ w' = clrD w c := by
  have q0 := blk_cell h 0
  have q1 := blk_cell h 1
  have q2 := blk_cell h 2
  have q3 := blk_cell h 3
  have q4 := blk_cell h 4
  have q5 := blk_cell h 5
  have q6 := blk_cell h 6
  have q7 := blk_cell h 7
  simp only [List.getElem?_toArray, List.getElem?_cons_zero, List.getElem?_cons_succ] at q0 q1 q2 q3 q4 q5 q6 q7
  have qf : ∀ o, w.frozen? ⟨c, o, none⟩ = false := fun o => blk_free h o
  clear h
  go_enter Tryz.func22, Tryz.ntmps22
  go_wp2_with fail
  go_end0
  exact ⟨rfl, rfl⟩
theorem clrD_db {c : Nat} {d : Nat → Int} {w : World} (h : Db w c d) : Db (clrD w c) c (fun _ => 0) :=
  (((((((h.set (k := 0) (by omega) 0).set (k := 1) (by omega) 0).set (k := 2) (by omega) 0).set (k := 3) (by omega) 0).set (k := 4) (by omega) 0).set (k := 5) (by omega) 0).set (k := 6) (by omega) 0).set (k := 7) (by omega) 0
theorem clrD_grown {w w' : World} {c : Nat} (h : w.grownBy w' none) (hc : w.heap.size ≤ c) : w.grownBy (clrD w' c) none :=
  grown_setNew (grown_setNew (grown_setNew (grown_setNew (grown_setNew (grown_setNew (grown_setNew (grown_setNew h hc _) hc _) hc _) hc _) hc _) hc _) hc _) hc _
theorem clrD_err {wr : World} {c k : Nat} {cs : Array Value} {T : TypeId} (h : wr.heap[k]? = some (.cells cs T (0, 0))) (hk : k ≠ c) : (clrD wr c).heap[k]? = some (.cells cs T (0, 0)) := by
  unfold clrD
  iterate 8 refine (Below.heap_setCell _ _ _ _ (by simp; omega)).trans ?_
  exact h
theorem one_pp {b : Nat} (s : ByteArray) (i : Nat) (w : World) (hr : Rd w b s i) (hs : s.size ≤ 140737488351232) (hi : i ≤ s.size) :
    Calls Tryz.prog 17 #[.pointer (some ⟨b, 0, none⟩), .string ⟨#[80, 112]⟩] w fun e w' => e = .returned (.int .u8 (if nx s i = 80 ∨ nx s i = 112 then nx s i else 0 : Nat)) ∧ St b s w (if nx s i = 80 ∨ nx s i = 112 then i + 1 else i) w' := by
  cases hc : isOne s i ⟨#[80, 112]⟩ with
  | true =>
    have hc' := hc
    rw [isOne_2 s i 80 112 (by decide) (by decide)] at hc
    simp at hc
    rw [if_pos hc, if_pos hc]
    exact one_yes b s _ i w hr hs hc'
  | false =>
    have hc' := hc
    rw [isOne_2 s i 80 112 (by decide) (by decide)] at hc
    simp at hc
    rw [if_neg (by omega), if_neg (by omega)]
    exact (one_no b s _ i w hr hs hi hc').mono fun e w' ⟨h1, h2⟩ => ⟨h1, (St.refl hr).dr h2⟩
theorem one_tt {b : Nat} (s : ByteArray) (i : Nat) (w : World) (hr : Rd w b s i) (hs : s.size ≤ 140737488351232) (hi : i ≤ s.size) :
    Calls Tryz.prog 17 #[.pointer (some ⟨b, 0, none⟩), .string ⟨#[84, 116]⟩] w fun e w' => e = .returned (.int .u8 (if nx s i = 84 ∨ nx s i = 116 then nx s i else 0 : Nat)) ∧ St b s w (if nx s i = 84 ∨ nx s i = 116 then i + 1 else i) w' := by
  cases hc : isOne s i ⟨#[84, 116]⟩ with
  | true =>
    have hc' := hc
    rw [isOne_2 s i 84 116 (by decide) (by decide)] at hc
    simp at hc
    rw [if_pos hc, if_pos hc]
    exact one_yes b s _ i w hr hs hc'
  | false =>
    have hc' := hc
    rw [isOne_2 s i 84 116 (by decide) (by decide)] at hc
    simp at hc
    rw [if_neg (by omega), if_neg (by omega)]
    exact (one_no b s _ i w hr hs hi hc').mono fun e w' ⟨h1, h2⟩ => ⟨h1, (St.refl hr).dr h2⟩
theorem sl_le (s : ByteArray) : sl s 0 ≤ s.size := by
  unfold sl
  split
  · have := nx_in (s := s) (i := 0) (by omega); omega
  · omega
theorem alloc_at2 (w : World) (o : Obj) (n : Nat) (h : n = w.heap.size) : (w.alloc o).heap[n]? = some o := by subst h; exact alloc_at w o
theorem S4.ss (h : S4 s w i w') (hl : w.heap.size + 1 + 1 + 1 < w'.heap.size) (o : Obj) :
    SS s w w'.heap.size (w'.heap.size + 1) i (fun _ => 0) true (((w'.alloc (.cells #[.func (.func 24) #[.pointer (some ⟨w.heap.size + 1 + 1, 0, none⟩)] #[]] 56)).alloc (.cells #[.bool true] 4)).alloc o) := by
  have g : w'.grownBy (((w'.alloc (.cells #[.func (.func 24) #[.pointer (some ⟨w.heap.size + 1 + 1, 0, none⟩)] #[]] 56)).alloc (.cells #[.bool true] 4)).alloc o) none := grown_alloc (grown_alloc (grown_alloc (grown_refl _ _) _) _) _
  refine ⟨hl, Nat.lt_succ_self _, grown_trans h.gr g, blk_grown g h.db (by simp), blk_grown g h.er (by simp), blk_grown g h.r (by simp), blk_grown g h.br (by simp), ?_, ?_⟩
  · exact (Below.heap_alloc _ _ _ (by rw [heap_alloc_size, heap_alloc_size]; omega)).trans (alloc2 _ _ _)
  · exact (Below.heap_alloc _ _ _ (by rw [heap_alloc_size, heap_alloc_size]; omega)).trans (alloc_at1 _ _ _)
theorem below_grown (h : Below w'.heap.size w' w'') : w'.grownBy w'' none := ⟨h.os, h.tape, h.output, h.size, fun k hk _ => h.block k hk⟩
theorem lower_ymwd (w : World) : Calls Tryz.prog 28 #[.string ymwd] w fun e w' => e = .returned (.string ymwdl) ∧ w.grownBy w' none :=
  (Tryz.strings_ToLower_ascii ymwd w (by decide) (by intro j b hj; have := List.mem_of_getElem? hj; simp [ymwd] at this; rcases this with rfl | rfl | rfl | rfl <;> decide)).mono fun e w' ⟨h1, h2⟩ => ⟨h1, below_grown h2⟩
theorem lower_hms (w : World) : Calls Tryz.prog 28 #[.string hms] w fun e w' => e = .returned (.string hmsl) ∧ w.grownBy w' none :=
  (Tryz.strings_ToLower_ascii hms w (by decide) (by intro j b hj; have := List.mem_of_getElem? hj; simp [hms] at this; rcases this with rfl | rfl | rfl <;> decide)).mono fun e w' ⟨h1, h2⟩ => ⟨h1, below_grown h2⟩
theorem span_rest {u : Un} {k j : Nat} {L : Int} {r : Bool} (hP : nx s (sl s 0) = 80 ∨ nx s (sl s 0) = 112) (hU : unitsF s ymwd (ymwd ++ ymwdl) false 0 (s.size + 1) (sl s 0 + 1) ⟨-1, -1, true, fun _ => 0⟩ = some (u, k))
    (hB : backF s u k = some ((L, d, r), j)) : spanF s = if L < 0 then .error 6 else if j < s.size then .error 6 else if (r && rightN d) = true then .ok (if nx s 0 = 45 then fun k => -d k else d) else .error 4 := by
  unfold spanF
  rw [show sgnLen s = sl s 0 from rfl, if_pos hP]
  simp only [bodyF, hU, hB]
  by_cases c1 : L < 0
  · rw [if_pos c1, if_pos c1]
  · rw [if_neg c1, if_neg c1]
    by_cases c2 : j < s.size
    · rw [if_pos c2, if_pos c2]
    · rw [if_neg c2, if_neg c2]
      by_cases c3 : (r && rightN d) = true
      · rw [if_pos c3, if_pos c3]
      · rw [if_neg c3, if_neg c3]
theorem SF.grow (h : SF w w' d) (k : w'.grownBy w'' none) : SF w w'' d :=
  ⟨grown_trans h.gr k, blk_grown k h.db (by simp), blk_grown k h.er (by simp)⟩
theorem unitN_bd (y : Nat) : 1 ≤ unitN y ∧ unitN y ≤ 3600 := by unfold unitN; split; decide; split <;> decide
theorem over_nn {y : Nat} {n : Int} (h : ∀ k, 0 ≤ d k) (hn : 0 ≤ n) : ∀ k, 0 ≤ overD d y n k := by
  intro k
  unfold overD
  split
  · exact layL_nn hn 7
  · split
    · exact layL_nn hn 6
    · split
      · exact layL_nn hn 5
      · exact h k
theorem over_le {y : Nat} {n : Int} (h : ∀ k, d k ≤ 9223372036854775807) (hn : 0 ≤ n) (hn' : n < 9223372036854775808) : ∀ k, overD d y n k ≤ 9223372036854775807 := by
  intro k
  unfold overD
  split
  · exact (layL_64 hn hn' 7).2
  · split
    · exact (layL_64 hn hn' 6).2
    · split
      · exact (layL_64 hn hn' 5).2
      · exact h k
theorem SS.over {d' : Nat → Int} (h : SS s w bt bm i d room w') (k : w'.grownBy w'' (some w.heap.size)) (hd : Db w'' w.heap.size d') : SS s w bt bm i d' room w'' := by
  have l1 := h.lt1
  have l2 := h.lt2
  exact ⟨l1, l2, grown_new h.gr k (Nat.le_refl _), hd, blk_grown k h.er (some_ne (by omega)), blk_grown k h.r (some_ne (by omega)), blk_grown k h.br (some_ne (by omega)), blk_grown k h.bt (some_ne (by omega)), blk_grown k h.bm (some_ne (by omega))⟩
theorem SF.negd (h : SF w w' d) : SF w ((((((((w'.setCell ⟨w.heap.size, 0, none⟩ (.int .i64 (-d 0))).setCell ⟨w.heap.size, 1, none⟩ (.int .i64 (-d 1))).setCell ⟨w.heap.size, 2, none⟩ (.int .i64 (-d 2))).setCell ⟨w.heap.size, 3, none⟩ (.int .i64 (-d 3))).setCell ⟨w.heap.size, 4, none⟩ (.int .i64 (-d 4))).setCell ⟨w.heap.size, 5, none⟩ (.int .i64 (-d 5))).setCell ⟨w.heap.size, 6, none⟩ (.int .i64 (-d 6))).setCell ⟨w.heap.size, 7, none⟩ (.int .i64 (-d 7))) (fun i => -d i) := by
  refine ⟨?_, ?_, ?_⟩
  · iterate 8 refine grown_setNew ?_ (Nat.le_refl _) _
    exact h.gr
  · exact (((((((h.db.set (k := 0) (by omega) (-d 0)).set (k := 1) (by omega) (-d 1)).set (k := 2) (by omega) (-d 2)).set (k := 3) (by omega) (-d 3)).set (k := 4) (by omega) (-d 4)).set (k := 5) (by omega) (-d 5)).set (k := 6) (by omega) (-d 6)).set (k := 7) (by omega) (-d 7)
  · iterate 8 refine (Below.heap_setCell _ _ _ _ (by simp)).trans ?_
    exact h.er
set_option maxHeartbeats 20000000 in
theorem span_any (s : ByteArray) (w : World) (hs : s.size ≤ 140737488351232) : Calls Tryz.prog 11 #[.string s] w fun e w' => e = .returned (durV (spanF s)) ∧ w.grownBy w' none := by
  have hmf : ∀ (fn : Fn) (first cap : Array Value) (w : World), (Instr.makeFunc fn first cap).run Tryz.prog w = .ok (.func fn first cap) w := fun _ _ _ _ => rfl
  have hsl : sl s 0 ≤ s.size := sl_le s
  by_cases hP : nx s (sl s 0) = 80 ∨ nx s (sl s 0) = 112
  ·
    have hI0 : UInv ymwd ⟨-1, -1, true, fun _ => 0⟩ := ⟨fun _ => Int.le_refl _, fun _ => (by decide : (0 : Int) ≤ 9223372036854775807), by decide, by decide, by decide, by decide⟩
    cases hU : unitsF s ymwd (ymwd ++ ymwdl) false 0 (s.size + 1) (sl s 0 + 1) ⟨-1, -1, true, fun _ => 0⟩ with
    | none =>
      have hz := Lib.hid (show spanF s = .error 6 by unfold spanF; rw [show sgnLen s = sl s 0 from rfl, if_pos hP]; simp only [bodyF, hU])
      have hk : sl s 0 + 1 ≤ s.size := nx_in (by omega)
      have hpp : ((nx s (sl s 0) : Int) == 0) = false := by simp; omega
      go_enter_defers Tryz.func11, Tryz.ntmps11
      go_wp2_with fail
      have P0 : S4 s w 0 ((((w.alloc (.cells (dcells fun _ => 0) 32)).alloc (.cells #[.int .i64 0] 24)).alloc (.cells #[.string s, .int .i64 0] 51)).alloc (.cells #[.pointer (some ⟨w.heap.size + 1 + 1, 0, none⟩)] 49)) := by
        refine ⟨?_, ?_, ?_, ?_, ?_⟩
        ·
          repeat (first
            | assumption
            | exact grown_refl _ _
            | apply grown_alloc
            | (refine grown_setNew ?_ ?hside _; case hside => first | (simp; done) | (simp; omega) | omega))
        · unfold Db
          repeat (first
            | assumption
            | (refine alloc_at2 _ _ _ ?_; first | rfl | (simp; done))
            | (refine (Below.heap_alloc _ _ _ ?hside).trans ?_; case hside => first | (simp; done) | (simp; omega) | omega)
            | (refine (Below.heap_setCell _ _ _ _ ?hside).trans ?_; case hside => first | (simp; done) | (simp; omega) | omega))
        ·
          repeat (first
            | assumption
            | (refine alloc_at2 _ _ _ ?_; first | rfl | (simp; done))
            | (refine (Below.heap_alloc _ _ _ ?hside).trans ?_; case hside => first | (simp; done) | (simp; omega) | omega)
            | (refine (Below.heap_setCell _ _ _ _ ?hside).trans ?_; case hside => first | (simp; done) | (simp; omega) | omega))
        · unfold Rd
          repeat (first
            | assumption
            | (refine alloc_at2 _ _ _ ?_; first | rfl | (simp; done))
            | (refine (Below.heap_alloc _ _ _ ?hside).trans ?_; case hside => first | (simp; done) | (simp; omega) | omega)
            | (refine (Below.heap_setCell _ _ _ _ ?hside).trans ?_; case hside => first | (simp; done) | (simp; omega) | omega))
        ·
          repeat (first
            | assumption
            | (refine alloc_at2 _ _ _ ?_; first | rfl | (simp; done))
            | (refine (Below.heap_alloc _ _ _ ?hside).trans ?_; case hside => first | (simp; done) | (simp; omega) | omega)
            | (refine (Below.heap_setCell _ _ _ _ ?hside).trans ?_; case hside => first | (simp; done) | (simp; omega) | omega))
      generalize ((((w.alloc (.cells (dcells fun _ => 0) 32)).alloc (.cells #[.int .i64 0] 24)).alloc (.cells #[.string s, .int .i64 0] 51)).alloc (.cells #[.pointer (some ⟨w.heap.size + 1 + 1, 0, none⟩)] 49)) = W0 at *
      refine (one_sign s 0 W0 P0.r hs (by omega)).mono ?_
      rintro e w1 ⟨rfl, s1⟩
      have P1 := P0.reader s1
      rw [Nat.zero_add] at P1
      have b1 := blk_cell P1.br 0
      simp only [List.getElem?_toArray, List.getElem?_cons_zero] at b1
      have H1 := one_pp s (sl s 0) w1 P1.r hs hsl
      clear s1 P0
      go_wp2_with fail
      rw [if_pos hP, if_pos hP] at H1
      refine H1.mono ?_
      rintro e w2 ⟨rfl, s2⟩
      have P2 := P1.reader s2
      have b2 := blk_cell P2.br 0
      simp only [List.getElem?_toArray, List.getElem?_cons_zero] at b2
      have l2 : w.heap.size + 1 + 1 + 1 < w2.heap.size := (Array.getElem?_eq_some_iff.1 P2.br).1
      clear s2 P1 b1
      go_wp2_with fail
      refine (units_any ymwd ymwdl 4 0 _ ⟨-1, -1, true, fun _ => 0⟩ (P2.ss l2 _) hs (by omega) rfl rfl (alloc_at2 _ _ _ (by rw [heap_alloc_size, heap_alloc_size])) (by omega) rfl (by decide) lower_ymwd (by decide) (by decide) (by decide) (by decide)).mono ?_
      rw [show (4 == 3) = false from rfl, hU]
      rintro e w3 ⟨rfl, d', room', i', w4, hS, hg⟩
      have HF := hS.sf.reader hg
      go_wp2_with fail
      refine leaves_cons (f := 15) (args := #[.pointer (some ⟨w.heap.size + 1, 0, none⟩), .func (.func 22) #[] #[.pointer (some ⟨w.heap.size, 0, none⟩)]]) (by simp) (by simp [go_sem]) ?_
      try unfold eform
      refine (caught_panic (f := 22) (blk_cell HF.er 0) (blk_free HF.er 0) (fun _ => by simp [go_sem]) (clear_dur2 ((Below.heap_setCell _ _ _ _ (by simp)).trans HF.db))).mono ?_
      rintro e u' w'' ⟨rfl, rfl, hw''⟩
      have HP := clrD_db (w := w3.setCell ⟨w.heap.size + 1, 0, none⟩ (.int .i64 6)) ((Below.heap_setCell _ _ _ _ (by simp)).trans HF.db)
      have HE : (clrD (w3.setCell ⟨w.heap.size + 1, 0, none⟩ (.int .i64 6)) w.heap.size).heap[w.heap.size + 1]? = some (.cells #[.int .i64 6] 24 (0, 0)) := clrD_err (by simp [World.setCell, Array.getElem?_modify, HF.er]) (show w.heap.size + 1 ≠ w.heap.size by omega)
      have HG := clrD_grown (w' := w3.setCell ⟨w.heap.size + 1, 0, none⟩ (.int .i64 6)) (grown_setNew HF.gr (by simp) _) (Nat.le_refl w.heap.size)
      rw [← hw''] at HP HE HG
      clear hw''
      have q0 := blk_cell HP 0
      have q1 := blk_cell HP 1
      have q2 := blk_cell HP 2
      have q3 := blk_cell HP 3
      have q4 := blk_cell HP 4
      have q5 := blk_cell HP 5
      have q6 := blk_cell HP 6
      have q7 := blk_cell HP 7
      simp only [List.getElem?_toArray, List.getElem?_cons_zero, List.getElem?_cons_succ] at q0 q1 q2 q3 q4 q5 q6 q7
      have r0 := blk_cell HE 0
      simp only [List.getElem?_toArray, List.getElem?_cons_zero] at r0
      rw [hz.out]
      simp [Leaves, settle, results, Tryz.results11, go_sem, q0, q1, q2, q3, q4, q5, q6, q7, r0, durV]
      exact HG
    | some v =>
      obtain ⟨u, k⟩ := v
      obtain ⟨hI, hk1⟩ := unitsF_inv (by decide) hU hI0 (nx_in (by omega))
      have hk : sl s 0 + 1 ≤ s.size := nx_in (by omega)
      have hpp : ((nx s (sl s 0) : Int) == 0) = false := by simp; omega
      go_enter_defers Tryz.func11, Tryz.ntmps11
      go_wp2_with fail
      have P0 : S4 s w 0 ((((w.alloc (.cells (dcells fun _ => 0) 32)).alloc (.cells #[.int .i64 0] 24)).alloc (.cells #[.string s, .int .i64 0] 51)).alloc (.cells #[.pointer (some ⟨w.heap.size + 1 + 1, 0, none⟩)] 49)) := by
        refine ⟨?_, ?_, ?_, ?_, ?_⟩
        ·
          repeat (first
            | assumption
            | exact grown_refl _ _
            | apply grown_alloc
            | (refine grown_setNew ?_ ?hside _; case hside => first | (simp; done) | (simp; omega) | omega))
        · unfold Db
          repeat (first
            | assumption
            | (refine alloc_at2 _ _ _ ?_; first | rfl | (simp; done))
            | (refine (Below.heap_alloc _ _ _ ?hside).trans ?_; case hside => first | (simp; done) | (simp; omega) | omega)
            | (refine (Below.heap_setCell _ _ _ _ ?hside).trans ?_; case hside => first | (simp; done) | (simp; omega) | omega))
        ·
          repeat (first
            | assumption
            | (refine alloc_at2 _ _ _ ?_; first | rfl | (simp; done))
            | (refine (Below.heap_alloc _ _ _ ?hside).trans ?_; case hside => first | (simp; done) | (simp; omega) | omega)
            | (refine (Below.heap_setCell _ _ _ _ ?hside).trans ?_; case hside => first | (simp; done) | (simp; omega) | omega))
        · unfold Rd
          repeat (first
            | assumption
            | (refine alloc_at2 _ _ _ ?_; first | rfl | (simp; done))
            | (refine (Below.heap_alloc _ _ _ ?hside).trans ?_; case hside => first | (simp; done) | (simp; omega) | omega)
            | (refine (Below.heap_setCell _ _ _ _ ?hside).trans ?_; case hside => first | (simp; done) | (simp; omega) | omega))
        ·
          repeat (first
            | assumption
            | (refine alloc_at2 _ _ _ ?_; first | rfl | (simp; done))
            | (refine (Below.heap_alloc _ _ _ ?hside).trans ?_; case hside => first | (simp; done) | (simp; omega) | omega)
            | (refine (Below.heap_setCell _ _ _ _ ?hside).trans ?_; case hside => first | (simp; done) | (simp; omega) | omega))
      generalize ((((w.alloc (.cells (dcells fun _ => 0) 32)).alloc (.cells #[.int .i64 0] 24)).alloc (.cells #[.string s, .int .i64 0] 51)).alloc (.cells #[.pointer (some ⟨w.heap.size + 1 + 1, 0, none⟩)] 49)) = W0 at *
      refine (one_sign s 0 W0 P0.r hs (by omega)).mono ?_
      rintro e w1 ⟨rfl, s1⟩
      have P1 := P0.reader s1
      rw [Nat.zero_add] at P1
      have b1 := blk_cell P1.br 0
      simp only [List.getElem?_toArray, List.getElem?_cons_zero] at b1
      have H1 := one_pp s (sl s 0) w1 P1.r hs hsl
      clear s1 P0
      go_wp2_with fail
      rw [if_pos hP, if_pos hP] at H1
      refine H1.mono ?_
      rintro e w2 ⟨rfl, s2⟩
      have P2 := P1.reader s2
      have b2 := blk_cell P2.br 0
      simp only [List.getElem?_toArray, List.getElem?_cons_zero] at b2
      have l2 : w.heap.size + 1 + 1 + 1 < w2.heap.size := (Array.getElem?_eq_some_iff.1 P2.br).1
      clear s2 P1 b1
      go_wp2_with fail
      refine (units_any ymwd ymwdl 4 0 _ ⟨-1, -1, true, fun _ => 0⟩ (P2.ss l2 _) hs (by omega) rfl rfl (alloc_at2 _ _ _ (by rw [heap_alloc_size, heap_alloc_size])) (by omega) rfl (by decide) lower_ymwd (by decide) (by decide) (by decide) (by decide)).mono ?_
      rw [show (4 == 3) = false from rfl, hU]
      rintro e w3 ⟨rfl, S3⟩
      have b3 := blk_cell S3.br 0
      simp only [List.getElem?_toArray, List.getElem?_cons_zero] at b3
      have H3 := one_tt s k w3 S3.r hs hk1
      have hS3 := Lib.hid S3
      clear S3 P2 b2 H1
      generalize w2.heap.size = bt at *
      go_wp2_with fail
      by_cases hT : nx s k = 84 ∨ nx s k = 116
      · rw [if_pos hT, if_pos hT] at H3
        have hk2 : k + 1 ≤ s.size := nx_in (by omega)
        have htt : decide (0 < nx s k) = true := by simp; omega
        have hI1 : UInv hms ⟨-1, -1, u.room, u.d⟩ := ⟨hI.d0, hI.d1, (by decide : (-1 : Int) ≤ -1), (by decide : (-1 : Int) < 3), (by decide : (-1 : Int) ≤ -1), (by decide : (-1 : Int) < 1000000000)⟩
        refine H3.mono ?_
        rintro e w4 ⟨rfl, s4⟩
        have S4' := hS3.out.reader s4
        have l4 := (Array.getElem?_eq_some_iff.1 S4'.bm).1
        clear s4 b3
        go_wp2_with fail
        cases hV : unitsF s hms (hms ++ hmsl) true 4 (s.size + 1) (k + 1) ⟨-1, -1, u.room, u.d⟩ with
        | none =>
          have hz := Lib.hid (show spanF s = .error 6 by unfold spanF; rw [show sgnLen s = sl s 0 from rfl, if_pos hP]; simp only [bodyF, hU, backF]; rw [if_pos hT, hV])
          refine (units_any hms hmsl 3 4 _ ⟨-1, -1, u.room, u.d⟩ (S4'.grow (World.grownBy_alloc _ _ _)) hs hk2 rfl rfl (alloc_at2 _ _ _ rfl) l4 rfl (by decide) lower_hms (by decide) (by decide) (by decide) (by decide)).mono ?_
          rw [show (3 == 3) = true from rfl, hV]
          rintro e w5 ⟨rfl, d', room', i', w6, hS, hg⟩
          have HF := hS.sf.reader hg
          go_wp2_with fail
          refine leaves_cons (f := 15) (args := #[.pointer (some ⟨w.heap.size + 1, 0, none⟩), .func (.func 22) #[] #[.pointer (some ⟨w.heap.size, 0, none⟩)]]) (by simp) (by simp [go_sem]) ?_
          try unfold eform
          refine (caught_panic (f := 22) (blk_cell HF.er 0) (blk_free HF.er 0) (fun _ => by simp [go_sem]) (clear_dur2 ((Below.heap_setCell _ _ _ _ (by simp)).trans HF.db))).mono ?_
          rintro e u' w'' ⟨rfl, rfl, hw''⟩
          have HP := clrD_db (w := w5.setCell ⟨w.heap.size + 1, 0, none⟩ (.int .i64 6)) ((Below.heap_setCell _ _ _ _ (by simp)).trans HF.db)
          have HE : (clrD (w5.setCell ⟨w.heap.size + 1, 0, none⟩ (.int .i64 6)) w.heap.size).heap[w.heap.size + 1]? = some (.cells #[.int .i64 6] 24 (0, 0)) := clrD_err (by simp [World.setCell, Array.getElem?_modify, HF.er]) (show w.heap.size + 1 ≠ w.heap.size by omega)
          have HG := clrD_grown (w' := w5.setCell ⟨w.heap.size + 1, 0, none⟩ (.int .i64 6)) (grown_setNew HF.gr (by simp) _) (Nat.le_refl w.heap.size)
          rw [← hw''] at HP HE HG
          clear hw''
          have q0 := blk_cell HP 0
          have q1 := blk_cell HP 1
          have q2 := blk_cell HP 2
          have q3 := blk_cell HP 3
          have q4 := blk_cell HP 4
          have q5 := blk_cell HP 5
          have q6 := blk_cell HP 6
          have q7 := blk_cell HP 7
          simp only [List.getElem?_toArray, List.getElem?_cons_zero, List.getElem?_cons_succ] at q0 q1 q2 q3 q4 q5 q6 q7
          have r0 := blk_cell HE 0
          simp only [List.getElem?_toArray, List.getElem?_cons_zero] at r0
          rw [hz.out]
          simp [Leaves, settle, results, Tryz.results11, go_sem, q0, q1, q2, q3, q4, q5, q6, q7, r0, durV]
          exact HG
        | some v =>
          obtain ⟨v, j⟩ := v
          obtain ⟨hJ, hj1⟩ := unitsF_inv (by decide) hV hI1 hk2
          refine (units_any hms hmsl 3 4 _ ⟨-1, -1, u.room, u.d⟩ (S4'.grow (World.grownBy_alloc _ _ _)) hs hk2 rfl rfl (alloc_at2 _ _ _ rfl) l4 rfl (by decide) lower_hms (by decide) (by decide) (by decide) (by decide)).mono ?_
          rw [show (3 == 3) = true from rfl, hV]
          rintro e wx ⟨rfl, S5⟩
          clear S4' hS3 hI hI0 hI1
          obtain ⟨vh, vp, vr, vd⟩ := v
          simp only at S5
          have hJ0 := hJ.h0
          have hJ1 := hJ.h1
          have hJp := hJ.p1
          have hJd0 := hJ.d0
          have hJd1 := hJ.d1
          simp only at hJ0 hJ1 hJp hJd0 hJd1
          have hJ1 : vh < 3 := hJ1
          cases cv : decide (0 ≤ vh) with
          | false =>
            have hB : backF s u k = some ((vh, vd, vr), j) := by unfold backF; rw [if_pos hT, hV]; simp only; rw [if_neg (fun h => of_decide_eq_false cv h.1)]
            have HS := S5
            have hd0 := hJd0
            have hd1 := hJd1
            obtain ⟨L, rfl⟩ : ∃ L, L = vh := ⟨_, rfl⟩
            obtain ⟨dd, rfl⟩ : ∃ L, L = vd := ⟨_, rfl⟩
            obtain ⟨rr, rfl⟩ : ∃ L, L = vr := ⟨_, rfl⟩
            have hL : decide (L < 0) = true := by have := of_decide_eq_false cv; simp; omega
            have HZ := Lib.hid (span_rest hP hU hB)
            have b4 := blk_cell HS.br 0
            simp only [List.getElem?_toArray, List.getElem?_cons_zero] at b4
            have hz := Lib.hid (show spanF s = .error 6 from HZ.out.trans (if_pos (of_decide_eq_true hL)))
            go_wp2_with fail
            refine (wrong_any _ _).mono ?_
            rintro e w5 ⟨rfl, hw⟩
            have HF := HS.sf
            rw [hw]
            clear hw
            go_wp2_with fail
            refine leaves_cons (f := 15) (args := #[.pointer (some ⟨w.heap.size + 1, 0, none⟩), .func (.func 22) #[] #[.pointer (some ⟨w.heap.size, 0, none⟩)]]) (by simp) (by simp [go_sem]) ?_
            try unfold eform
            refine (caught_panic (f := 22) (blk_cell HF.er 0) (blk_free HF.er 0) (fun _ => by simp [go_sem]) (clear_dur2 ((Below.heap_setCell _ _ _ _ (by simp)).trans HF.db))).mono ?_
            rintro e u' w'' ⟨rfl, rfl, hw''⟩
            have HP := clrD_db (w := wx.setCell ⟨w.heap.size + 1, 0, none⟩ (.int .i64 6)) ((Below.heap_setCell _ _ _ _ (by simp)).trans HF.db)
            have HE : (clrD (wx.setCell ⟨w.heap.size + 1, 0, none⟩ (.int .i64 6)) w.heap.size).heap[w.heap.size + 1]? = some (.cells #[.int .i64 6] 24 (0, 0)) := clrD_err (by simp [World.setCell, Array.getElem?_modify, HF.er]) (show w.heap.size + 1 ≠ w.heap.size by omega)
            have HG := clrD_grown (w' := wx.setCell ⟨w.heap.size + 1, 0, none⟩ (.int .i64 6)) (grown_setNew HF.gr (by simp) _) (Nat.le_refl w.heap.size)
            rw [← hw''] at HP HE HG
            clear hw''
            have q0 := blk_cell HP 0
            have q1 := blk_cell HP 1
            have q2 := blk_cell HP 2
            have q3 := blk_cell HP 3
            have q4 := blk_cell HP 4
            have q5 := blk_cell HP 5
            have q6 := blk_cell HP 6
            have q7 := blk_cell HP 7
            simp only [List.getElem?_toArray, List.getElem?_cons_zero, List.getElem?_cons_succ] at q0 q1 q2 q3 q4 q5 q6 q7
            have r0 := blk_cell HE 0
            simp only [List.getElem?_toArray, List.getElem?_cons_zero] at r0
            rw [hz.out]
            simp [Leaves, settle, results, Tryz.results11, go_sem, q0, q1, q2, q3, q4, q5, q6, q7, r0, durV]
            exact HG
          | true =>
            cases cp : decide (0 < vp) with
            | false =>
              have hB : backF s u k = some ((vh, vd, vr), j) := by unfold backF; rw [if_pos hT, hV]; simp only; rw [if_neg (fun h => of_decide_eq_false cp h.2)]
              have HS := S5
              have hd0 := hJd0
              have hd1 := hJd1
              obtain ⟨L, rfl⟩ : ∃ L, L = vh := ⟨_, rfl⟩
              obtain ⟨dd, rfl⟩ : ∃ L, L = vd := ⟨_, rfl⟩
              obtain ⟨rr, rfl⟩ : ∃ L, L = vr := ⟨_, rfl⟩
              have hL : decide (L < 0) = false := by have := of_decide_eq_true cv; simp; omega
              have HZ := Lib.hid (span_rest hP hU hB)
              have b4 := blk_cell HS.br 0
              simp only [List.getElem?_toArray, List.getElem?_cons_zero] at b4
              have hz1 := HZ.out.trans (if_neg (of_decide_eq_false hL))
              go_wp2_with fail
              by_cases hj : j < s.size
              · have hz := Lib.hid (hz1.trans (if_pos hj))
                refine (whole_no HS.r hs hj).mono ?_
                rintro e w5 ⟨rfl, hg⟩
                have HF := HS.sf.reader hg
                go_wp2_with fail
                refine leaves_cons (f := 15) (args := #[.pointer (some ⟨w.heap.size + 1, 0, none⟩), .func (.func 22) #[] #[.pointer (some ⟨w.heap.size, 0, none⟩)]]) (by simp) (by simp [go_sem]) ?_
                try unfold eform
                refine (caught_panic (f := 22) (blk_cell HF.er 0) (blk_free HF.er 0) (fun _ => by simp [go_sem]) (clear_dur2 ((Below.heap_setCell _ _ _ _ (by simp)).trans HF.db))).mono ?_
                rintro e u' w'' ⟨rfl, rfl, hw''⟩
                have HP := clrD_db (w := w5.setCell ⟨w.heap.size + 1, 0, none⟩ (.int .i64 6)) ((Below.heap_setCell _ _ _ _ (by simp)).trans HF.db)
                have HE : (clrD (w5.setCell ⟨w.heap.size + 1, 0, none⟩ (.int .i64 6)) w.heap.size).heap[w.heap.size + 1]? = some (.cells #[.int .i64 6] 24 (0, 0)) := clrD_err (by simp [World.setCell, Array.getElem?_modify, HF.er]) (show w.heap.size + 1 ≠ w.heap.size by omega)
                have HG := clrD_grown (w' := w5.setCell ⟨w.heap.size + 1, 0, none⟩ (.int .i64 6)) (grown_setNew HF.gr (by simp) _) (Nat.le_refl w.heap.size)
                rw [← hw''] at HP HE HG
                clear hw''
                have q0 := blk_cell HP 0
                have q1 := blk_cell HP 1
                have q2 := blk_cell HP 2
                have q3 := blk_cell HP 3
                have q4 := blk_cell HP 4
                have q5 := blk_cell HP 5
                have q6 := blk_cell HP 6
                have q7 := blk_cell HP 7
                simp only [List.getElem?_toArray, List.getElem?_cons_zero, List.getElem?_cons_succ] at q0 q1 q2 q3 q4 q5 q6 q7
                have r0 := blk_cell HE 0
                simp only [List.getElem?_toArray, List.getElem?_cons_zero] at r0
                rw [hz.out]
                simp [Leaves, settle, results, Tryz.results11, go_sem, q0, q1, q2, q3, q4, q5, q6, q7, r0, durV]
                exact HG
              · have hz2 := hz1.trans (if_neg hj)
                refine (whole_yes HS.r hs (by have := hB; omega)).mono ?_
                rintro e w5 ⟨rfl, s5⟩
                have H5 := HS.reader s5
                have m5 := blk_cell H5.bm 0
                simp only [List.getElem?_toArray, List.getElem?_cons_zero] at m5
                have q0 := blk_cell H5.db 0
                have q1 := blk_cell H5.db 1
                have q2 := blk_cell H5.db 2
                have q3 := blk_cell H5.db 3
                have q4 := blk_cell H5.db 4
                have q5 := blk_cell H5.db 5
                have q6 := blk_cell H5.db 6
                have q7 := blk_cell H5.db 7
                simp only [List.getElem?_toArray, List.getElem?_cons_zero, List.getElem?_cons_succ] at q0 q1 q2 q3 q4 q5 q6 q7
                have HD64 : D64 dd := fun k => ⟨by have := hd0 k; omega, hd1 k⟩
                clear s5 b4 HS hB
                cases rr with
                | false =>
                  have hz := Lib.hid (hz2.trans (if_neg (by simp)))
                  have HF := H5.sf
                  clear hz1 hz2 HZ
                  go_wp2_with fail
                  clear q0 q1 q2 q3 q4 q5 q6 q7
                  refine leaves_cons (f := 15) (args := #[.pointer (some ⟨w.heap.size + 1, 0, none⟩), .func (.func 22) #[] #[.pointer (some ⟨w.heap.size, 0, none⟩)]]) (by simp) (by simp [go_sem]) ?_
                  try unfold eform
                  refine (caught_panic (f := 22) (blk_cell HF.er 0) (blk_free HF.er 0) (fun _ => by simp [go_sem]) (clear_dur2 ((Below.heap_setCell _ _ _ _ (by simp)).trans HF.db))).mono ?_
                  rintro e u' w'' ⟨rfl, rfl, hw''⟩
                  have HP := clrD_db (w := w5.setCell ⟨w.heap.size + 1, 0, none⟩ (.int .i64 4)) ((Below.heap_setCell _ _ _ _ (by simp)).trans HF.db)
                  have HE : (clrD (w5.setCell ⟨w.heap.size + 1, 0, none⟩ (.int .i64 4)) w.heap.size).heap[w.heap.size + 1]? = some (.cells #[.int .i64 4] 24 (0, 0)) := clrD_err (by simp [World.setCell, Array.getElem?_modify, HF.er]) (show w.heap.size + 1 ≠ w.heap.size by omega)
                  have HG := clrD_grown (w' := w5.setCell ⟨w.heap.size + 1, 0, none⟩ (.int .i64 4)) (grown_setNew HF.gr (by simp) _) (Nat.le_refl w.heap.size)
                  rw [← hw''] at HP HE HG
                  clear hw''
                  have q0 := blk_cell HP 0
                  have q1 := blk_cell HP 1
                  have q2 := blk_cell HP 2
                  have q3 := blk_cell HP 3
                  have q4 := blk_cell HP 4
                  have q5 := blk_cell HP 5
                  have q6 := blk_cell HP 6
                  have q7 := blk_cell HP 7
                  simp only [List.getElem?_toArray, List.getElem?_cons_zero, List.getElem?_cons_succ] at q0 q1 q2 q3 q4 q5 q6 q7
                  have r0 := blk_cell HE 0
                  simp only [List.getElem?_toArray, List.getElem?_cons_zero] at r0
                  rw [hz.out]
                  simp [Leaves, settle, results, Tryz.results11, go_sem, q0, q1, q2, q3, q4, q5, q6, q7, r0, durV]
                  exact HG
                | true =>
                  have H31 := Lib.hid (fun w => right_any dd w HD64)
                  rw [rightD_nn hd0] at H31
                  cases hN : rightN dd with
                  | false =>
                    rw [hN] at H31
                    have hz := Lib.hid (hz2.trans (if_neg (by rw [hN]; simp)))
                    clear hz1 hz2 HZ
                    go_wp2_with fail
                    refine (H31.out _).mono ?_
                    rintro e w6 ⟨rfl, hg6⟩
                    have HF := (H5.grow hg6).sf
                    clear q0 q1 q2 q3 q4 q5 q6 q7
                    go_wp2_with fail
                    refine leaves_cons (f := 15) (args := #[.pointer (some ⟨w.heap.size + 1, 0, none⟩), .func (.func 22) #[] #[.pointer (some ⟨w.heap.size, 0, none⟩)]]) (by simp) (by simp [go_sem]) ?_
                    try unfold eform
                    refine (caught_panic (f := 22) (blk_cell HF.er 0) (blk_free HF.er 0) (fun _ => by simp [go_sem]) (clear_dur2 ((Below.heap_setCell _ _ _ _ (by simp)).trans HF.db))).mono ?_
                    rintro e u' w'' ⟨rfl, rfl, hw''⟩
                    have HP := clrD_db (w := w6.setCell ⟨w.heap.size + 1, 0, none⟩ (.int .i64 4)) ((Below.heap_setCell _ _ _ _ (by simp)).trans HF.db)
                    have HE : (clrD (w6.setCell ⟨w.heap.size + 1, 0, none⟩ (.int .i64 4)) w.heap.size).heap[w.heap.size + 1]? = some (.cells #[.int .i64 4] 24 (0, 0)) := clrD_err (by simp [World.setCell, Array.getElem?_modify, HF.er]) (show w.heap.size + 1 ≠ w.heap.size by omega)
                    have HG := clrD_grown (w' := w6.setCell ⟨w.heap.size + 1, 0, none⟩ (.int .i64 4)) (grown_setNew HF.gr (by simp) _) (Nat.le_refl w.heap.size)
                    rw [← hw''] at HP HE HG
                    clear hw''
                    have q0 := blk_cell HP 0
                    have q1 := blk_cell HP 1
                    have q2 := blk_cell HP 2
                    have q3 := blk_cell HP 3
                    have q4 := blk_cell HP 4
                    have q5 := blk_cell HP 5
                    have q6 := blk_cell HP 6
                    have q7 := blk_cell HP 7
                    simp only [List.getElem?_toArray, List.getElem?_cons_zero, List.getElem?_cons_succ] at q0 q1 q2 q3 q4 q5 q6 q7
                    have r0 := blk_cell HE 0
                    simp only [List.getElem?_toArray, List.getElem?_cons_zero] at r0
                    rw [hz.out]
                    simp [Leaves, settle, results, Tryz.results11, go_sem, q0, q1, q2, q3, q4, q5, q6, q7, r0, durV]
                    exact HG
                  | true =>
                    rw [hN] at H31
                    have hz3 := hz2.trans (if_pos (by rw [hN]; rfl))
                    have H14 := Lib.hid (fun w => dneg_any dd w HD64 (fun k => by have := hd0 k; omega) (by rw [rightD_nn hd0]; exact hN))
                    clear hz1 hz2 HZ
                    go_wp2_with fail
                    refine (H31.out _).mono ?_
                    rintro e w6 ⟨rfl, hg6⟩
                    have H6 := H5.grow hg6
                    clear q0 q1 q2 q3 q4 q5 q6 q7
                    have q0 := blk_cell H6.db 0
                    have q1 := blk_cell H6.db 1
                    have q2 := blk_cell H6.db 2
                    have q3 := blk_cell H6.db 3
                    have q4 := blk_cell H6.db 4
                    have q5 := blk_cell H6.db 5
                    have q6 := blk_cell H6.db 6
                    have q7 := blk_cell H6.db 7
                    simp only [List.getElem?_toArray, List.getElem?_cons_zero, List.getElem?_cons_succ] at q0 q1 q2 q3 q4 q5 q6 q7
                    have qf : ∀ o, w6.frozen? ⟨w.heap.size, o, none⟩ = false := fun o => blk_free H6.db o
                    have r0 := blk_cell H6.er 0
                    have r1 := blk_free H6.er 0
                    simp only [List.getElem?_toArray, List.getElem?_cons_zero] at r0
                    have HF := Lib.hid H6.sf
                    cases hng : ((sg s 0 : Int) == 45) with
                    | false =>
                      have hne : ¬ nx s 0 = 45 := by intro h; simp [sg, h] at hng
                      rw [if_neg hne] at hz3
                      have hz := Lib.hid hz3
                      clear H5 H6
                      go_wp2_with fail
                      refine leaves_cons (f := 15) (args := #[.pointer (some ⟨w.heap.size + 1, 0, none⟩), .func (.func 22) #[] #[.pointer (some ⟨w.heap.size, 0, none⟩)]]) (by simp) (by simp [go_sem]) ?_
                      refine caught_idle.mono ?_
                      rintro e u' w'' ⟨rfl, rfl, rfl⟩
                      rw [hz.out]
                      simp [Leaves, settle, results, Tryz.results11, go_sem, q0, q1, q2, q3, q4, q5, q6, q7, r0, durV]
                      repeat (refine grown_setNew ?_ (by simp) _)
                      exact HF.out.gr
                    | true =>
                      have hne : nx s 0 = 45 := by unfold sg at hng; split at hng; simp at hng; split at hng; assumption; simp at hng
                      rw [if_pos hne] at hz3
                      have hz := Lib.hid hz3
                      clear H5 H6
                      go_wp2_with fail
                      refine (H14.out _).mono ?_
                      rintro e w7 ⟨rfl, hg7⟩
                      have H7 := HF.out.grow hg7
                      clear q0 q1 q2 q3 q4 q5 q6 q7 qf r0 r1
                      have q0 := blk_cell H7.db 0
                      have q1 := blk_cell H7.db 1
                      have q2 := blk_cell H7.db 2
                      have q3 := blk_cell H7.db 3
                      have q4 := blk_cell H7.db 4
                      have q5 := blk_cell H7.db 5
                      have q6 := blk_cell H7.db 6
                      have q7 := blk_cell H7.db 7
                      simp only [List.getElem?_toArray, List.getElem?_cons_zero, List.getElem?_cons_succ] at q0 q1 q2 q3 q4 q5 q6 q7
                      have qf : ∀ o, w7.frozen? ⟨w.heap.size, o, none⟩ = false := fun o => blk_free H7.db o
                      have r0 := blk_cell H7.er 0
                      have r1 := blk_free H7.er 0
                      simp only [List.getElem?_toArray, List.getElem?_cons_zero] at r0
                      have HF := Lib.hid H7
                      clear H7
                      go_upto_region 21 with fail
                      have HN := HF.out.negd
                      clear HF q0 q1 q2 q3 q4 q5 q6 q7 qf r0 r1
                      generalize ((((((((w7.setCell ⟨w.heap.size, 0, none⟩ (.int .i64 (-dd 0))).setCell ⟨w.heap.size, 1, none⟩ (.int .i64 (-dd 1))).setCell ⟨w.heap.size, 2, none⟩ (.int .i64 (-dd 2))).setCell ⟨w.heap.size, 3, none⟩ (.int .i64 (-dd 3))).setCell ⟨w.heap.size, 4, none⟩ (.int .i64 (-dd 4))).setCell ⟨w.heap.size, 5, none⟩ (.int .i64 (-dd 5))).setCell ⟨w.heap.size, 6, none⟩ (.int .i64 (-dd 6))).setCell ⟨w.heap.size, 7, none⟩ (.int .i64 (-dd 7))) = WN at *
                      have q0 := blk_cell HN.db 0
                      have q1 := blk_cell HN.db 1
                      have q2 := blk_cell HN.db 2
                      have q3 := blk_cell HN.db 3
                      have q4 := blk_cell HN.db 4
                      have q5 := blk_cell HN.db 5
                      have q6 := blk_cell HN.db 6
                      have q7 := blk_cell HN.db 7
                      simp only [List.getElem?_toArray, List.getElem?_cons_zero, List.getElem?_cons_succ] at q0 q1 q2 q3 q4 q5 q6 q7
                      have qf : ∀ o, WN.frozen? ⟨w.heap.size, o, none⟩ = false := fun o => blk_free HN.db o
                      have r0 := blk_cell HN.er 0
                      have r1 := blk_free HN.er 0
                      simp only [List.getElem?_toArray, List.getElem?_cons_zero] at r0
                      have HF := Lib.hid HN
                      clear HN
                      go_wp2_with fail
                      refine leaves_cons (f := 15) (args := #[.pointer (some ⟨w.heap.size + 1, 0, none⟩), .func (.func 22) #[] #[.pointer (some ⟨w.heap.size, 0, none⟩)]]) (by simp) (by simp [go_sem]) ?_
                      refine caught_idle.mono ?_
                      rintro e u' w'' ⟨rfl, rfl, rfl⟩
                      rw [hz.out]
                      simp [Leaves, settle, results, Tryz.results11, go_sem, q0, q1, q2, q3, q4, q5, q6, q7, r0, durV]
                      repeat (refine grown_setNew ?_ (by simp) _)
                      exact HF.out.gr
            | true =>
              have hB : backF s u k = some ((vh, overD vd vh.toNat (vp * unitN vh.toNat), vr), j) := by unfold backF; rw [if_pos hT, hV]; simp only; rw [if_pos ⟨of_decide_eq_true cv, of_decide_eq_true cp⟩]
              have hcv := of_decide_eq_true cv
              have hcp := of_decide_eq_true cp
              obtain ⟨y, rfl⟩ := Int.eq_ofNat_of_zero_le hcv
              have hO := over_yes (c := w.heap.size) (u := y) (p := vp) (d := vd) (w := wx) (by omega) (by omega) hJp S5.db
              go_wp2_with fail
              refine hO.mono ?_
              rintro e wy ⟨rfl, hg6, hD6⟩
              have HS := S5.over hg6 hD6
              have hd0 : ∀ k, 0 ≤ overD vd y (vp * unitN y) k := over_nn hJd0 (by have := unitN_bd y; exact Int.mul_nonneg (by omega) (by omega))
              have hd1 : ∀ k, overD vd y (vp * unitN y) k ≤ 9223372036854775807 := over_le hJd1 (by have := unitN_bd y; exact Int.mul_nonneg (by omega) (by omega)) (by have := unitN_bd y; have := Int.mul_le_mul (show vp ≤ 999999999 by omega) this.2 (by omega) (by decide); omega)
              rw [Int.toNat_natCast] at hB
              clear hO hD6 S5
              generalize overD vd y (vp * unitN y) = dd at *
              obtain ⟨L, hLL⟩ : ∃ L, L = (y : Int) := ⟨_, rfl⟩
              rw [← hLL] at hB ⊢
              obtain ⟨rr, rfl⟩ : ∃ L, L = vr := ⟨_, rfl⟩
              have hL : decide (L < 0) = false := by simp; omega
              have HZ := Lib.hid (span_rest hP hU hB)
              have b4 := blk_cell HS.br 0
              simp only [List.getElem?_toArray, List.getElem?_cons_zero] at b4
              have hz1 := HZ.out.trans (if_neg (of_decide_eq_false hL))
              go_wp2_with fail
              by_cases hj : j < s.size
              · have hz := Lib.hid (hz1.trans (if_pos hj))
                refine (whole_no HS.r hs hj).mono ?_
                rintro e w5 ⟨rfl, hg⟩
                have HF := HS.sf.reader hg
                go_wp2_with fail
                refine leaves_cons (f := 15) (args := #[.pointer (some ⟨w.heap.size + 1, 0, none⟩), .func (.func 22) #[] #[.pointer (some ⟨w.heap.size, 0, none⟩)]]) (by simp) (by simp [go_sem]) ?_
                try unfold eform
                refine (caught_panic (f := 22) (blk_cell HF.er 0) (blk_free HF.er 0) (fun _ => by simp [go_sem]) (clear_dur2 ((Below.heap_setCell _ _ _ _ (by simp)).trans HF.db))).mono ?_
                rintro e u' w'' ⟨rfl, rfl, hw''⟩
                have HP := clrD_db (w := w5.setCell ⟨w.heap.size + 1, 0, none⟩ (.int .i64 6)) ((Below.heap_setCell _ _ _ _ (by simp)).trans HF.db)
                have HE : (clrD (w5.setCell ⟨w.heap.size + 1, 0, none⟩ (.int .i64 6)) w.heap.size).heap[w.heap.size + 1]? = some (.cells #[.int .i64 6] 24 (0, 0)) := clrD_err (by simp [World.setCell, Array.getElem?_modify, HF.er]) (show w.heap.size + 1 ≠ w.heap.size by omega)
                have HG := clrD_grown (w' := w5.setCell ⟨w.heap.size + 1, 0, none⟩ (.int .i64 6)) (grown_setNew HF.gr (by simp) _) (Nat.le_refl w.heap.size)
                rw [← hw''] at HP HE HG
                clear hw''
                have q0 := blk_cell HP 0
                have q1 := blk_cell HP 1
                have q2 := blk_cell HP 2
                have q3 := blk_cell HP 3
                have q4 := blk_cell HP 4
                have q5 := blk_cell HP 5
                have q6 := blk_cell HP 6
                have q7 := blk_cell HP 7
                simp only [List.getElem?_toArray, List.getElem?_cons_zero, List.getElem?_cons_succ] at q0 q1 q2 q3 q4 q5 q6 q7
                have r0 := blk_cell HE 0
                simp only [List.getElem?_toArray, List.getElem?_cons_zero] at r0
                rw [hz.out]
                simp [Leaves, settle, results, Tryz.results11, go_sem, q0, q1, q2, q3, q4, q5, q6, q7, r0, durV]
                exact HG
              · have hz2 := hz1.trans (if_neg hj)
                refine (whole_yes HS.r hs (by have := hB; omega)).mono ?_
                rintro e w5 ⟨rfl, s5⟩
                have H5 := HS.reader s5
                have m5 := blk_cell H5.bm 0
                simp only [List.getElem?_toArray, List.getElem?_cons_zero] at m5
                have q0 := blk_cell H5.db 0
                have q1 := blk_cell H5.db 1
                have q2 := blk_cell H5.db 2
                have q3 := blk_cell H5.db 3
                have q4 := blk_cell H5.db 4
                have q5 := blk_cell H5.db 5
                have q6 := blk_cell H5.db 6
                have q7 := blk_cell H5.db 7
                simp only [List.getElem?_toArray, List.getElem?_cons_zero, List.getElem?_cons_succ] at q0 q1 q2 q3 q4 q5 q6 q7
                have HD64 : D64 dd := fun k => ⟨by have := hd0 k; omega, hd1 k⟩
                clear s5 b4 HS hB
                cases rr with
                | false =>
                  have hz := Lib.hid (hz2.trans (if_neg (by simp)))
                  have HF := H5.sf
                  clear hz1 hz2 HZ
                  go_wp2_with fail
                  clear q0 q1 q2 q3 q4 q5 q6 q7
                  refine leaves_cons (f := 15) (args := #[.pointer (some ⟨w.heap.size + 1, 0, none⟩), .func (.func 22) #[] #[.pointer (some ⟨w.heap.size, 0, none⟩)]]) (by simp) (by simp [go_sem]) ?_
                  try unfold eform
                  refine (caught_panic (f := 22) (blk_cell HF.er 0) (blk_free HF.er 0) (fun _ => by simp [go_sem]) (clear_dur2 ((Below.heap_setCell _ _ _ _ (by simp)).trans HF.db))).mono ?_
                  rintro e u' w'' ⟨rfl, rfl, hw''⟩
                  have HP := clrD_db (w := w5.setCell ⟨w.heap.size + 1, 0, none⟩ (.int .i64 4)) ((Below.heap_setCell _ _ _ _ (by simp)).trans HF.db)
                  have HE : (clrD (w5.setCell ⟨w.heap.size + 1, 0, none⟩ (.int .i64 4)) w.heap.size).heap[w.heap.size + 1]? = some (.cells #[.int .i64 4] 24 (0, 0)) := clrD_err (by simp [World.setCell, Array.getElem?_modify, HF.er]) (show w.heap.size + 1 ≠ w.heap.size by omega)
                  have HG := clrD_grown (w' := w5.setCell ⟨w.heap.size + 1, 0, none⟩ (.int .i64 4)) (grown_setNew HF.gr (by simp) _) (Nat.le_refl w.heap.size)
                  rw [← hw''] at HP HE HG
                  clear hw''
                  have q0 := blk_cell HP 0
                  have q1 := blk_cell HP 1
                  have q2 := blk_cell HP 2
                  have q3 := blk_cell HP 3
                  have q4 := blk_cell HP 4
                  have q5 := blk_cell HP 5
                  have q6 := blk_cell HP 6
                  have q7 := blk_cell HP 7
                  simp only [List.getElem?_toArray, List.getElem?_cons_zero, List.getElem?_cons_succ] at q0 q1 q2 q3 q4 q5 q6 q7
                  have r0 := blk_cell HE 0
                  simp only [List.getElem?_toArray, List.getElem?_cons_zero] at r0
                  rw [hz.out]
                  simp [Leaves, settle, results, Tryz.results11, go_sem, q0, q1, q2, q3, q4, q5, q6, q7, r0, durV]
                  exact HG
                | true =>
                  have H31 := Lib.hid (fun w => right_any dd w HD64)
                  rw [rightD_nn hd0] at H31
                  cases hN : rightN dd with
                  | false =>
                    rw [hN] at H31
                    have hz := Lib.hid (hz2.trans (if_neg (by rw [hN]; simp)))
                    clear hz1 hz2 HZ
                    go_wp2_with fail
                    refine (H31.out _).mono ?_
                    rintro e w6 ⟨rfl, hg6⟩
                    have HF := (H5.grow hg6).sf
                    clear q0 q1 q2 q3 q4 q5 q6 q7
                    go_wp2_with fail
                    refine leaves_cons (f := 15) (args := #[.pointer (some ⟨w.heap.size + 1, 0, none⟩), .func (.func 22) #[] #[.pointer (some ⟨w.heap.size, 0, none⟩)]]) (by simp) (by simp [go_sem]) ?_
                    try unfold eform
                    refine (caught_panic (f := 22) (blk_cell HF.er 0) (blk_free HF.er 0) (fun _ => by simp [go_sem]) (clear_dur2 ((Below.heap_setCell _ _ _ _ (by simp)).trans HF.db))).mono ?_
                    rintro e u' w'' ⟨rfl, rfl, hw''⟩
                    have HP := clrD_db (w := w6.setCell ⟨w.heap.size + 1, 0, none⟩ (.int .i64 4)) ((Below.heap_setCell _ _ _ _ (by simp)).trans HF.db)
                    have HE : (clrD (w6.setCell ⟨w.heap.size + 1, 0, none⟩ (.int .i64 4)) w.heap.size).heap[w.heap.size + 1]? = some (.cells #[.int .i64 4] 24 (0, 0)) := clrD_err (by simp [World.setCell, Array.getElem?_modify, HF.er]) (show w.heap.size + 1 ≠ w.heap.size by omega)
                    have HG := clrD_grown (w' := w6.setCell ⟨w.heap.size + 1, 0, none⟩ (.int .i64 4)) (grown_setNew HF.gr (by simp) _) (Nat.le_refl w.heap.size)
                    rw [← hw''] at HP HE HG
                    clear hw''
                    have q0 := blk_cell HP 0
                    have q1 := blk_cell HP 1
                    have q2 := blk_cell HP 2
                    have q3 := blk_cell HP 3
                    have q4 := blk_cell HP 4
                    have q5 := blk_cell HP 5
                    have q6 := blk_cell HP 6
                    have q7 := blk_cell HP 7
                    simp only [List.getElem?_toArray, List.getElem?_cons_zero, List.getElem?_cons_succ] at q0 q1 q2 q3 q4 q5 q6 q7
                    have r0 := blk_cell HE 0
                    simp only [List.getElem?_toArray, List.getElem?_cons_zero] at r0
                    rw [hz.out]
                    simp [Leaves, settle, results, Tryz.results11, go_sem, q0, q1, q2, q3, q4, q5, q6, q7, r0, durV]
                    exact HG
                  | true =>
                    rw [hN] at H31
                    have hz3 := hz2.trans (if_pos (by rw [hN]; rfl))
                    have H14 := Lib.hid (fun w => dneg_any dd w HD64 (fun k => by have := hd0 k; omega) (by rw [rightD_nn hd0]; exact hN))
                    clear hz1 hz2 HZ
                    go_wp2_with fail
                    refine (H31.out _).mono ?_
                    rintro e w6 ⟨rfl, hg6⟩
                    have H6 := H5.grow hg6
                    clear q0 q1 q2 q3 q4 q5 q6 q7
                    have q0 := blk_cell H6.db 0
                    have q1 := blk_cell H6.db 1
                    have q2 := blk_cell H6.db 2
                    have q3 := blk_cell H6.db 3
                    have q4 := blk_cell H6.db 4
                    have q5 := blk_cell H6.db 5
                    have q6 := blk_cell H6.db 6
                    have q7 := blk_cell H6.db 7
                    simp only [List.getElem?_toArray, List.getElem?_cons_zero, List.getElem?_cons_succ] at q0 q1 q2 q3 q4 q5 q6 q7
                    have qf : ∀ o, w6.frozen? ⟨w.heap.size, o, none⟩ = false := fun o => blk_free H6.db o
                    have r0 := blk_cell H6.er 0
                    have r1 := blk_free H6.er 0
                    simp only [List.getElem?_toArray, List.getElem?_cons_zero] at r0
                    have HF := Lib.hid H6.sf
                    cases hng : ((sg s 0 : Int) == 45) with
                    | false =>
                      have hne : ¬ nx s 0 = 45 := by intro h; simp [sg, h] at hng
                      rw [if_neg hne] at hz3
                      have hz := Lib.hid hz3
                      clear H5 H6
                      go_wp2_with fail
                      refine leaves_cons (f := 15) (args := #[.pointer (some ⟨w.heap.size + 1, 0, none⟩), .func (.func 22) #[] #[.pointer (some ⟨w.heap.size, 0, none⟩)]]) (by simp) (by simp [go_sem]) ?_
                      refine caught_idle.mono ?_
                      rintro e u' w'' ⟨rfl, rfl, rfl⟩
                      rw [hz.out]
                      simp [Leaves, settle, results, Tryz.results11, go_sem, q0, q1, q2, q3, q4, q5, q6, q7, r0, durV]
                      repeat (refine grown_setNew ?_ (by simp) _)
                      exact HF.out.gr
                    | true =>
                      have hne : nx s 0 = 45 := by unfold sg at hng; split at hng; simp at hng; split at hng; assumption; simp at hng
                      rw [if_pos hne] at hz3
                      have hz := Lib.hid hz3
                      clear H5 H6
                      go_wp2_with fail
                      refine (H14.out _).mono ?_
                      rintro e w7 ⟨rfl, hg7⟩
                      have H7 := HF.out.grow hg7
                      clear q0 q1 q2 q3 q4 q5 q6 q7 qf r0 r1
                      have q0 := blk_cell H7.db 0
                      have q1 := blk_cell H7.db 1
                      have q2 := blk_cell H7.db 2
                      have q3 := blk_cell H7.db 3
                      have q4 := blk_cell H7.db 4
                      have q5 := blk_cell H7.db 5
                      have q6 := blk_cell H7.db 6
                      have q7 := blk_cell H7.db 7
                      simp only [List.getElem?_toArray, List.getElem?_cons_zero, List.getElem?_cons_succ] at q0 q1 q2 q3 q4 q5 q6 q7
                      have qf : ∀ o, w7.frozen? ⟨w.heap.size, o, none⟩ = false := fun o => blk_free H7.db o
                      have r0 := blk_cell H7.er 0
                      have r1 := blk_free H7.er 0
                      simp only [List.getElem?_toArray, List.getElem?_cons_zero] at r0
                      have HF := Lib.hid H7
                      clear H7
                      go_upto_region 21 with fail
                      have HN := HF.out.negd
                      clear HF q0 q1 q2 q3 q4 q5 q6 q7 qf r0 r1
                      generalize ((((((((w7.setCell ⟨w.heap.size, 0, none⟩ (.int .i64 (-dd 0))).setCell ⟨w.heap.size, 1, none⟩ (.int .i64 (-dd 1))).setCell ⟨w.heap.size, 2, none⟩ (.int .i64 (-dd 2))).setCell ⟨w.heap.size, 3, none⟩ (.int .i64 (-dd 3))).setCell ⟨w.heap.size, 4, none⟩ (.int .i64 (-dd 4))).setCell ⟨w.heap.size, 5, none⟩ (.int .i64 (-dd 5))).setCell ⟨w.heap.size, 6, none⟩ (.int .i64 (-dd 6))).setCell ⟨w.heap.size, 7, none⟩ (.int .i64 (-dd 7))) = WN at *
                      have q0 := blk_cell HN.db 0
                      have q1 := blk_cell HN.db 1
                      have q2 := blk_cell HN.db 2
                      have q3 := blk_cell HN.db 3
                      have q4 := blk_cell HN.db 4
                      have q5 := blk_cell HN.db 5
                      have q6 := blk_cell HN.db 6
                      have q7 := blk_cell HN.db 7
                      simp only [List.getElem?_toArray, List.getElem?_cons_zero, List.getElem?_cons_succ] at q0 q1 q2 q3 q4 q5 q6 q7
                      have qf : ∀ o, WN.frozen? ⟨w.heap.size, o, none⟩ = false := fun o => blk_free HN.db o
                      have r0 := blk_cell HN.er 0
                      have r1 := blk_free HN.er 0
                      simp only [List.getElem?_toArray, List.getElem?_cons_zero] at r0
                      have HF := Lib.hid HN
                      clear HN
                      go_wp2_with fail
                      refine leaves_cons (f := 15) (args := #[.pointer (some ⟨w.heap.size + 1, 0, none⟩), .func (.func 22) #[] #[.pointer (some ⟨w.heap.size, 0, none⟩)]]) (by simp) (by simp [go_sem]) ?_
                      refine caught_idle.mono ?_
                      rintro e u' w'' ⟨rfl, rfl, rfl⟩
                      rw [hz.out]
                      simp [Leaves, settle, results, Tryz.results11, go_sem, q0, q1, q2, q3, q4, q5, q6, q7, r0, durV]
                      repeat (refine grown_setNew ?_ (by simp) _)
                      exact HF.out.gr
      · rw [if_neg hT, if_neg hT] at H3
        have hB : backF s u k = some ((u.had, u.d, u.room), k) := by unfold backF; exact if_neg hT
        refine H3.mono ?_
        rintro e w4 ⟨rfl, s4⟩
        have HS := hS3.out.reader s4
        have hd0 := hI.d0
        have hd1 := hI.d1
        clear s4 b3
        obtain ⟨L, hLe⟩ : ∃ L, u.had = L := ⟨_, rfl⟩
        obtain ⟨dd, hde⟩ : ∃ d, u.d = d := ⟨_, rfl⟩
        obtain ⟨rr, hre⟩ : ∃ r, u.room = r := ⟨_, rfl⟩
        rw [hLe, hde, hre] at hB
        rw [hLe]
        rw [hde, hre] at HS
        rw [hde] at hd0 hd1
        have HZ := Lib.hid (span_rest hP hU hB)
        have b4 := blk_cell HS.br 0
        simp only [List.getElem?_toArray, List.getElem?_cons_zero] at b4
        cases hL : decide (L < 0) with
        | true =>
          have hz := Lib.hid (show spanF s = .error 6 from HZ.out.trans (if_pos (of_decide_eq_true hL)))
          go_wp2_with fail
          refine (wrong_any _ _).mono ?_
          rintro e w5 ⟨rfl, hw⟩
          have HF := HS.sf
          rw [hw]
          clear hw
          go_wp2_with fail
          refine leaves_cons (f := 15) (args := #[.pointer (some ⟨w.heap.size + 1, 0, none⟩), .func (.func 22) #[] #[.pointer (some ⟨w.heap.size, 0, none⟩)]]) (by simp) (by simp [go_sem]) ?_
          try unfold eform
          refine (caught_panic (f := 22) (blk_cell HF.er 0) (blk_free HF.er 0) (fun _ => by simp [go_sem]) (clear_dur2 ((Below.heap_setCell _ _ _ _ (by simp)).trans HF.db))).mono ?_
          rintro e u' w'' ⟨rfl, rfl, hw''⟩
          have HP := clrD_db (w := w4.setCell ⟨w.heap.size + 1, 0, none⟩ (.int .i64 6)) ((Below.heap_setCell _ _ _ _ (by simp)).trans HF.db)
          have HE : (clrD (w4.setCell ⟨w.heap.size + 1, 0, none⟩ (.int .i64 6)) w.heap.size).heap[w.heap.size + 1]? = some (.cells #[.int .i64 6] 24 (0, 0)) := clrD_err (by simp [World.setCell, Array.getElem?_modify, HF.er]) (show w.heap.size + 1 ≠ w.heap.size by omega)
          have HG := clrD_grown (w' := w4.setCell ⟨w.heap.size + 1, 0, none⟩ (.int .i64 6)) (grown_setNew HF.gr (by simp) _) (Nat.le_refl w.heap.size)
          rw [← hw''] at HP HE HG
          clear hw''
          have q0 := blk_cell HP 0
          have q1 := blk_cell HP 1
          have q2 := blk_cell HP 2
          have q3 := blk_cell HP 3
          have q4 := blk_cell HP 4
          have q5 := blk_cell HP 5
          have q6 := blk_cell HP 6
          have q7 := blk_cell HP 7
          simp only [List.getElem?_toArray, List.getElem?_cons_zero, List.getElem?_cons_succ] at q0 q1 q2 q3 q4 q5 q6 q7
          have r0 := blk_cell HE 0
          simp only [List.getElem?_toArray, List.getElem?_cons_zero] at r0
          rw [hz.out]
          simp [Leaves, settle, results, Tryz.results11, go_sem, q0, q1, q2, q3, q4, q5, q6, q7, r0, durV]
          exact HG
        | false =>
          have hz1 := HZ.out.trans (if_neg (of_decide_eq_false hL))
          go_wp2_with fail
          by_cases hj : k < s.size
          · have hz := Lib.hid (hz1.trans (if_pos hj))
            refine (whole_no HS.r hs hj).mono ?_
            rintro e w5 ⟨rfl, hg⟩
            have HF := HS.sf.reader hg
            go_wp2_with fail
            refine leaves_cons (f := 15) (args := #[.pointer (some ⟨w.heap.size + 1, 0, none⟩), .func (.func 22) #[] #[.pointer (some ⟨w.heap.size, 0, none⟩)]]) (by simp) (by simp [go_sem]) ?_
            try unfold eform
            refine (caught_panic (f := 22) (blk_cell HF.er 0) (blk_free HF.er 0) (fun _ => by simp [go_sem]) (clear_dur2 ((Below.heap_setCell _ _ _ _ (by simp)).trans HF.db))).mono ?_
            rintro e u' w'' ⟨rfl, rfl, hw''⟩
            have HP := clrD_db (w := w5.setCell ⟨w.heap.size + 1, 0, none⟩ (.int .i64 6)) ((Below.heap_setCell _ _ _ _ (by simp)).trans HF.db)
            have HE : (clrD (w5.setCell ⟨w.heap.size + 1, 0, none⟩ (.int .i64 6)) w.heap.size).heap[w.heap.size + 1]? = some (.cells #[.int .i64 6] 24 (0, 0)) := clrD_err (by simp [World.setCell, Array.getElem?_modify, HF.er]) (show w.heap.size + 1 ≠ w.heap.size by omega)
            have HG := clrD_grown (w' := w5.setCell ⟨w.heap.size + 1, 0, none⟩ (.int .i64 6)) (grown_setNew HF.gr (by simp) _) (Nat.le_refl w.heap.size)
            rw [← hw''] at HP HE HG
            clear hw''
            have q0 := blk_cell HP 0
            have q1 := blk_cell HP 1
            have q2 := blk_cell HP 2
            have q3 := blk_cell HP 3
            have q4 := blk_cell HP 4
            have q5 := blk_cell HP 5
            have q6 := blk_cell HP 6
            have q7 := blk_cell HP 7
            simp only [List.getElem?_toArray, List.getElem?_cons_zero, List.getElem?_cons_succ] at q0 q1 q2 q3 q4 q5 q6 q7
            have r0 := blk_cell HE 0
            simp only [List.getElem?_toArray, List.getElem?_cons_zero] at r0
            rw [hz.out]
            simp [Leaves, settle, results, Tryz.results11, go_sem, q0, q1, q2, q3, q4, q5, q6, q7, r0, durV]
            exact HG
          · have hz2 := hz1.trans (if_neg hj)
            refine (whole_yes HS.r hs (by have := hB; omega)).mono ?_
            rintro e w5 ⟨rfl, s5⟩
            have H5 := HS.reader s5
            have m5 := blk_cell H5.bm 0
            simp only [List.getElem?_toArray, List.getElem?_cons_zero] at m5
            have q0 := blk_cell H5.db 0
            have q1 := blk_cell H5.db 1
            have q2 := blk_cell H5.db 2
            have q3 := blk_cell H5.db 3
            have q4 := blk_cell H5.db 4
            have q5 := blk_cell H5.db 5
            have q6 := blk_cell H5.db 6
            have q7 := blk_cell H5.db 7
            simp only [List.getElem?_toArray, List.getElem?_cons_zero, List.getElem?_cons_succ] at q0 q1 q2 q3 q4 q5 q6 q7
            have HD64 : D64 dd := fun k => ⟨by have := hd0 k; omega, hd1 k⟩
            clear s5 b4 HS hB
            cases rr with
            | false =>
              have hz := Lib.hid (hz2.trans (if_neg (by simp)))
              have HF := H5.sf
              clear hz1 hz2 HZ
              go_wp2_with fail
              clear q0 q1 q2 q3 q4 q5 q6 q7
              refine leaves_cons (f := 15) (args := #[.pointer (some ⟨w.heap.size + 1, 0, none⟩), .func (.func 22) #[] #[.pointer (some ⟨w.heap.size, 0, none⟩)]]) (by simp) (by simp [go_sem]) ?_
              try unfold eform
              refine (caught_panic (f := 22) (blk_cell HF.er 0) (blk_free HF.er 0) (fun _ => by simp [go_sem]) (clear_dur2 ((Below.heap_setCell _ _ _ _ (by simp)).trans HF.db))).mono ?_
              rintro e u' w'' ⟨rfl, rfl, hw''⟩
              have HP := clrD_db (w := w5.setCell ⟨w.heap.size + 1, 0, none⟩ (.int .i64 4)) ((Below.heap_setCell _ _ _ _ (by simp)).trans HF.db)
              have HE : (clrD (w5.setCell ⟨w.heap.size + 1, 0, none⟩ (.int .i64 4)) w.heap.size).heap[w.heap.size + 1]? = some (.cells #[.int .i64 4] 24 (0, 0)) := clrD_err (by simp [World.setCell, Array.getElem?_modify, HF.er]) (show w.heap.size + 1 ≠ w.heap.size by omega)
              have HG := clrD_grown (w' := w5.setCell ⟨w.heap.size + 1, 0, none⟩ (.int .i64 4)) (grown_setNew HF.gr (by simp) _) (Nat.le_refl w.heap.size)
              rw [← hw''] at HP HE HG
              clear hw''
              have q0 := blk_cell HP 0
              have q1 := blk_cell HP 1
              have q2 := blk_cell HP 2
              have q3 := blk_cell HP 3
              have q4 := blk_cell HP 4
              have q5 := blk_cell HP 5
              have q6 := blk_cell HP 6
              have q7 := blk_cell HP 7
              simp only [List.getElem?_toArray, List.getElem?_cons_zero, List.getElem?_cons_succ] at q0 q1 q2 q3 q4 q5 q6 q7
              have r0 := blk_cell HE 0
              simp only [List.getElem?_toArray, List.getElem?_cons_zero] at r0
              rw [hz.out]
              simp [Leaves, settle, results, Tryz.results11, go_sem, q0, q1, q2, q3, q4, q5, q6, q7, r0, durV]
              exact HG
            | true =>
              have H31 := Lib.hid (fun w => right_any dd w HD64)
              rw [rightD_nn hd0] at H31
              cases hN : rightN dd with
              | false =>
                rw [hN] at H31
                have hz := Lib.hid (hz2.trans (if_neg (by rw [hN]; simp)))
                clear hz1 hz2 HZ
                go_wp2_with fail
                refine (H31.out _).mono ?_
                rintro e w6 ⟨rfl, hg6⟩
                have HF := (H5.grow hg6).sf
                clear q0 q1 q2 q3 q4 q5 q6 q7
                go_wp2_with fail
                refine leaves_cons (f := 15) (args := #[.pointer (some ⟨w.heap.size + 1, 0, none⟩), .func (.func 22) #[] #[.pointer (some ⟨w.heap.size, 0, none⟩)]]) (by simp) (by simp [go_sem]) ?_
                try unfold eform
                refine (caught_panic (f := 22) (blk_cell HF.er 0) (blk_free HF.er 0) (fun _ => by simp [go_sem]) (clear_dur2 ((Below.heap_setCell _ _ _ _ (by simp)).trans HF.db))).mono ?_
                rintro e u' w'' ⟨rfl, rfl, hw''⟩
                have HP := clrD_db (w := w6.setCell ⟨w.heap.size + 1, 0, none⟩ (.int .i64 4)) ((Below.heap_setCell _ _ _ _ (by simp)).trans HF.db)
                have HE : (clrD (w6.setCell ⟨w.heap.size + 1, 0, none⟩ (.int .i64 4)) w.heap.size).heap[w.heap.size + 1]? = some (.cells #[.int .i64 4] 24 (0, 0)) := clrD_err (by simp [World.setCell, Array.getElem?_modify, HF.er]) (show w.heap.size + 1 ≠ w.heap.size by omega)
                have HG := clrD_grown (w' := w6.setCell ⟨w.heap.size + 1, 0, none⟩ (.int .i64 4)) (grown_setNew HF.gr (by simp) _) (Nat.le_refl w.heap.size)
                rw [← hw''] at HP HE HG
                clear hw''
                have q0 := blk_cell HP 0
                have q1 := blk_cell HP 1
                have q2 := blk_cell HP 2
                have q3 := blk_cell HP 3
                have q4 := blk_cell HP 4
                have q5 := blk_cell HP 5
                have q6 := blk_cell HP 6
                have q7 := blk_cell HP 7
                simp only [List.getElem?_toArray, List.getElem?_cons_zero, List.getElem?_cons_succ] at q0 q1 q2 q3 q4 q5 q6 q7
                have r0 := blk_cell HE 0
                simp only [List.getElem?_toArray, List.getElem?_cons_zero] at r0
                rw [hz.out]
                simp [Leaves, settle, results, Tryz.results11, go_sem, q0, q1, q2, q3, q4, q5, q6, q7, r0, durV]
                exact HG
              | true =>
                rw [hN] at H31
                have hz3 := hz2.trans (if_pos (by rw [hN]; rfl))
                have H14 := Lib.hid (fun w => dneg_any dd w HD64 (fun k => by have := hd0 k; omega) (by rw [rightD_nn hd0]; exact hN))
                clear hz1 hz2 HZ
                go_wp2_with fail
                refine (H31.out _).mono ?_
                rintro e w6 ⟨rfl, hg6⟩
                have H6 := H5.grow hg6
                clear q0 q1 q2 q3 q4 q5 q6 q7
                have q0 := blk_cell H6.db 0
                have q1 := blk_cell H6.db 1
                have q2 := blk_cell H6.db 2
                have q3 := blk_cell H6.db 3
                have q4 := blk_cell H6.db 4
                have q5 := blk_cell H6.db 5
                have q6 := blk_cell H6.db 6
                have q7 := blk_cell H6.db 7
                simp only [List.getElem?_toArray, List.getElem?_cons_zero, List.getElem?_cons_succ] at q0 q1 q2 q3 q4 q5 q6 q7
                have qf : ∀ o, w6.frozen? ⟨w.heap.size, o, none⟩ = false := fun o => blk_free H6.db o
                have r0 := blk_cell H6.er 0
                have r1 := blk_free H6.er 0
                simp only [List.getElem?_toArray, List.getElem?_cons_zero] at r0
                have HF := Lib.hid H6.sf
                cases hng : ((sg s 0 : Int) == 45) with
                | false =>
                  have hne : ¬ nx s 0 = 45 := by intro h; simp [sg, h] at hng
                  rw [if_neg hne] at hz3
                  have hz := Lib.hid hz3
                  clear H5 H6
                  go_wp2_with fail
                  refine leaves_cons (f := 15) (args := #[.pointer (some ⟨w.heap.size + 1, 0, none⟩), .func (.func 22) #[] #[.pointer (some ⟨w.heap.size, 0, none⟩)]]) (by simp) (by simp [go_sem]) ?_
                  refine caught_idle.mono ?_
                  rintro e u' w'' ⟨rfl, rfl, rfl⟩
                  rw [hz.out]
                  simp [Leaves, settle, results, Tryz.results11, go_sem, q0, q1, q2, q3, q4, q5, q6, q7, r0, durV]
                  repeat (refine grown_setNew ?_ (by simp) _)
                  exact HF.out.gr
                | true =>
                  have hne : nx s 0 = 45 := by unfold sg at hng; split at hng; simp at hng; split at hng; assumption; simp at hng
                  rw [if_pos hne] at hz3
                  have hz := Lib.hid hz3
                  clear H5 H6
                  go_wp2_with fail
                  refine (H14.out _).mono ?_
                  rintro e w7 ⟨rfl, hg7⟩
                  have H7 := HF.out.grow hg7
                  clear q0 q1 q2 q3 q4 q5 q6 q7 qf r0 r1
                  have q0 := blk_cell H7.db 0
                  have q1 := blk_cell H7.db 1
                  have q2 := blk_cell H7.db 2
                  have q3 := blk_cell H7.db 3
                  have q4 := blk_cell H7.db 4
                  have q5 := blk_cell H7.db 5
                  have q6 := blk_cell H7.db 6
                  have q7 := blk_cell H7.db 7
                  simp only [List.getElem?_toArray, List.getElem?_cons_zero, List.getElem?_cons_succ] at q0 q1 q2 q3 q4 q5 q6 q7
                  have qf : ∀ o, w7.frozen? ⟨w.heap.size, o, none⟩ = false := fun o => blk_free H7.db o
                  have r0 := blk_cell H7.er 0
                  have r1 := blk_free H7.er 0
                  simp only [List.getElem?_toArray, List.getElem?_cons_zero] at r0
                  have HF := Lib.hid H7
                  clear H7
                  go_upto_region 21 with fail
                  have HN := HF.out.negd
                  clear HF q0 q1 q2 q3 q4 q5 q6 q7 qf r0 r1
                  generalize ((((((((w7.setCell ⟨w.heap.size, 0, none⟩ (.int .i64 (-dd 0))).setCell ⟨w.heap.size, 1, none⟩ (.int .i64 (-dd 1))).setCell ⟨w.heap.size, 2, none⟩ (.int .i64 (-dd 2))).setCell ⟨w.heap.size, 3, none⟩ (.int .i64 (-dd 3))).setCell ⟨w.heap.size, 4, none⟩ (.int .i64 (-dd 4))).setCell ⟨w.heap.size, 5, none⟩ (.int .i64 (-dd 5))).setCell ⟨w.heap.size, 6, none⟩ (.int .i64 (-dd 6))).setCell ⟨w.heap.size, 7, none⟩ (.int .i64 (-dd 7))) = WN at *
                  have q0 := blk_cell HN.db 0
                  have q1 := blk_cell HN.db 1
                  have q2 := blk_cell HN.db 2
                  have q3 := blk_cell HN.db 3
                  have q4 := blk_cell HN.db 4
                  have q5 := blk_cell HN.db 5
                  have q6 := blk_cell HN.db 6
                  have q7 := blk_cell HN.db 7
                  simp only [List.getElem?_toArray, List.getElem?_cons_zero, List.getElem?_cons_succ] at q0 q1 q2 q3 q4 q5 q6 q7
                  have qf : ∀ o, WN.frozen? ⟨w.heap.size, o, none⟩ = false := fun o => blk_free HN.db o
                  have r0 := blk_cell HN.er 0
                  have r1 := blk_free HN.er 0
                  simp only [List.getElem?_toArray, List.getElem?_cons_zero] at r0
                  have HF := Lib.hid HN
                  clear HN
                  go_wp2_with fail
                  refine leaves_cons (f := 15) (args := #[.pointer (some ⟨w.heap.size + 1, 0, none⟩), .func (.func 22) #[] #[.pointer (some ⟨w.heap.size, 0, none⟩)]]) (by simp) (by simp [go_sem]) ?_
                  refine caught_idle.mono ?_
                  rintro e u' w'' ⟨rfl, rfl, rfl⟩
                  rw [hz.out]
                  simp [Leaves, settle, results, Tryz.results11, go_sem, q0, q1, q2, q3, q4, q5, q6, q7, r0, durV]
                  repeat (refine grown_setNew ?_ (by simp) _)
                  exact HF.out.gr
  · have hz := Lib.hid (show spanF s = .error 6 by unfold spanF; exact if_neg hP)
    go_enter_defers Tryz.func11, Tryz.ntmps11
    go_wp2_with fail
    have P0 : S4 s w 0 ((((w.alloc (.cells (dcells fun _ => 0) 32)).alloc (.cells #[.int .i64 0] 24)).alloc (.cells #[.string s, .int .i64 0] 51)).alloc (.cells #[.pointer (some ⟨w.heap.size + 1 + 1, 0, none⟩)] 49)) := by
      refine ⟨?_, ?_, ?_, ?_, ?_⟩
      ·
        repeat (first
          | assumption
          | exact grown_refl _ _
          | apply grown_alloc
          | (refine grown_setNew ?_ ?hside _; case hside => first | (simp; done) | (simp; omega) | omega))
      · unfold Db
        repeat (first
          | assumption
          | (refine alloc_at2 _ _ _ ?_; first | rfl | (simp; done))
          | (refine (Below.heap_alloc _ _ _ ?hside).trans ?_; case hside => first | (simp; done) | (simp; omega) | omega)
          | (refine (Below.heap_setCell _ _ _ _ ?hside).trans ?_; case hside => first | (simp; done) | (simp; omega) | omega))
      ·
        repeat (first
          | assumption
          | (refine alloc_at2 _ _ _ ?_; first | rfl | (simp; done))
          | (refine (Below.heap_alloc _ _ _ ?hside).trans ?_; case hside => first | (simp; done) | (simp; omega) | omega)
          | (refine (Below.heap_setCell _ _ _ _ ?hside).trans ?_; case hside => first | (simp; done) | (simp; omega) | omega))
      · unfold Rd
        repeat (first
          | assumption
          | (refine alloc_at2 _ _ _ ?_; first | rfl | (simp; done))
          | (refine (Below.heap_alloc _ _ _ ?hside).trans ?_; case hside => first | (simp; done) | (simp; omega) | omega)
          | (refine (Below.heap_setCell _ _ _ _ ?hside).trans ?_; case hside => first | (simp; done) | (simp; omega) | omega))
      ·
        repeat (first
          | assumption
          | (refine alloc_at2 _ _ _ ?_; first | rfl | (simp; done))
          | (refine (Below.heap_alloc _ _ _ ?hside).trans ?_; case hside => first | (simp; done) | (simp; omega) | omega)
          | (refine (Below.heap_setCell _ _ _ _ ?hside).trans ?_; case hside => first | (simp; done) | (simp; omega) | omega))
    generalize ((((w.alloc (.cells (dcells fun _ => 0) 32)).alloc (.cells #[.int .i64 0] 24)).alloc (.cells #[.string s, .int .i64 0] 51)).alloc (.cells #[.pointer (some ⟨w.heap.size + 1 + 1, 0, none⟩)] 49)) = W0 at *
    refine (one_sign s 0 W0 P0.r hs (by omega)).mono ?_
    rintro e w1 ⟨rfl, s1⟩
    have P1 := P0.reader s1
    rw [Nat.zero_add] at P1
    have b1 := blk_cell P1.br 0
    simp only [List.getElem?_toArray, List.getElem?_cons_zero] at b1
    have H1 := one_pp s (sl s 0) w1 P1.r hs hsl
    clear s1 P0
    go_wp2_with fail
    rw [if_neg hP, if_neg hP] at H1
    refine H1.mono ?_
    rintro e w2 ⟨rfl, s2⟩
    have P2 := P1.reader s2
    have b2 := blk_cell P2.br 0
    simp only [List.getElem?_toArray, List.getElem?_cons_zero] at b2
    go_wp2_with fail
    refine (wrong_any _ _).mono ?_
    rintro e w3 ⟨rfl, hw⟩
    have HF := P2.sf
    rw [hw]
    clear hw
    go_wp2_with fail
    refine leaves_cons (f := 15) (args := #[.pointer (some ⟨w.heap.size + 1, 0, none⟩), .func (.func 22) #[] #[.pointer (some ⟨w.heap.size, 0, none⟩)]]) (by simp) (by simp [go_sem]) ?_
    try unfold eform
    refine (caught_panic (f := 22) (blk_cell HF.er 0) (blk_free HF.er 0) (fun _ => by simp [go_sem]) (clear_dur2 ((Below.heap_setCell _ _ _ _ (by simp)).trans HF.db))).mono ?_
    rintro e u' w'' ⟨rfl, rfl, hw''⟩
    have HP := clrD_db (w := w2.setCell ⟨w.heap.size + 1, 0, none⟩ (.int .i64 6)) ((Below.heap_setCell _ _ _ _ (by simp)).trans HF.db)
    have HE : (clrD (w2.setCell ⟨w.heap.size + 1, 0, none⟩ (.int .i64 6)) w.heap.size).heap[w.heap.size + 1]? = some (.cells #[.int .i64 6] 24 (0, 0)) := clrD_err (by simp [World.setCell, Array.getElem?_modify, HF.er]) (show w.heap.size + 1 ≠ w.heap.size by omega)
    have HG := clrD_grown (w' := w2.setCell ⟨w.heap.size + 1, 0, none⟩ (.int .i64 6)) (grown_setNew HF.gr (by simp) _) (Nat.le_refl w.heap.size)
    rw [← hw''] at HP HE HG
    clear hw''
    have q0 := blk_cell HP 0
    have q1 := blk_cell HP 1
    have q2 := blk_cell HP 2
    have q3 := blk_cell HP 3
    have q4 := blk_cell HP 4
    have q5 := blk_cell HP 5
    have q6 := blk_cell HP 6
    have q7 := blk_cell HP 7
    simp only [List.getElem?_toArray, List.getElem?_cons_zero, List.getElem?_cons_succ] at q0 q1 q2 q3 q4 q5 q6 q7
    have r0 := blk_cell HE 0
    simp only [List.getElem?_toArray, List.getElem?_cons_zero] at r0
    rw [hz.out]
    simp [Leaves, settle, results, Tryz.results11, go_sem, q0, q1, q2, q3, q4, q5, q6, q7, r0, durV]
    exact HG

end Go.Proofs.YtkhpdiilghncgaaGreatDoor
