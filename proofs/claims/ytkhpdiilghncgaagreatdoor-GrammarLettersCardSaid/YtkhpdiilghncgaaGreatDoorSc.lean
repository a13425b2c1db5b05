/- grammar.Span's units: the walk. -/
import Derived.Test.YtkhpdiilghncgaaGreatDoorSb
import Derived.Test.YtkhpdiilghncgaaGreatDoorOv
import Derived.Test.YtkhpdiilghncgaaGreatDoorShelf
namespace Go.Proofs.YtkhpdiilghncgaaGreatDoor
open Go.RowKit Go.Shelf
set_option linter.unusedVariables false

/-- Span's blocks. -/
structure SS (s : ByteArray) (w : World) (bt bm : Nat) (i : Nat) (d : Nat → Int) (room : Bool) (w' : World) : Prop where
  lt1 : w.heap.size + 1 + 1 + 1 < bt
  lt2 : bt < bm
  gr : w.grownBy w' none
  db : Db w' w.heap.size d
  er : w'.heap[w.heap.size + 1]? = some (.cells #[.int .i64 0] 24 (0, 0))
  r : Rd w' (w.heap.size + 1 + 1) s i
  br : w'.heap[w.heap.size + 1 + 1 + 1]? = some (.cells #[.pointer (some ⟨w.heap.size + 1 + 1, 0, none⟩)] 49 (0, 0))
  bt : w'.heap[bt]? = some (.cells #[.func (.func 24) #[.pointer (some ⟨w.heap.size + 1 + 1, 0, none⟩)] #[]] 56 (0, 0))
  bm : w'.heap[bm]? = some (.cells #[.bool room] 4 (0, 0))
variable {s : ByteArray} {w w' w'' : World} {bt bm : Nat} {i : Nat} {d : Nat → Int} {room : Bool}
theorem SS.reader {j : Nat} (h : SS s w bt bm i d room w') (k : St (w.heap.size + 1 + 1) s w' j w'') : SS s w bt bm j d room w'' := by
  have l1 := h.lt1
  have l2 := h.lt2
  exact ⟨l1, l2, grown_new h.gr k.g (by omega), blk_grown k.g h.db (some_ne (by omega)), blk_grown k.g h.er (some_ne (by omega)), k.r, blk_grown k.g h.br (some_ne (by omega)), blk_grown k.g h.bt (some_ne (by omega)), blk_grown k.g h.bm (some_ne (by omega))⟩
theorem SS.grow (h : SS s w bt bm i d room w') (k : w'.grownBy w'' none) : SS s w bt bm i d room w'' := by
  have l1 := h.lt1
  have l2 := h.lt2
  exact ⟨l1, l2, grown_trans h.gr k, blk_grown k h.db (by simp), blk_grown k h.er (by simp), blk_grown k h.r (by simp), blk_grown k h.br (by simp), blk_grown k h.bt (by simp), blk_grown k h.bm (by simp)⟩
theorem SS.setRoom (h : SS s w bt bm i d room w') (r : Bool) : SS s w bt bm i d r (w'.setCell ⟨bm, 0, none⟩ (.bool r)) := by
  have l1 := h.lt1
  have l2 := h.lt2
  exact ⟨l1, l2, grown_setNew h.gr (by simp only; omega) _, (Below.heap_setCell _ _ _ _ (by simp only; omega)).trans h.db, (Below.heap_setCell _ _ _ _ (by simp only; omega)).trans h.er, h.r.setOther (by simp only; omega) _, (Below.heap_setCell _ _ _ _ (by simp only; omega)).trans h.br, (Below.heap_setCell _ _ _ _ (by simp only; omega)).trans h.bt, by simp [World.setCell, Array.getElem?_modify, h.bm]⟩
theorem SS.setD (h : SS s w bt bm i d room w') {k : Nat} (hk : k < 8) (v : Int) : SS s w bt bm i (setD d k v) room (w'.setCell ⟨w.heap.size, k, none⟩ (.int .i64 v)) := by
  have l1 := h.lt1
  have l2 := h.lt2
  exact ⟨l1, l2, grown_setNew h.gr (Nat.le_refl _) _, h.db.set hk v, (Below.heap_setCell _ _ _ _ (by simp only; omega)).trans h.er, h.r.setOther (by simp only; omega) _, (Below.heap_setCell _ _ _ _ (by simp only; omega)).trans h.br, (Below.heap_setCell _ _ _ _ (by simp only; omega)).trans h.bt, (Below.heap_setCell _ _ _ _ (by simp only; omega)).trans h.bm⟩
theorem St.grown (k : St (w.heap.size + 1 + 1) s w' i w'') : w'.grownBy w'' (some (w.heap.size + 1 + 1)) := k.g

theorem SS.drew (h : SS s w bt bm i d room w') : SS s w bt bm i d room w'.drew := h.grow ⟨rfl, rfl, rfl, Nat.le_refl _, fun _ _ _ => rfl⟩
theorem isOne_in {of : ByteArray} (hz : ixb of 0 < 0) (h : isOne s i of = true) : i < s.size ∧ nx s i ≠ 0 := by
  simp [isOne] at h
  refine ⟨h.1, fun e => ?_⟩
  rw [e] at h
  omega
theorem part_ge {k : Nat} {v : Option Nat} (h : part s i = some (v, k)) : i ≤ k := by
  unfold part at h
  split at h
  · split at h
    · cases h
    · split at h
      · cases h
      · simp at h; omega
  · simp at h; omega
def uptr (w : World) (base : Nat) (j : Nat) : Value := .pointer (some ⟨w.heap.size, base + j, none⟩)
def Fl (w : World) (base nf fb : Nat) (w' : World) : Prop := w'.heap[fb]? = some (.cells ((List.range nf).map (uptr w base)).toArray 62 (0, 0))
theorem Fl.at {base nf fb j : Nat} (h : Fl w base nf fb w') (hj : j < nf) : w'.cell? ⟨fb, j, none⟩ = some (.pointer (some ⟨w.heap.size, base + j, none⟩)) := by
  rw [blk_cell h j]
  simp [uptr, hj]
/-- What the units end in. -/
def UP (s : ByteArray) (w : World) (bt bm base nf fb : Nat) (R : Option (Un × Nat)) (e : Ending) (w'' : World) : Prop :=
  match R with
  | some (u', k) => e = .returned (.tuple #[.int .i64 u'.had, .int .i64 u'.part]) ∧ SS s w bt bm k u'.d u'.room w''
  | none => e = .panicked eform ∧ ∃ d' room' i' w1, SS s w bt bm i' d' room' w1 ∧ w1.grownBy w'' (some (w.heap.size + 1 + 1))
structure UL (s ls all : ByteArray) (bt bm nf base fb : Nat) (w : World) (R : Option (Un × Nat)) (i : Nat) (u : Un) (f : Nat) (wr : World) : Prop where
  ss : SS s w bt bm i u.d u.room wr
  fl : Fl w base nf fb wr
  eq : R = unitsF s ls all (nf == 3) base f i u
  le : i ≤ s.size
  fuel : s.size < f + i
  part : (nf == 3) = false → u.part = -1
  had : -1 ≤ u.had
theorem UL.stop {ls all : ByteArray} {nf base fb f : Nat} {R : Option (Un × Nat)} {u : Un} (h : UL s ls all bt bm nf base fb w R i u f w') (hc : (dg s i && decide (u.part < 0)) = false) : R = some (u, i) := by
  obtain ⟨g, rfl⟩ : ∃ g, f = g + 1 := ⟨f - 1, by have := h.fuel; have := h.le; omega⟩
  rw [h.eq]; unfold unitsF; rw [if_neg (by rw [hc]; simp)]
theorem UL.unf {ls all : ByteArray} {nf base fb f : Nat} {R : Option (Un × Nat)} {u : Un} (h : UL s ls all bt bm nf base fb w R i u f w') (hd : dg s i = true) (hp : decide (u.part < 0) = true) : 0 < f ∧ R =
      match fracF s (nf == 3) (countFrom s (s.size + 1) i 0 true).2 with
      | none => none
      | some (p, k) =>
        if isOne s k all then
          if ixb ls (up (nx s k)) ≤ u.had then none
          else unitsF s ls all (nf == 3) base (f - 1) (k + 1) ⟨ixb ls (up (nx s k)), p, u.room && (countFrom s (s.size + 1) i 0 true).1.2, setD u.d (base + (ixb ls (up (nx s k))).toNat) (countFrom s (s.size + 1) i 0 true).1.1⟩
        else none := by
  obtain ⟨g, rfl⟩ : ∃ g, f = g + 1 := ⟨f - 1, by have := h.fuel; have := h.le; omega⟩
  refine ⟨by omega, ?_⟩
  rw [h.eq]
  conv => lhs; unfold unitsF
  rw [if_pos (by rw [hd, hp]; rfl)]
  rfl
set_option maxHeartbeats 1000000 in
theorem units_any (ls lo : ByteArray) (nf base fb : Nat) (u : Un) (hss : SS s w bt bm i u.d u.room w') (hs : s.size ≤ 140737488351232) (hi : i ≤ s.size) (hhad : u.had = -1) (hpart : u.part = -1)
    (hf : Fl w base nf fb w') (hfb : bm < fb) (hnf : nf = ls.size) (hbase : base + nf ≤ 8)
    (hlo : ∀ w, Calls Tryz.prog 28 #[.string ls] w fun e w' => e = .returned (.string lo) ∧ w.grownBy w' none) (hl0 : 0 < ls.size) (hl4 : ls.size ≤ 4) (hl5 : lo.size ≤ 4) (hz : ixb (ls ++ lo) 0 < 0) :
    Calls Tryz.prog 25 #[.string ls, .slice (some ⟨fb, 0, none⟩) nf nf, .pointer (some ⟨w.heap.size + 1 + 1 + 1, 0, none⟩), .pointer (some ⟨bt, 0, none⟩), .pointer (some ⟨bm, 0, none⟩)] w'
      (UP s w bt bm base nf fb (unitsF s ls (ls ++ lo) (nf == 3) base (s.size + 1) i u)) := by
  subst hnf
  have hlen : ¬ 9223372036854775807 < ls.size + lo.size := by omega
  obtain ⟨R, HR⟩ : ∃ R, R = unitsF s ls (ls ++ lo) (ls.size == 3) base (s.size + 1) i u := ⟨_, rfl⟩
  rw [← HR]
  have L0 : UL s ls (ls ++ lo) bt bm ls.size base fb w R i u (s.size + 1) w' := ⟨hss, hf, HR, hi, by omega, fun _ => hpart, by omega⟩
  have HLO := Lib.hid hlo
  have lt1 := hss.lt1
  have lt2 := hss.lt2
  clear HR hss hf hlo
  go_enter Tryz.func25, Tryz.ntmps25
  go_wp2_with fail
  go_loopg [9, 10] (s.size - i) (fun m v9 v10 wr => ∃ (i : Nat) (u : Un) (f : Nat), m = s.size - i ∧ v9 = .int .i64 u.had ∧ v10 = .int .i64 u.part ∧ UL s ls (ls ++ lo) bt bm ls.size base fb w R i u f wr)
  case atStart => exact ⟨i, u, s.size + 1, rfl, by rw [hhad], by rw [hpart], L0⟩
  case round =>
    clear L0 hi hhad hpart
    obtain ⟨i, u, f, rfl, rfl, rfl, L⟩ := hrel
    have HL := Lib.hid L
    have b0 := blk_cell L.ss.br 0
    have t0 := blk_cell L.ss.bt 0
    simp only [List.getElem?_toArray, List.getElem?_cons_zero] at b0 t0
    clear L
    cases hd : dg s i with
    | false =>
      have HR := Lib.hid (HL.out.stop (by rw [hd]; rfl))
      go_wp2_with fail
      refine (digit_any _ s i wr HL.out.ss.r hs HL.out.le).mono ?_
      rintro e w1 ⟨rfl, n1, rfl⟩
      go_wp2_with fail
      go_ret2
      rw [HR.out]
      exact ⟨rfl, HL.out.ss.grow (grown_drewN (grown_refl _ _) n1)⟩
    | true =>
      cases hp : decide (u.part < 0) with
      | false =>
        have HR := Lib.hid (HL.out.stop (by rw [hd, hp]; rfl))
        go_wp2_with fail
        refine (digit_any _ s i wr HL.out.ss.r hs HL.out.le).mono ?_
        rintro e w1 ⟨rfl, n1, rfl⟩
        go_wp2_with fail
        go_ret2
        rw [HR.out]
        exact ⟨rfl, HL.out.ss.grow (grown_drewN (grown_refl _ _) n1)⟩
      | true =>
        go_wp2_with fail
        refine (digit_any _ s i wr HL.out.ss.r hs HL.out.le).mono ?_
        rintro e w1 ⟨rfl, n1, rfl⟩
        go_wp2_with fail
        refine (count_yes hd (HL.out.ss.r.drewN n1) hs).mono ?_
        rintro e w2 ⟨rfl, s2⟩
        have hkin := (countFrom_in (s := s) (f := s.size + 1) (i := i) (n := 0) (ok := true) HL.out.le (by omega) (by omega))
        have L2 := (HL.out.ss.grow (w'' := wr.drewN n1) (grown_drewN (grown_refl _ _) n1)).reader s2
        have F2 : Fl w base ls.size fb w2 := blk_grown s2.g (show Fl w base ls.size fb (wr.drewN n1) from HL.out.fl) (some_ne (by omega))
        have b2 := blk_cell L2.bm 0
        have b3 := blk_free L2.bm 0
        simp only [List.getElem?_toArray, List.getElem?_cons_zero] at b2
        have HU := Lib.hid (HL.out.unf hd hp)
        generalize countFrom s (s.size + 1) i 0 true = C at *
        obtain ⟨⟨n, ok⟩, k⟩ := C
        simp only at hkin L2 HU
        clear s2 b0 t0
        cases hroom : u.room with
        | true =>
          have L3 := L2.setRoom ok
          have F3 : Fl w base ls.size fb (w2.setCell ⟨bm, 0, none⟩ (.bool ok)) := (Below.heap_setCell _ _ _ _ (by simp only; omega)).trans F2
          rw [hroom] at b2 HU
          have B3 := blk_cell L3.br 0
          simp only [List.getElem?_toArray, List.getElem?_cons_zero] at B3
          cases h3 : ((ls.size : Int) == 3) with
          | true =>
            have h3n : (ls.size == 3) = true := by simp at h3 ⊢; omega
            rw [h3n] at HU
            cases hpt : part s k with
            | none =>
              have HR : Hid (R = none) := Lib.hid (by rw [HU.out.2]; simp [fracF, hpt])
              go_wp2_with fail
              refine (part_no hpt L3.r hs hkin.1).mono ?_
              rintro e w4 ⟨rfl, hg⟩
              go_wp2_with fail
              rw [HR.out]
              exact ⟨rfl, rfl, _, _, _, _, L3, hg⟩
            | some v =>
              obtain ⟨pt, k2⟩ := v
              have hfr : fracF s true k = some (partN pt, k2) := by simp [fracF, hpt]
              have hk2 := part_in hpt hkin.1
              have hkk := part_ge hpt
              go_wp2_with fail
              refine (part_yes hpt L3.r hs hkin.1).mono ?_
              rintro e W4 ⟨rfl, s4⟩
              have L4 := L3.reader s4
              have F4 : Fl w base ls.size fb W4 := blk_grown s4.g F3 (some_ne (by omega))
              have B4 := blk_cell L4.br 0
              simp only [List.getElem?_toArray, List.getElem?_cons_zero] at B4
              clear L3 F3 B3 L2 F2 b2 b3 s4
              go_wp2_with fail
              cases hone : isOne s k2 (ls ++ lo) with
              | false =>
                have HR : Hid (R = none) := Lib.hid (by rw [HU.out.2]; simp [hfr, hone])
                have e0 : bits .andNot .u8 (0 : Int) 32 = 0 := by decide
                have HI : Hid (∀ w : World, Calls Tryz.prog 29 #[.string ls, .int .u8 0] w fun e w' => e = .returned (.int .i64 (ixb ls 0)) ∧ w' = w) := Lib.hid (fun w => index_any ls 0 w)
                go_region_held3 (fun w' => w'.cell? ⟨w.heap.size + 1 + 1 + 1, 0, none⟩ = some (.pointer (some ⟨w.heap.size + 1 + 1, 0, none⟩))) (first | assumption | exact blk_cell (SS.br L4.drew) 0 | exact blk_cell (SS.br (by assumption)) 0)
                  (first
                    | (go_at_call 28; refine (HLO.out _).mono ?_; rintro e w' ⟨rfl, hg⟩; have L5 := L4.drew.grow hg; have F5 : Fl w base ls.size fb _ := blk_grown hg (show Fl w base ls.size fb W4.drew from F4) (by simp))
                    | (go_at_call 17; refine (one_no _ s _ k2 _ L5.r hs hk2 hone).mono ?_; rintro e w' ⟨rfl, n6, rfl⟩; have L6 := L5.grow (grown_drewN (grown_refl _ _) n6)))
                have B6 := blk_cell L6.br 0
                simp only [List.getElem?_toArray, List.getElem?_cons_zero] at B6
                go_wp2_with (first | (go_at_call 29; refine (HI.out _).mono ?_; rintro e w' ⟨rfl, hw⟩; rw [hw]; clear hw) | (go_at_call 23; refine (wrong_any _ _).mono ?_; rintro e w' ⟨rfl, hw⟩; rw [hw]; clear hw))
                rw [HR.out]
                exact ⟨rfl, rfl, _, _, _, _, L6, grown_refl _ _⟩
              | true =>
                have hc := isOne_in hz hone
                have hc0 : ((nx s k2 : Int) == 0) = false := by simp; omega
                have eu : bits .andNot .u8 (nx s k2 : Int) 32 = (up (nx s k2) : Int) := u8_andNot_nat _ 32 (by have := nx_le s k2; omega) (by omega)
                have HI := Lib.hid (fun w => index_any ls (up (nx s k2)) w)
                have hk3 : k2 + 1 ≤ s.size := hc.1
                obtain ⟨x, hx⟩ : ∃ x, ixb ls (up (nx s k2)) = x := ⟨_, rfl⟩
                have hxl : x < ls.size := by rcases ixb_lt ls (up (nx s k2)) with h | h <;> omega
                rw [hx] at HI
                cases hle : decide (x ≤ u.had) with
                | true =>
                  have HR : Hid (R = none) := Lib.hid (by rw [HU.out.2]; simp at hle; simp [hfr, hone, hx, hle])
                  go_region_held3 (fun w' => w'.cell? ⟨w.heap.size + 1 + 1 + 1, 0, none⟩ = some (.pointer (some ⟨w.heap.size + 1 + 1, 0, none⟩))) (first | assumption | exact blk_cell (SS.br L4.drew) 0 | exact blk_cell (SS.br (by assumption)) 0)
                    (first
                      | (go_at_call 28; refine (HLO.out _).mono ?_; rintro e w' ⟨rfl, hg⟩; have L5 := L4.drew.grow hg; have F5 : Fl w base ls.size fb _ := blk_grown hg (show Fl w base ls.size fb W4.drew from F4) (by simp))
                      | (go_at_call 17; refine (one_yes _ s _ k2 _ L5.r hs hone).mono ?_; rintro e w' ⟨rfl, s6⟩; have L6 := L5.reader s6))
                  have B6 := blk_cell L6.br 0
                  simp only [List.getElem?_toArray, List.getElem?_cons_zero] at B6
                  go_wp2_with (first | (go_at_call 29; refine (HI.out _).mono ?_; rintro e w' ⟨rfl, hw⟩; rw [hw]; clear hw) | (go_at_call 23; refine (wrong_any _ _).mono ?_; rintro e w' ⟨rfl, hw⟩; rw [hw]; clear hw))
                  rw [HR.out]
                  exact ⟨rfl, rfl, _, _, _, _, L6, grown_refl _ _⟩
                | false =>
                  have hle' : ¬ x ≤ u.had := of_decide_eq_false hle
                  have HR := Lib.hid (HU.out.2.trans (show _ = unitsF s ls (ls ++ lo) true base (f - 1) (k2 + 1) ⟨x, (partN pt), true && ok, setD u.d (base + x.toNat) n⟩ by simp [hfr, hone, hx, hle']))
                  have hx0 : 0 ≤ x := by have := HL.out.had; omega
                  obtain ⟨y, rfl⟩ := Int.eq_ofNat_of_zero_le hx0
                  have yl : y < ls.size := by omega
                  have yli : (y : Int) < (ls.size : Int) := hxl
                  go_region_held3 (fun w' => w'.cell? ⟨w.heap.size + 1 + 1 + 1, 0, none⟩ = some (.pointer (some ⟨w.heap.size + 1 + 1, 0, none⟩))) (first | assumption | exact blk_cell (SS.br L4.drew) 0 | exact blk_cell (SS.br (by assumption)) 0)
                    (first
                      | (go_at_call 28; refine (HLO.out _).mono ?_; rintro e w' ⟨rfl, hg⟩; have L5 := L4.drew.grow hg; have F5 : Fl w base ls.size fb _ := blk_grown hg (show Fl w base ls.size fb W4.drew from F4) (by simp))
                      | (go_at_call 17; refine (one_yes _ s _ k2 _ L5.r hs hone).mono ?_; rintro e w' ⟨rfl, s6⟩; have L6 := L5.reader s6; have F6 : Fl w base ls.size fb _ := blk_grown s6.g F5 (some_ne (by omega))))
                  have B6 := F6.at yl
                  have D6 := (blk_cell L6.db (base + y)).trans (dcells_at _ (base + y) (by omega))
                  have Z6 := blk_free L6.db (base + y)
                  go_wp2_with (go_at_call 29; refine (HI.out _).mono ?_; rintro e w' ⟨rfl, hw⟩; rw [hw]; clear hw)
                  go_roundg (s.size - (k2 + 1))
                  case rel => exact ⟨k2 + 1, ⟨(y : Int), (partN pt), true && ok, setD u.d (base + y) n⟩, f - 1, rfl, rfl, by first | rfl | rw [hpm], ⟨L6.setD (by omega) n, (Below.heap_setCell _ _ _ _ (by simp only; omega)).trans F6, by rw [h3n]; exact HR.out, hk3, by have := HL.out.fuel; omega, by first | (intro _; rfl) | (intro h; rw [h3n] at h; cases h), by simp only; omega⟩⟩
                  case measure => omega
          | false =>
            have h3n : (ls.size == 3) = false := by simp at h3 ⊢; omega
            rw [h3n] at HU
            have hpm : u.part = -1 := HL.out.part h3n
            have hfr : fracF s false k = some (-1, k) := rfl
            have hk2 := hkin.1
            have L4 := L3
            have F4 := F3
            have B4 := B3
            clear L3 F3 B3
            go_wp2_with fail
            generalize (w2.setCell ⟨bm, 0, none⟩ (.bool ok)) = W4 at *
            clear L2 F2 b2 b3
            cases hone : isOne s k (ls ++ lo) with
            | false =>
              have HR : Hid (R = none) := Lib.hid (by rw [HU.out.2]; simp [hfr, hone])
              have e0 : bits .andNot .u8 (0 : Int) 32 = 0 := by decide
              have HI : Hid (∀ w : World, Calls Tryz.prog 29 #[.string ls, .int .u8 0] w fun e w' => e = .returned (.int .i64 (ixb ls 0)) ∧ w' = w) := Lib.hid (fun w => index_any ls 0 w)
              go_region_held3 (fun w' => w'.cell? ⟨w.heap.size + 1 + 1 + 1, 0, none⟩ = some (.pointer (some ⟨w.heap.size + 1 + 1, 0, none⟩))) (first | assumption | exact blk_cell (SS.br L4.drew) 0 | exact blk_cell (SS.br (by assumption)) 0)
                (first
                  | (go_at_call 28; refine (HLO.out _).mono ?_; rintro e w' ⟨rfl, hg⟩; have L5 := L4.drew.grow hg; have F5 : Fl w base ls.size fb _ := blk_grown hg (show Fl w base ls.size fb W4.drew from F4) (by simp))
                  | (go_at_call 17; refine (one_no _ s _ k _ L5.r hs hk2 hone).mono ?_; rintro e w' ⟨rfl, n6, rfl⟩; have L6 := L5.grow (grown_drewN (grown_refl _ _) n6)))
              have B6 := blk_cell L6.br 0
              simp only [List.getElem?_toArray, List.getElem?_cons_zero] at B6
              go_wp2_with (first | (go_at_call 29; refine (HI.out _).mono ?_; rintro e w' ⟨rfl, hw⟩; rw [hw]; clear hw) | (go_at_call 23; refine (wrong_any _ _).mono ?_; rintro e w' ⟨rfl, hw⟩; rw [hw]; clear hw))
              rw [HR.out]
              exact ⟨rfl, rfl, _, _, _, _, L6, grown_refl _ _⟩
            | true =>
              have hc := isOne_in hz hone
              have hc0 : ((nx s k : Int) == 0) = false := by simp; omega
              have eu : bits .andNot .u8 (nx s k : Int) 32 = (up (nx s k) : Int) := u8_andNot_nat _ 32 (by have := nx_le s k; omega) (by omega)
              have HI := Lib.hid (fun w => index_any ls (up (nx s k)) w)
              have hk3 : k + 1 ≤ s.size := hc.1
              obtain ⟨x, hx⟩ : ∃ x, ixb ls (up (nx s k)) = x := ⟨_, rfl⟩
              have hxl : x < ls.size := by rcases ixb_lt ls (up (nx s k)) with h | h <;> omega
              rw [hx] at HI
              cases hle : decide (x ≤ u.had) with
              | true =>
                have HR : Hid (R = none) := Lib.hid (by rw [HU.out.2]; simp at hle; simp [hfr, hone, hx, hle])
                go_region_held3 (fun w' => w'.cell? ⟨w.heap.size + 1 + 1 + 1, 0, none⟩ = some (.pointer (some ⟨w.heap.size + 1 + 1, 0, none⟩))) (first | assumption | exact blk_cell (SS.br L4.drew) 0 | exact blk_cell (SS.br (by assumption)) 0)
                  (first
                    | (go_at_call 28; refine (HLO.out _).mono ?_; rintro e w' ⟨rfl, hg⟩; have L5 := L4.drew.grow hg; have F5 : Fl w base ls.size fb _ := blk_grown hg (show Fl w base ls.size fb W4.drew from F4) (by simp))
                    | (go_at_call 17; refine (one_yes _ s _ k _ L5.r hs hone).mono ?_; rintro e w' ⟨rfl, s6⟩; have L6 := L5.reader s6))
                have B6 := blk_cell L6.br 0
                simp only [List.getElem?_toArray, List.getElem?_cons_zero] at B6
                go_wp2_with (first | (go_at_call 29; refine (HI.out _).mono ?_; rintro e w' ⟨rfl, hw⟩; rw [hw]; clear hw) | (go_at_call 23; refine (wrong_any _ _).mono ?_; rintro e w' ⟨rfl, hw⟩; rw [hw]; clear hw))
                rw [HR.out]
                exact ⟨rfl, rfl, _, _, _, _, L6, grown_refl _ _⟩
              | false =>
                have hle' : ¬ x ≤ u.had := of_decide_eq_false hle
                have HR := Lib.hid (HU.out.2.trans (show _ = unitsF s ls (ls ++ lo) false base (f - 1) (k + 1) ⟨x, (-1), true && ok, setD u.d (base + x.toNat) n⟩ by simp [hfr, hone, hx, hle']))
                have hx0 : 0 ≤ x := by have := HL.out.had; omega
                obtain ⟨y, rfl⟩ := Int.eq_ofNat_of_zero_le hx0
                have yl : y < ls.size := by omega
                have yli : (y : Int) < (ls.size : Int) := hxl
                go_region_held3 (fun w' => w'.cell? ⟨w.heap.size + 1 + 1 + 1, 0, none⟩ = some (.pointer (some ⟨w.heap.size + 1 + 1, 0, none⟩))) (first | assumption | exact blk_cell (SS.br L4.drew) 0 | exact blk_cell (SS.br (by assumption)) 0)
                  (first
                    | (go_at_call 28; refine (HLO.out _).mono ?_; rintro e w' ⟨rfl, hg⟩; have L5 := L4.drew.grow hg; have F5 : Fl w base ls.size fb _ := blk_grown hg (show Fl w base ls.size fb W4.drew from F4) (by simp))
                    | (go_at_call 17; refine (one_yes _ s _ k _ L5.r hs hone).mono ?_; rintro e w' ⟨rfl, s6⟩; have L6 := L5.reader s6; have F6 : Fl w base ls.size fb _ := blk_grown s6.g F5 (some_ne (by omega))))
                have B6 := F6.at yl
                have D6 := (blk_cell L6.db (base + y)).trans (dcells_at _ (base + y) (by omega))
                have Z6 := blk_free L6.db (base + y)
                go_wp2_with (go_at_call 29; refine (HI.out _).mono ?_; rintro e w' ⟨rfl, hw⟩; rw [hw]; clear hw)
                go_roundg (s.size - (k + 1))
                case rel => exact ⟨k + 1, ⟨(y : Int), (-1), true && ok, setD u.d (base + y) n⟩, f - 1, rfl, rfl, by first | rfl | rw [hpm], ⟨L6.setD (by omega) n, (Below.heap_setCell _ _ _ _ (by simp only; omega)).trans F6, by rw [h3n]; exact HR.out, hk3, by have := HL.out.fuel; omega, by first | (intro _; rfl) | (intro h; rw [h3n] at h; cases h), by simp only; omega⟩⟩
                case measure => omega
        | false =>
          have L3 := L2.setRoom false
          have F3 : Fl w base ls.size fb (w2.setCell ⟨bm, 0, none⟩ (.bool false)) := (Below.heap_setCell _ _ _ _ (by simp only; omega)).trans F2
          rw [hroom] at b2 HU
          have B3 := blk_cell L3.br 0
          simp only [List.getElem?_toArray, List.getElem?_cons_zero] at B3
          cases h3 : ((ls.size : Int) == 3) with
          | true =>
            have h3n : (ls.size == 3) = true := by simp at h3 ⊢; omega
            rw [h3n] at HU
            cases hpt : part s k with
            | none =>
              have HR : Hid (R = none) := Lib.hid (by rw [HU.out.2]; simp [fracF, hpt])
              go_wp2_with fail
              refine (part_no hpt L3.r hs hkin.1).mono ?_
              rintro e w4 ⟨rfl, hg⟩
              go_wp2_with fail
              rw [HR.out]
              exact ⟨rfl, rfl, _, _, _, _, L3, hg⟩
            | some v =>
              obtain ⟨pt, k2⟩ := v
              have hfr : fracF s true k = some (partN pt, k2) := by simp [fracF, hpt]
              have hk2 := part_in hpt hkin.1
              have hkk := part_ge hpt
              go_wp2_with fail
              refine (part_yes hpt L3.r hs hkin.1).mono ?_
              rintro e W4 ⟨rfl, s4⟩
              have L4 := L3.reader s4
              have F4 : Fl w base ls.size fb W4 := blk_grown s4.g F3 (some_ne (by omega))
              have B4 := blk_cell L4.br 0
              simp only [List.getElem?_toArray, List.getElem?_cons_zero] at B4
              clear L3 F3 B3 L2 F2 b2 b3 s4
              go_wp2_with fail
              cases hone : isOne s k2 (ls ++ lo) with
              | false =>
                have HR : Hid (R = none) := Lib.hid (by rw [HU.out.2]; simp [hfr, hone])
                have e0 : bits .andNot .u8 (0 : Int) 32 = 0 := by decide
                have HI : Hid (∀ w : World, Calls Tryz.prog 29 #[.string ls, .int .u8 0] w fun e w' => e = .returned (.int .i64 (ixb ls 0)) ∧ w' = w) := Lib.hid (fun w => index_any ls 0 w)
                go_region_held3 (fun w' => w'.cell? ⟨w.heap.size + 1 + 1 + 1, 0, none⟩ = some (.pointer (some ⟨w.heap.size + 1 + 1, 0, none⟩))) (first | assumption | exact blk_cell (SS.br L4.drew) 0 | exact blk_cell (SS.br (by assumption)) 0)
                  (first
                    | (go_at_call 28; refine (HLO.out _).mono ?_; rintro e w' ⟨rfl, hg⟩; have L5 := L4.drew.grow hg; have F5 : Fl w base ls.size fb _ := blk_grown hg (show Fl w base ls.size fb W4.drew from F4) (by simp))
                    | (go_at_call 17; refine (one_no _ s _ k2 _ L5.r hs hk2 hone).mono ?_; rintro e w' ⟨rfl, n6, rfl⟩; have L6 := L5.grow (grown_drewN (grown_refl _ _) n6)))
                have B6 := blk_cell L6.br 0
                simp only [List.getElem?_toArray, List.getElem?_cons_zero] at B6
                go_wp2_with (first | (go_at_call 29; refine (HI.out _).mono ?_; rintro e w' ⟨rfl, hw⟩; rw [hw]; clear hw) | (go_at_call 23; refine (wrong_any _ _).mono ?_; rintro e w' ⟨rfl, hw⟩; rw [hw]; clear hw))
                rw [HR.out]
                exact ⟨rfl, rfl, _, _, _, _, L6, grown_refl _ _⟩
              | true =>
                have hc := isOne_in hz hone
                have hc0 : ((nx s k2 : Int) == 0) = false := by simp; omega
                have eu : bits .andNot .u8 (nx s k2 : Int) 32 = (up (nx s k2) : Int) := u8_andNot_nat _ 32 (by have := nx_le s k2; omega) (by omega)
                have HI := Lib.hid (fun w => index_any ls (up (nx s k2)) w)
                have hk3 : k2 + 1 ≤ s.size := hc.1
                obtain ⟨x, hx⟩ : ∃ x, ixb ls (up (nx s k2)) = x := ⟨_, rfl⟩
                have hxl : x < ls.size := by rcases ixb_lt ls (up (nx s k2)) with h | h <;> omega
                rw [hx] at HI
                cases hle : decide (x ≤ u.had) with
                | true =>
                  have HR : Hid (R = none) := Lib.hid (by rw [HU.out.2]; simp at hle; simp [hfr, hone, hx, hle])
                  go_region_held3 (fun w' => w'.cell? ⟨w.heap.size + 1 + 1 + 1, 0, none⟩ = some (.pointer (some ⟨w.heap.size + 1 + 1, 0, none⟩))) (first | assumption | exact blk_cell (SS.br L4.drew) 0 | exact blk_cell (SS.br (by assumption)) 0)
                    (first
                      | (go_at_call 28; refine (HLO.out _).mono ?_; rintro e w' ⟨rfl, hg⟩; have L5 := L4.drew.grow hg; have F5 : Fl w base ls.size fb _ := blk_grown hg (show Fl w base ls.size fb W4.drew from F4) (by simp))
                      | (go_at_call 17; refine (one_yes _ s _ k2 _ L5.r hs hone).mono ?_; rintro e w' ⟨rfl, s6⟩; have L6 := L5.reader s6))
                  have B6 := blk_cell L6.br 0
                  simp only [List.getElem?_toArray, List.getElem?_cons_zero] at B6
                  go_wp2_with (first | (go_at_call 29; refine (HI.out _).mono ?_; rintro e w' ⟨rfl, hw⟩; rw [hw]; clear hw) | (go_at_call 23; refine (wrong_any _ _).mono ?_; rintro e w' ⟨rfl, hw⟩; rw [hw]; clear hw))
                  rw [HR.out]
                  exact ⟨rfl, rfl, _, _, _, _, L6, grown_refl _ _⟩
                | false =>
                  have hle' : ¬ x ≤ u.had := of_decide_eq_false hle
                  have HR := Lib.hid (HU.out.2.trans (show _ = unitsF s ls (ls ++ lo) true base (f - 1) (k2 + 1) ⟨x, (partN pt), false && ok, setD u.d (base + x.toNat) n⟩ by simp [hfr, hone, hx, hle']))
                  have hx0 : 0 ≤ x := by have := HL.out.had; omega
                  obtain ⟨y, rfl⟩ := Int.eq_ofNat_of_zero_le hx0
                  have yl : y < ls.size := by omega
                  have yli : (y : Int) < (ls.size : Int) := hxl
                  go_region_held3 (fun w' => w'.cell? ⟨w.heap.size + 1 + 1 + 1, 0, none⟩ = some (.pointer (some ⟨w.heap.size + 1 + 1, 0, none⟩))) (first | assumption | exact blk_cell (SS.br L4.drew) 0 | exact blk_cell (SS.br (by assumption)) 0)
                    (first
                      | (go_at_call 28; refine (HLO.out _).mono ?_; rintro e w' ⟨rfl, hg⟩; have L5 := L4.drew.grow hg; have F5 : Fl w base ls.size fb _ := blk_grown hg (show Fl w base ls.size fb W4.drew from F4) (by simp))
                      | (go_at_call 17; refine (one_yes _ s _ k2 _ L5.r hs hone).mono ?_; rintro e w' ⟨rfl, s6⟩; have L6 := L5.reader s6; have F6 : Fl w base ls.size fb _ := blk_grown s6.g F5 (some_ne (by omega))))
                  have B6 := F6.at yl
                  have D6 := (blk_cell L6.db (base + y)).trans (dcells_at _ (base + y) (by omega))
                  have Z6 := blk_free L6.db (base + y)
                  go_wp2_with (go_at_call 29; refine (HI.out _).mono ?_; rintro e w' ⟨rfl, hw⟩; rw [hw]; clear hw)
                  go_roundg (s.size - (k2 + 1))
                  case rel => exact ⟨k2 + 1, ⟨(y : Int), (partN pt), false && ok, setD u.d (base + y) n⟩, f - 1, rfl, rfl, by first | rfl | rw [hpm], ⟨L6.setD (by omega) n, (Below.heap_setCell _ _ _ _ (by simp only; omega)).trans F6, by rw [h3n]; exact HR.out, hk3, by have := HL.out.fuel; omega, by first | (intro _; rfl) | (intro h; rw [h3n] at h; cases h), by simp only; omega⟩⟩
                  case measure => omega
          | false =>
            have h3n : (ls.size == 3) = false := by simp at h3 ⊢; omega
            rw [h3n] at HU
            have hpm : u.part = -1 := HL.out.part h3n
            have hfr : fracF s false k = some (-1, k) := rfl
            have hk2 := hkin.1
            have L4 := L3
            have F4 := F3
            have B4 := B3
            clear L3 F3 B3
            go_wp2_with fail
            generalize (w2.setCell ⟨bm, 0, none⟩ (.bool false)) = W4 at *
            clear L2 F2 b2 b3
            cases hone : isOne s k (ls ++ lo) with
            | false =>
              have HR : Hid (R = none) := Lib.hid (by rw [HU.out.2]; simp [hfr, hone])
              have e0 : bits .andNot .u8 (0 : Int) 32 = 0 := by decide
              have HI : Hid (∀ w : World, Calls Tryz.prog 29 #[.string ls, .int .u8 0] w fun e w' => e = .returned (.int .i64 (ixb ls 0)) ∧ w' = w) := Lib.hid (fun w => index_any ls 0 w)
              go_region_held3 (fun w' => w'.cell? ⟨w.heap.size + 1 + 1 + 1, 0, none⟩ = some (.pointer (some ⟨w.heap.size + 1 + 1, 0, none⟩))) (first | assumption | exact blk_cell (SS.br L4.drew) 0 | exact blk_cell (SS.br (by assumption)) 0)
                (first
                  | (go_at_call 28; refine (HLO.out _).mono ?_; rintro e w' ⟨rfl, hg⟩; have L5 := L4.drew.grow hg; have F5 : Fl w base ls.size fb _ := blk_grown hg (show Fl w base ls.size fb W4.drew from F4) (by simp))
                  | (go_at_call 17; refine (one_no _ s _ k _ L5.r hs hk2 hone).mono ?_; rintro e w' ⟨rfl, n6, rfl⟩; have L6 := L5.grow (grown_drewN (grown_refl _ _) n6)))
              have B6 := blk_cell L6.br 0
              simp only [List.getElem?_toArray, List.getElem?_cons_zero] at B6
              go_wp2_with (first | (go_at_call 29; refine (HI.out _).mono ?_; rintro e w' ⟨rfl, hw⟩; rw [hw]; clear hw) | (go_at_call 23; refine (wrong_any _ _).mono ?_; rintro e w' ⟨rfl, hw⟩; rw [hw]; clear hw))
              rw [HR.out]
              exact ⟨rfl, rfl, _, _, _, _, L6, grown_refl _ _⟩
            | true =>
              have hc := isOne_in hz hone
              have hc0 : ((nx s k : Int) == 0) = false := by simp; omega
              have eu : bits .andNot .u8 (nx s k : Int) 32 = (up (nx s k) : Int) := u8_andNot_nat _ 32 (by have := nx_le s k; omega) (by omega)
              have HI := Lib.hid (fun w => index_any ls (up (nx s k)) w)
              have hk3 : k + 1 ≤ s.size := hc.1
              obtain ⟨x, hx⟩ : ∃ x, ixb ls (up (nx s k)) = x := ⟨_, rfl⟩
              have hxl : x < ls.size := by rcases ixb_lt ls (up (nx s k)) with h | h <;> omega
              rw [hx] at HI
              cases hle : decide (x ≤ u.had) with
              | true =>
                have HR : Hid (R = none) := Lib.hid (by rw [HU.out.2]; simp at hle; simp [hfr, hone, hx, hle])
                go_region_held3 (fun w' => w'.cell? ⟨w.heap.size + 1 + 1 + 1, 0, none⟩ = some (.pointer (some ⟨w.heap.size + 1 + 1, 0, none⟩))) (first | assumption | exact blk_cell (SS.br L4.drew) 0 | exact blk_cell (SS.br (by assumption)) 0)
                  (first
                    | (go_at_call 28; refine (HLO.out _).mono ?_; rintro e w' ⟨rfl, hg⟩; have L5 := L4.drew.grow hg; have F5 : Fl w base ls.size fb _ := blk_grown hg (show Fl w base ls.size fb W4.drew from F4) (by simp))
                    | (go_at_call 17; refine (one_yes _ s _ k _ L5.r hs hone).mono ?_; rintro e w' ⟨rfl, s6⟩; have L6 := L5.reader s6))
                have B6 := blk_cell L6.br 0
                simp only [List.getElem?_toArray, List.getElem?_cons_zero] at B6
                go_wp2_with (first | (go_at_call 29; refine (HI.out _).mono ?_; rintro e w' ⟨rfl, hw⟩; rw [hw]; clear hw) | (go_at_call 23; refine (wrong_any _ _).mono ?_; rintro e w' ⟨rfl, hw⟩; rw [hw]; clear hw))
                rw [HR.out]
                exact ⟨rfl, rfl, _, _, _, _, L6, grown_refl _ _⟩
              | false =>
                have hle' : ¬ x ≤ u.had := of_decide_eq_false hle
                have HR := Lib.hid (HU.out.2.trans (show _ = unitsF s ls (ls ++ lo) false base (f - 1) (k + 1) ⟨x, (-1), false && ok, setD u.d (base + x.toNat) n⟩ by simp [hfr, hone, hx, hle']))
                have hx0 : 0 ≤ x := by have := HL.out.had; omega
                obtain ⟨y, rfl⟩ := Int.eq_ofNat_of_zero_le hx0
                have yl : y < ls.size := by omega
                have yli : (y : Int) < (ls.size : Int) := hxl
                go_region_held3 (fun w' => w'.cell? ⟨w.heap.size + 1 + 1 + 1, 0, none⟩ = some (.pointer (some ⟨w.heap.size + 1 + 1, 0, none⟩))) (first | assumption | exact blk_cell (SS.br L4.drew) 0 | exact blk_cell (SS.br (by assumption)) 0)
                  (first
                    | (go_at_call 28; refine (HLO.out _).mono ?_; rintro e w' ⟨rfl, hg⟩; have L5 := L4.drew.grow hg; have F5 : Fl w base ls.size fb _ := blk_grown hg (show Fl w base ls.size fb W4.drew from F4) (by simp))
                    | (go_at_call 17; refine (one_yes _ s _ k _ L5.r hs hone).mono ?_; rintro e w' ⟨rfl, s6⟩; have L6 := L5.reader s6; have F6 : Fl w base ls.size fb _ := blk_grown s6.g F5 (some_ne (by omega))))
                have B6 := F6.at yl
                have D6 := (blk_cell L6.db (base + y)).trans (dcells_at _ (base + y) (by omega))
                have Z6 := blk_free L6.db (base + y)
                go_wp2_with (go_at_call 29; refine (HI.out _).mono ?_; rintro e w' ⟨rfl, hw⟩; rw [hw]; clear hw)
                go_roundg (s.size - (k + 1))
                case rel => exact ⟨k + 1, ⟨(y : Int), (-1), false && ok, setD u.d (base + y) n⟩, f - 1, rfl, rfl, by first | rfl | rw [hpm], ⟨L6.setD (by omega) n, (Below.heap_setCell _ _ _ _ (by simp only; omega)).trans F6, by rw [h3n]; exact HR.out, hk3, by have := HL.out.fuel; omega, by first | (intro _; rfl) | (intro h; rw [h3n] at h; cases h), by simp only; omega⟩⟩
                case measure => omega

end Go.Proofs.YtkhpdiilghncgaaGreatDoor
