/- analemma/duration: totals. -/
import Derived.Test.YtkhpdiilghncgaaGreatDoorDa
import Derived.Deep.RegionLaw
namespace Go.Proofs.YtkhpdiilghncgaaGreatDoor
open Go.RowKit Go.Shelf
set_option linter.unusedVariables false

def prodsD (d : Nat → Int) : List Int := [d 3 * 86400000000000, d 4 * 3600000000000, d 5 * 60000000000, d 6 * 1000000000, d 7 * 1]
def totalD (d : Nat → Int) : Int := d 3 * 86400000000000 + (d 4 * 3600000000000 + (d 5 * 60000000000 + (d 6 * 1000000000 + d 7 * 1)))
theorem prodsD_at (d : Nat → Int) (u : Nat) (h1 : 4 ≤ u) (h2 : u ≤ 8) : (prodsD d).take (u - 4 + 1) = (prodsD d).take (u - 4) ++ [d (u - 1) * lenF.getD u 0] := by
  have : u = 4 ∨ u = 5 ∨ u = 6 ∨ u = 7 ∨ u = 8 := by omega
  rcases this with rfl | rfl | rfl | rfl | rfl <;> rfl
theorem len_i64 (u : Nat) : I64 (lenF.getD u 0) := by
  by_cases h : u ≤ 8
  · have : u = 0 ∨ u = 1 ∨ u = 2 ∨ u = 3 ∨ u = 4 ∨ u = 5 ∨ u = 6 ∨ u = 7 ∨ u = 8 := by omega
    rcases this with rfl | rfl | rfl | rfl | rfl | rfl | rfl | rfl | rfl <;> exact ⟨by decide, by decide⟩
  · have : lenF.getD u 0 = 0 := by simp [lenF, List.getD]; rw [List.getElem?_eq_none (by simp; omega)]; rfl
    rw [this]
    exact ⟨by decide, by decide⟩

theorem prods_bd {d : Nat → Int} (h : D64 d) : (∀ k, I128 ((prodsD d).take k).sum) ∧ ∀ n ∈ prodsD d, I128 n := by
  have h3 := h 3
  have h4 := h 4
  have h5 := h 5
  have h6 := h 6
  have h7 := h 7
  unfold I64 at *
  constructor
  · intro k
    have : k = 0 ∨ k = 1 ∨ k = 2 ∨ k = 3 ∨ k = 4 ∨ 5 ≤ k := by omega
    rcases this with rfl | rfl | rfl | rfl | rfl | h
    · simp [I128]
    · simp [prodsD, I128]; omega
    · simp [prodsD, I128]; omega
    · simp [prodsD, I128]; omega
    · simp [prodsD, I128]; omega
    · rw [List.take_of_length_le (by simp [prodsD]; omega)]; simp [prodsD, I128]; omega
  · intro n hn
    simp [prodsD] at hn
    rcases hn with rfl | rfl | rfl | rfl | rfl <;> (unfold I128; omega)
structure Kt (d : Nat → Int) (w : World) (v : Value) (l : List Int) (w' : World) : Prop where
  gr : w.grownBy w' none
  db : Db w' w.heap.size d
  rb : w'.heap[w.heap.size + 1]? = some (.cells #[.int .i64 0, .int .u64 0] 112 (0, 0))
  fb : Fb w' (w.heap.size + 1 + 1) w.heap.size
  ws : WS w' (w.heap.size + 3) v l
theorem Kt.grow {d : Nat → Int} {w w' w'' : World} {v : Value} {l : List Int} (h : Kt d w v l w') (g : w'.grownBy w'' none) : Kt d w v l w'' :=
  ⟨grown_trans h.gr g, blk_grown g h.db (by simp), blk_grown g h.rb (by simp), blk_grown g h.fb (by simp), h.ws.grown g⟩
theorem Kt.drew {d : Nat → Int} {w w' : World} {v : Value} {l : List Int} (h : Kt d w v l w') : Kt d w v l w'.drew := h.grow ⟨rfl, rfl, rfl, Nat.le_refl _, fun _ _ _ => rfl⟩
theorem Kt.lift {d : Nat → Int} {P : Program} {f : FuncId} {args : Array Value} {w w' : World} {v : Value} {l : List Int} {r : Ending} (h : Calls P f args w' fun e w'' => e = r ∧ w'.grownBy w'' none) (k : Kt d w v l w') : Calls P f args w' fun e w'' => e = r ∧ Kt d w v l w'' :=
  h.mono fun e w'' ⟨h1, h2⟩ => ⟨h1, k.grow h2⟩
theorem Kt.lift0 {d : Nat → Int} {P : Program} {f : FuncId} {args : Array Value} {w w' : World} {v : Value} {l : List Int} {r : Ending} (h : Calls P f args w' fun e w'' => e = r ∧ w'' = w') (k : Kt d w v l w') : Calls P f args w' fun e w'' => e = r ∧ w'' = w' ∧ Kt d w v l w'' :=
  h.mono fun e w'' ⟨h1, h2⟩ => ⟨h1, h2, by rw [h2]; exact k⟩
theorem Kt.app {d : Nat → Int} {w w' w5 : World} {v v' : Value} {l : List Int} {n : Int} {o : Obj} (h : Kt d w v l w') (hown : w5.ownsRow (w.heap.size + 3) 112 2 v' (l.length + 1) (l.flatMap wcells ++ wcells n)) (hg : (w'.alloc o).grownBy w5 v.ownBlock) : Kt d w v' (l ++ [n]) w5 := by
  have g1 : w'.grownBy (w'.alloc o) none := grown_alloc (grown_refl _ _) _
  have k1 := h.grow g1
  have hne : ∀ k, k < w.heap.size + 3 → some k ≠ v.ownBlock := fun k hk he => by have := (World.ownsRow.lt h.ws k he.symm).1; omega
  refine ⟨⟨hg.os.trans k1.gr.os, hg.tape.trans k1.gr.tape, hg.output.trans k1.gr.output, Nat.le_trans k1.gr.size hg.size, fun i hi hn => (hg.block i (Nat.lt_of_lt_of_le hi k1.gr.size) (hne i (by omega))).trans (k1.gr.block i hi hn)⟩,
    blk_grown hg k1.db (hne _ (by omega)), blk_grown hg k1.rb (hne _ (by omega)), blk_grown hg k1.fb (hne _ (by omega)), ?_⟩
  unfold WS
  rw [List.flatMap_append, List.length_append]
  simpa using hown

theorem wcells_one (n : Int) : ∀ u ∈ wcells n, u.oneCell' = true := by intro u hu; simp [wcells] at hu; rcases hu with rfl | rfl <;> rfl
theorem kt_le {d : Nat → Int} {w w' : World} {v : Value} {l : List Int} (h : Kt d w v l w') : w.heap.size + 3 ≤ w'.heap.size := by
  have := (Array.getElem?_eq_some_iff.1 h.fb).1
  omega
theorem infoW : (Tryz.prog.info? 112).map (fun i => (i.zero, i.size, i.bytes)) = some (some (.agg #[.int .i64 0, .int .u64 0]), 2, 16) := by kernel_rfl

set_option maxHeartbeats 2000000 in
set_option maxRecDepth 100000 in
theorem total_any (d : Nat → Int) (w : World) (hd : D64 d) : Calls Tryz.prog 63 #[.agg (dcells d)] w fun e w' => e = .returned (W (totalD d)) ∧ w.grownBy w' none := by
  have HD := Lib.hid hd
  clear hd
  go_enter Tryz.func63, Tryz.ntmps63
  go_wp2_with fail
  refine (fields_any _ _).mono ?_
  rintro e w1 ⟨rfl, hg, hf⟩
  have K1 : Kt d w (.slice none 0 0) [] w1 := by
    have G2 : w.grownBy ((w.alloc (.cells (dcells d) 32)).alloc (.cells #[.int .i64 0, .int .u64 0] 112)) none := grown_alloc (grown_alloc (grown_refl _ _) _) _
    rw [heap_alloc_size, heap_alloc_size] at hf
    exact ⟨grown_trans G2 hg, blk_grown hg (alloc2 _ _ _) (by simp), blk_grown hg (alloc_at1 _ _ _) (by simp), hf, World.ownsRow_nil _ _ _ _⟩
  clear hg hf
  go_wp2_with fail
  go_loopg [3, 5] 5 (fun n v3 v5 wr => ∃ u : Nat, n = 9 - u ∧ v5 = .int .i64 u ∧ 4 ≤ u ∧ u ≤ 9 ∧ Kt d w v3 ((prodsD d).take (u - 4)) wr)
  case atStart => exact ⟨4, rfl, rfl, by omega, by omega, K1⟩
  case round =>
    obtain ⟨u, rfl, rfl, h1, h2, L⟩ := hrel
    by_cases hlt : u ≤ 8
    · have dlt : decide ((u : Int) ≤ 8) = true := by simp; omega
      have c0 := (blk_cell L.fb (u - 1 + 1)).trans (fcells_at w.heap.size (u - 1) (by omega))
      rw [show u - 1 + 1 = u from by omega] at c0
      have c1 := (blk_cell L.db (u - 1)).trans (dcells_at d (u - 1) (by omega))
      have HL := Lib.hid L
      have T1 := Lib.hid (prodsD_at d u h1 hlt)
      have H1 := Lib.hid (fun w => length_any u w hlt)
      have H2 := Lib.hid (fun w => mul_any (d (u - 1)) (lenF.getD u 0) w (HD.out _) (len_i64 u))
      have u9 : (u : Int) < 9 := by omega
      clear K1
      obtain ⟨i0, hi0, hz0, hz1, hz2⟩ := info_parts infoW
      have hl5 : ((prodsD d).take (u - 4)).length ≤ 5 := List.length_take_le' _ _
      go_wp2_with fail
      go_region_law (first
        | (rw [if_pos (by rfl)]; refine wp_append_own _ _ _ _ rfl (w.heap.size + 3) 112 i0 (.agg #[.int .i64 0, .int .u64 0]) 2 16 Tryz.underlying155 hi0 hz0 hz1 hz2 rfl (by decide) u3 ((prodsD d).take (u - 4)).length (((prodsD d).take (u - 4)).flatMap wcells) rfl (World.ownsRow.alloc (Kt.ws hkm) _) ⟨_, 0, none⟩ 1 1 (wcells (d (u - 1) * lenF.getD u 0)) rfl rfl (cells_new _ _ _) (wcells_one _) (Nat.le_trans (Nat.add_le_add_right hl5 1) (by decide)) (by omega) (Nat.le_trans (kt_le hkm) (by rw [heap_alloc_size]; omega)) ?_; intro v' w5 hown hg5 _; have hkt5 := Kt.app hkm hown hg5)
        | (go_simp; go_at_call 58; refine (H1.out _).mono ?_; rintro e w' ⟨rfl, hw⟩; rw [hw]; clear hw)
        | (go_simp; go_at_call 101; refine (Kt.lift (H2.out _) L.drew).mono ?_; rintro e w' ⟨rfl, hkm⟩))
      all_goals
        have HK5 := Lib.hid hkt5
        go_wp2_with fail
        go_roundg (9 - (u + 1))
        case rel => exact ⟨u + 1, rfl, by go_num, by omega, by omega, by rw [show u + 1 - 4 = u - 4 + 1 from by omega, T1.out]; exact HK5.out⟩
        case measure => omega
    · have dlt : decide ((u : Int) ≤ 8) = false := by simp; omega
      have hu : (prodsD d).take (u - 4) = prodsD d := by rw [show u - 4 = 5 from by omega]; rfl
      rw [hu] at L
      have hs : (prodsD d).sum = totalD d := by simp [prodsD, totalD]
      obtain ⟨g, cap, hv⟩ : ∃ g cap, u3 = .slice (some ⟨g, 0, none⟩) (prodsD d).length cap := by
        rcases L.ws.2 with ⟨_, h⟩ | ⟨g, cap, _, h, _⟩
        · cases h
        · exact ⟨g, cap, h⟩
      subst hv
      have B := prods_bd HD.out
      have HS := Lib.hid (fun w' h => sum_any (prodsD d) g cap (w.heap.size + 3) w' h B.1 B.2 (show (5 : Nat) ≤ 1000000 by decide))
      clear K1 hu B
      go_wp2_with fail
      refine (HS.out _ L.ws).mono ?_
      rintro e w2 ⟨rfl, hg2⟩
      rw [hs]
      have L2 := L.grow hg2
      have K3 := (Below.heap_alloc w2 (.cells #[.int .i64 (hiW (totalD d)), .int .u64 (loW (totalD d))] 112) _ (Array.getElem?_eq_some_iff.1 L2.rb).1).trans L2.rb
      have q0 := blk_cell K3 0
      have q1 := blk_cell K3 1
      have q2 := blk_free K3 0
      have q3 := blk_free K3 1
      simp only [List.getElem?_toArray, List.getElem?_cons_zero, List.getElem?_cons_succ] at q0 q1
      go_wp2_with fail
      refine bodyPost_ret (v := W (totalD d)) (by simp [results, Tryz.results63, go_sem, q0, q1]) rfl ⟨rfl, ?_⟩
      exact grown_setNew (grown_setNew (grown_alloc L2.gr _) (by simp) _) (by simp) _

end Go.Proofs.YtkhpdiilghncgaaGreatDoor
