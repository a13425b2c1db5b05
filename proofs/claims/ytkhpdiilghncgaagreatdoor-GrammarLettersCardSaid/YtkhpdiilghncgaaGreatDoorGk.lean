/- The reader's notes. -/
import Derived.Test.YtkhpdiilghncgaaGreatDoorGj
import Derived.Deep.LoopGhost
namespace Go.Proofs.YtkhpdiilghncgaaGreatDoor
open Go.RowKit
set_option linter.unusedVariables false

def ntCells (n : Nt) : List Value := [.string n.key, .string n.val, .bool n.sharp]
theorem ntCells_len (l : List Nt) : (l.flatMap ntCells).length = l.length * 3 := by
  induction l with
  | nil => rfl
  | cons a l ih => rw [List.flatMap_cons, List.length_append, ih]; simp [ntCells]; omega

theorem cut_any (s : ByteArray) {m : Int} (w : World) (hs : s.size < 4294967281) (hm : w.cell? ⟨1, 0, none⟩ = some (.int .i64 m)) :
    Calls Tryz.prog 83 #[.string s, .string ⟨#[61]⟩] w fun e w' => e = .returned (.tuple #[.string (cutK s), .string (cutV s), .bool (cutIs s)]) ∧ Dr w w' :=
  Tryz.strings_Cut s ⟨#[61]⟩ m w hs hm

/-- The notes' slice. -/
def NS (w : World) (base : Nat) (v : Value) (l : List Nt) : Prop := w.ownsRow base 139 3 v l.length (l.flatMap ntCells)

theorem infoN : (Tryz.prog.info? 139).map (fun i => (i.zero, i.size, i.bytes)) = some (some (.agg #[.string ⟨#[]⟩, .string ⟨#[]⟩, .bool false]), 3, 40) := by kernel_rfl

/-- What is kept round after round. -/
structure NL (s : ByteArray) (b c : Nat) (w : World) (dt : Value × Value × Value) (ht : Value) (tm : Value × Value × Value × Value) (kd o : Int) (R : Option ((ByteArray × List Nt) × Nat))
    (i : Nat) (first : Bool) (z : ByteArray) (acc : List Nt) (f : Nat) (v : Value) (wr : World) : Prop where
  row : NS wr w.heap.size v acc
  g : Gw b c w wr
  r : Rd wr b s i
  p : Pb wr c (pcells dt ht tm kd o z)
  eq : R = notesF s f i first z acc
  le : i ≤ s.size
  fuel : s.size < f + i
  len : acc.length ≤ i

theorem NS.gw {w w' : World} {base b c : Nat} {v : Value} {l : List Nt} (h : NS w base v l) (g : Gw b c w w') (hb : b < base) (hc : c < base) : NS w' base v l := by
  refine ⟨h.1, ?_⟩
  rcases h.2 with h2 | ⟨k, cap, cur, h1, h2, h3, h4⟩
  · exact .inl h2
  · exact .inr ⟨k, cap, cur, h1, h2, g.blk h3 (by omega) (by omega), h4⟩
theorem Gw.own {w w' : World} {base b c : Nat} {v : Value} {l : List Nt} (h : NS w base v l) (g : w.grownBy w' v.ownBlock) (w0 : World) (g0 : Gw b c w0 w) (hb : w0.heap.size ≤ base) : Gw b c w0 w' :=
  ⟨g.os.trans g0.os, g.tape.trans g0.tape, g.output.trans g0.output, Nat.le_trans g0.size g.size, fun k hk h1 h2 => (g.block k (Nat.lt_of_lt_of_le hk g0.size) (fun hn => by have := (World.ownsRow.lt h k hn.symm).1; omega)).trans (g0.block k hk h1 h2)⟩
theorem own_blk {w w' : World} {base k : Nat} {v : Value} {l : List Nt} {o : Obj} (h : NS w base v l) (g : w.grownBy w' v.ownBlock) (hk : w.heap[k]? = some o) (hb : k < base) : w'.heap[k]? = some o :=
  (g.block k (Array.getElem?_eq_some_iff.1 hk).1 (fun hn => by have := (World.ownsRow.lt h k hn.symm).1; omega)).trans hk

theorem cell_lt {w : World} {k o : Nat} {v : Value} (h : w.cell? ⟨k, o, none⟩ = some v) : k < w.heap.size := by
  unfold World.cell? at h
  cases e : w.heap[k]? with
  | none => simp [e] at h
  | some x => exact (Array.getElem?_eq_some_iff.1 e).1
theorem gw_cell {b c k o : Nat} {w w' : World} {v : Value} (g : Gw b c w w') (h : w.cell? ⟨k, o, none⟩ = some v) (hk : k < w.heap.size) (h1 : k ≠ b) (h2 : k ≠ c) : w'.cell? ⟨k, o, none⟩ = some v := by
  unfold World.cell? at *; rw [show w'.heap[k]? = w.heap[k]? from g.block k hk h1 h2]; exact h
theorem bracketF_size {s x : ByteArray} {i k : Nat} {sh : Bool} (h : bracketF s i = some ((x, sh), k)) : x.size ≤ s.size := by
  unfold bracketF at h
  split at h
  · cases h
  · simp at h
    obtain ⟨⟨rfl, _⟩, _⟩ := h
    rw [ByteArray.size_extract]
    omega
theorem cut_sizes (x : ByteArray) : (cutK x).size ≤ x.size ∧ (cutV x).size ≤ x.size := by
  have e : x.data.toList.length = x.size := Array.length_toList
  have h1 : (cutK x).size = (Lib.cut x.data.toList (ByteArray.mk #[61]).data.toList).1.length := List.size_toArray ..
  have h2 : (cutV x).size = (Lib.cut x.data.toList (ByteArray.mk #[61]).data.toList).2.1.length := List.size_toArray ..
  rw [h1, h2, ← e]
  unfold Lib.cut
  split
  · exact ⟨List.length_take_le' _ _, by simp⟩
  · exact ⟨Nat.le_refl _, Nat.zero_le _⟩
theorem cells_new (w : World) (l : List Value) (t : TypeId) : ∀ j u, l[j]? = some u → (w.alloc (.cells l.toArray t)).cell? ((⟨w.heap.size, 0, none⟩ : Addr).add j) = some u := by
  intro j u h
  have e : (w.alloc (.cells l.toArray t)).heap[w.heap.size]? = some (.cells l.toArray t) := by rw [← World.alloc_eq]; simp
  rw [show ((⟨w.heap.size, 0, none⟩ : Addr).add j) = ⟨w.heap.size, j, none⟩ from by unfold Addr.add; simp; intro hj; exact hj.symm, blk_cell e j]
  simpa using h
theorem heap_alloc_size (w : World) (o : Obj) : (w.alloc o).heap.size = w.heap.size + 1 := by rw [← World.alloc_eq]; simp
theorem ns_set {w : World} {base c o : Nat} {v u : Value} {l : List Nt} (h : NS w base v l) (hc : c < base) : NS (w.setCell ⟨c, o, none⟩ u) base v l := by
  refine ⟨h.1, ?_⟩
  rcases h.2 with h2 | ⟨k, cap, cur, h1, h2, h3, h4⟩
  · exact .inl h2
  · exact .inr ⟨k, cap, cur, h1, h2, (Below.heap_setCell _ _ _ _ (by show k ≠ c; omega)).trans h3, h4⟩
theorem Pb.alloc {w : World} {c : Nat} {a : Array Value} (h : Pb w c a) (o : Obj) : Pb (w.alloc o) c a := (Below.heap_alloc w o c h.lt).trans h
/-- What the notes end in. -/
def NP (s : ByteArray) (b c : Nat) (w : World) (dt : Value × Value × Value) (ht : Value) (tm : Value × Value × Value × Value) (kd o : Int) (R : Option ((ByteArray × List Nt) × Nat)) (e : Ending) (w' : World) : Prop :=
  match R with
  | some ((z', l), k) => (∃ v, e = .returned v ∧ NS w' w.heap.size v l) ∧ Gw b c w w' ∧ Rd w' b s k ∧ Pb w' c (pcells dt ht tm kd o z')
  | none => e = .panicked eform ∧ Gw b c w w' ∧ ∃ z', Pb w' c (pcells dt ht tm kd o z')
set_option maxHeartbeats 2000000 in
theorem notes_any {b c : Nat} {s : ByteArray} {i : Nat} {m : Int} {w : World} {dt : Value × Value × Value} {ht : Value} {tm : Value × Value × Value × Value} {kd o : Int} {z : ByteArray}
    (hr : Rd w b s i) (hp : Pb w c (pcells dt ht tm kd o z)) (hbc : c ≠ b) (hs : s.size < 4294967281) (hi : i ≤ s.size)
    (hm : w.cell? ⟨1, 0, none⟩ = some (.int .i64 m)) (hb : b ≠ 1) (hc : c ≠ 1) :
    Calls Tryz.prog 42 #[.pointer (some ⟨b, 0, none⟩), .pointer (some ⟨c, 0, none⟩)] w (NP s b c w dt ht tm kd o (notesF s (s.size + 1) i true z [])) := by
  have hbl := hr.lt
  have hcl := hp.lt
  have hml : 1 < w.heap.size := cell_lt hm
  obtain ⟨R, HR⟩ : ∃ R, R = notesF s (s.size + 1) i true z [] := ⟨_, rfl⟩
  rw [← HR]
  have L0 : NL s b c w dt ht tm kd o R i true z [] (s.size + 1) (.slice none 0 0) w := ⟨World.ownsRow_nil _ _ _ _, Gw.refl _ _ _, hr, hp, HR, hi, by omega, by simp⟩
  clear HR hr hp
  go_enter Tryz.func42, Tryz.ntmps42
  go_wp2_with fail
  go_loopg [5, 6] (s.size - i) (fun n v fv wr => ∃ (i : Nat) (first : Bool) (z : ByteArray) (acc : List Nt) (f : Nat), n = s.size - i ∧ fv = .bool first ∧ NL s b c w dt ht tm kd o R i first z acc f v wr)
  case atStart => exact ⟨i, true, z, [], s.size + 1, rfl, rfl, L0⟩
  case round =>
    obtain ⟨i, first, z, acc, f, rfl, rfl, L⟩ := hrel
    have h0 := L.r.c0
    have h1 := L.r.c1
    have f1 := L.r.f1
    have HM : Hid (wr.cell? ⟨1, 0, none⟩ = some (.int .i64 m)) := Lib.hid (gw_cell L.g hm hml (Ne.symm hb) (Ne.symm hc))
    have HL := Lib.hid L
    clear L L0
    by_cases h91 : nx s i = 91
    · have b91 : ((nx s i : Int) == 91) = true := by simp; omega
      have hlt : i < s.size := nx_in (by omega)
      cases hx : bracketF s i with
      | none =>
        have HX := Lib.hid hx
        clear hx
        go_wp2_with fail
        refine (next_any b s i wr HL.out.r (by omega) HL.out.le).mono ?_
        rintro e w1 ⟨rfl, n1, rfl⟩
        have p0 := h0
        have p1 := h1
        have p2 := f1
        go_wp2_with fail
        refine (bracket_no (by unfold bracketF at HX; have := HX.out; split at this <;> simp_all) (HL.out.r.drewN n1) (by omega) hlt).mono ?_
        rintro e w2 ⟨rfl, hg⟩
        have HR : Hid (R = none) := Lib.hid (HL.out.eq.trans (notesF_open h91 HX.out))
        go_wp2_with fail
        rw [HR.out]
        exact ⟨rfl, rfl, HL.out.g.trans (Gw.of (grown_trans (grown_drewN (grown_refl _ _) n1) hg)), _, Pb.step (w := wr) HL.out.p (grown_trans (grown_drewN (grown_refl wr _) n1) hg) hbc⟩
      | some xk =>
        obtain ⟨⟨x, sh⟩, k⟩ := xk
        have HX := Lib.hid hx
        clear hx
        go_wp2_with fail
        refine (next_any b s i wr HL.out.r (by omega) HL.out.le).mono ?_
        rintro e w1 ⟨rfl, n1, rfl⟩
        have p0 := h0
        have p1 := h1
        have p2 := f1
        go_wp2_with fail
        refine (bracket_yes HX.out (HL.out.r.drewN n1) (by omega) hlt).mono ?_
        rintro e w2 ⟨rfl, s2⟩
        have hxs : x.size < 4294967281 := by have := bracketF_size HX.out; omega
        have G2 : Gw b c w w2 := HL.out.g.trans (Gw.of (grown_trans (grown_drewN (grown_refl _ _) n1) s2.g))
        have HM2 : Hid (w2.cell? ⟨1, 0, none⟩ = some (.int .i64 m)) := Lib.hid (gw_cell G2 hm hml (Ne.symm hb) (Ne.symm hc))
        have R2 : NS w2 w.heap.size u5 acc := HL.out.row.gw (Gw.of (b := b) (c := c) (grown_trans (grown_drewN (grown_refl wr _) n1) s2.g)) (by omega) (by omega)
        have P2 : Pb w2 c (pcells dt ht tm kd o z) := Pb.step (w := wr) HL.out.p (grown_trans (grown_drewN (grown_refl wr _) n1) s2.g) hbc
        have HK := Lib.hid (bracketF_in HX.out)
        clear h0 h1 f1 p0 p1 p2
        go_wp2_with fail
        refine (cut_any x w2 hxs HM2.out).mono ?_
        rintro e w3 ⟨rfl, n3, rfl⟩
        have hcs := cut_sizes x
        cases hcut : cutIs x with
        | true =>
          cases hk : isKeyF (cutK x) with
          | true =>
            cases hv : isValueF (cutV x) with
            | true =>
              have HR : Hid (R = notesF s (f - 1) k false z (acc ++ [⟨cutK x, cutV x, sh⟩])) := Lib.hid (HL.out.eq.trans (notesF_note (by have := HL.out.fuel; omega) h91 HX.out (by simp [noteF, hcut, hk, hv])))
              go_wp2_with (go_at_call 85; refine (iskey_any _ _ (by omega)).mono ?_; rintro e w' ⟨rfl, hw⟩; rw [hw, hk]; clear hw)
              refine (isvalue_any (cutV x) (w2.drewN n3) (by omega) HM2.out).mono ?_
              rintro e w4 ⟨rfl, hg4⟩
              rw [hv]
              have R4 : NS w4 w.heap.size u5 acc := (show NS (w2.drewN n3) w.heap.size u5 acc from R2).gw (Gw.of (b := b) (c := c) (hg4.but (some b))) (by omega) (by omega)
              have G4 : Gw b c w w4 := (show Gw b c w (w2.drewN n3) from G2.trans (Gw.of (grown_drewN (grown_refl _ _) n3))).trans (Gw.of (hg4.but (some b)))
              have D4 : Rd w4 b s k := ((show St b s w2 k (w2.drewN n3) from (St.refl s2.r).drewN n3).trans ⟨hg4.but (some b), blk_grown hg4 s2.r (by simp)⟩).r
              have P4 : Pb w4 c (pcells dt ht tm kd o z) := Pb.step (w := w2.drewN n3) P2 (hg4.but (some b)) hbc
              obtain ⟨i0, hi0, hz0, hz1, hz2⟩ := info_parts infoN
              have hlen : acc.length ≤ s.size := by have := HL.out.len; have := HL.out.le; omega
              have HB : Hid (w.heap.size ≤ w4.heap.size) := Lib.hid G4.size
              go_wp2_with (at_builtin; refine wpList_append_own _ rfl _ _ 81 rfl w.heap.size 139 i0 (.agg #[.string ⟨#[]⟩, .string ⟨#[]⟩, .bool false]) 3 40 Tryz.underlying81 hi0 hz0 hz1 hz2 rfl (by decide) _ _ _ rfl (R4.alloc _) ⟨w4.heap.size, 0, none⟩ 1 1 (ntCells ⟨cutK x, cutV x, sh⟩) rfl rfl ?c1 ?c2 ?c3 ?c4 ?c5 ?_)
              case c1 => exact cells_new _ _ _
              case c2 => intro u hu; simp [ntCells] at hu; rcases hu with rfl | rfl | rfl <;> rfl
              case c3 => unfold maxLen; omega
              case c4 => omega
              case c5 => have := HB.out; show _ ≤ (w4.alloc _).heap.size; rw [heap_alloc_size]; omega
              rintro v' w5 hown hg5 hv5
              have G5 : Gw b c w w5 := Gw.own (R4.alloc _) hg5 w (G4.alloc _) (Nat.le_refl _)
              have D5 : Rd w5 b s k := own_blk (R4.alloc _) hg5 (D4.alloc _) hbl
              have P5 : Pb w5 c (pcells dt ht tm kd o z) := own_blk (R4.alloc _) hg5 (Pb.alloc P4 _) hcl
              have R5 : NS w5 w.heap.size v' (acc ++ [⟨cutK x, cutV x, sh⟩]) := by unfold NS; rw [List.flatMap_append, List.length_append]; simpa using hown
              go_wp2_with fail
              go_roundg (s.size - k)
              case rel => exact ⟨k, false, z, _, f - 1, rfl, rfl, ⟨R5, G5, D5, P5, HR.out, HK.out.1, by have := HL.out.fuel; have := HK.out; omega, by simp; have := HL.out.len; have := HK.out; omega⟩⟩
              case measure => have := HK.out; omega
            | false => 
              go_wp2_with (go_at_call 85; refine (iskey_any _ _ (by omega)).mono ?_; rintro e w' ⟨rfl, hw⟩; rw [hw, hk]; clear hw)
              refine (isvalue_any (cutV x) (w2.drewN n3) (by omega) HM2.out).mono ?_
              rintro e w4 ⟨rfl, hg4⟩
              rw [hv]
              have G4 : Gw b c w w4 := (show Gw b c w (w2.drewN n3) from G2.trans (Gw.of (grown_drewN (grown_refl _ _) n3))).trans (Gw.of (hg4.but (some b)))
              have HR : Hid (R = none) := Lib.hid (HL.out.eq.trans (notesF_bad h91 HX.out (by simp [noteF, hcut, hk, hv])))
              go_wp2_with (go_at_call 23; refine (wrong_any _ _).mono ?_; rintro e w9 ⟨rfl, hw⟩; rw [hw]; clear hw)
              rw [HR.out]
              exact ⟨rfl, rfl, G4, _, Pb.step (w := w2.drewN n3) P2 (hg4.but (some b)) hbc⟩
          | false =>
            go_wp2_with (go_at_call 85; refine (iskey_any _ _ (by omega)).mono ?_; rintro e w' ⟨rfl, hw⟩; rw [hw, hk]; clear hw)
            have HR : Hid (R = none) := Lib.hid (HL.out.eq.trans (notesF_bad h91 HX.out (by simp [noteF, hcut, hk])))
            go_wp2_with (go_at_call 23; refine (wrong_any _ _).mono ?_; rintro e w9 ⟨rfl, hw⟩; rw [hw]; clear hw)
            rw [HR.out]
            exact ⟨rfl, rfl, G2.trans (Gw.of (grown_drewN (grown_refl _ _) n3)), _, P2⟩
        | false =>
          cases first with
          | true =>
            go_wp2_with fail
            refine (name_any x (w2.drewN n3) hxs HM2.out).mono ?_
            rintro e w4 ⟨rfl, hg4⟩
            have G4 : Gw b c w w4 := (show Gw b c w (w2.drewN n3) from G2.trans (Gw.of (grown_drewN (grown_refl _ _) n3))).trans (Gw.of (hg4.but (some b)))
            cases hn : nameF x with
            | true =>
              have HR : Hid (R = notesF s (f - 1) k false x acc) := Lib.hid (HL.out.eq.trans (notesF_zone (by have := HL.out.fuel; omega) h91 HX.out (by simp [noteF, hcut, hn])))
              have R4 : NS w4 w.heap.size u5 acc := (show NS (w2.drewN n3) w.heap.size u5 acc from R2).gw (Gw.of (b := b) (c := c) (hg4.but (some b))) (by omega) (by omega)
              have D4 : Rd w4 b s k := ((show St b s w2 k (w2.drewN n3) from (St.refl s2.r).drewN n3).trans ⟨hg4.but (some b), blk_grown hg4 s2.r (by simp)⟩).r
              have P4 : Pb w4 c (pcells dt ht tm kd o z) := Pb.step (w := w2.drewN n3) P2 (hg4.but (some b)) hbc
              have q0 := blk_cell P4 10
              have q1 := blk_free P4 10
              simp only [pcells, List.getElem?_toArray, List.getElem?_cons_zero, List.getElem?_cons_succ] at q0
              go_wp2_with fail
              go_roundg (s.size - k)
              case rel => exact ⟨k, false, x, _, f - 1, rfl, rfl, ⟨ns_set R4 hcl, G4.set2 _ _, D4.setOther hbc _, P4.set 10 (.string x), HR.out, HK.out.1, by have := HL.out.fuel; have := HK.out; omega, by have := HL.out.len; have := HK.out; omega⟩⟩
              case measure => have := HK.out; omega
            | false =>
              have HR : Hid (R = none) := Lib.hid (HL.out.eq.trans (notesF_bad h91 HX.out (by simp [noteF, hcut, hn])))
              go_wp2_with (go_at_call 23; refine (wrong_any _ _).mono ?_; rintro e w9 ⟨rfl, hw⟩; rw [hw]; clear hw)
              rw [HR.out]
              exact ⟨rfl, rfl, G4, _, Pb.step (w := w2.drewN n3) P2 (hg4.but (some b)) hbc⟩
          | false =>
            have HR : Hid (R = none) := Lib.hid (HL.out.eq.trans (notesF_bad h91 HX.out (by simp [noteF, hcut])))
            go_wp2_with (go_at_call 23; refine (wrong_any _ _).mono ?_; rintro e w9 ⟨rfl, hw⟩; rw [hw]; clear hw)
            rw [HR.out]
            exact ⟨rfl, rfl, G2.trans (Gw.of (grown_drewN (grown_refl _ _) n3)), _, P2⟩
    · have b91 : ((nx s i : Int) == 91) = false := by simp; omega
      have HR : Hid (R = some ((z, acc), i)) := Lib.hid (HL.out.eq.trans (notesF_end (by have := HL.out.fuel; have := HL.out.le; omega) h91))
      go_wp2_with fail
      refine (next_any b s i wr HL.out.r (by omega) HL.out.le).mono ?_
      rintro e w1 ⟨rfl, n1, rfl⟩
      go_wp2_with fail
      go_ret
      rw [HR.out]
      exact ⟨⟨_, rfl, HL.out.row⟩, HL.out.g.trans (Gw.of (grown_drewN (grown_refl _ _) n1)), HL.out.r.drewN n1, HL.out.p⟩

end Go.Proofs.YtkhpdiilghncgaaGreatDoor
