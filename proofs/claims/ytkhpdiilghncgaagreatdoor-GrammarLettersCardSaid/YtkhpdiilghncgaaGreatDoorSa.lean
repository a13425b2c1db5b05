/- grammar: count, at every text. -/
import Derived.Test.YtkhpdiilghncgaaGreatDoorGd
import Derived.Deep.LoopGhost
namespace Go.Proofs.YtkhpdiilghncgaaGreatDoor
open Go.RowKit
set_option linter.unusedVariables false

/-- One digit more. -/
def cgo (n : Int) (d : Nat) : Bool := decide (n < 922337203685477580) || (n == 922337203685477580 && decide ((d : Int) ≤ 7))
def countFrom (s : ByteArray) : Nat → Nat → Int → Bool → (Int × Bool) × Nat
  | 0, i, n, ok => ((n, ok), i)
  | f + 1, i, n, ok => if dg s i then (if ok && cgo n (nx s i - 48) then countFrom s f (i + 1) (n * 10 + (nx s i - 48 : Nat)) true else countFrom s f (i + 1) n false) else ((n, ok), i)
def countF (s : ByteArray) (i : Nat) : Option ((Int × Bool) × Nat) := if dg s i then some (countFrom s (s.size + 1) i 0 true) else none
theorem countFrom_yes {s : ByteArray} {f i : Nat} {n : Int} {ok : Bool} (hf : 0 < f) (h : dg s i = true) (hg : (ok && cgo n (nx s i - 48)) = true) : countFrom s f i n ok = countFrom s (f - 1) (i + 1) (n * 10 + (nx s i - 48 : Nat)) true := by
  obtain ⟨f, rfl⟩ : ∃ g, f = g + 1 := ⟨f - 1, by omega⟩
  conv => lhs; unfold countFrom
  rw [if_pos h, if_pos hg]; rfl
theorem countFrom_no {s : ByteArray} {f i : Nat} {n : Int} {ok : Bool} (hf : 0 < f) (h : dg s i = true) (hg : (ok && cgo n (nx s i - 48)) = false) : countFrom s f i n ok = countFrom s (f - 1) (i + 1) n false := by
  obtain ⟨f, rfl⟩ : ∃ g, f = g + 1 := ⟨f - 1, by omega⟩
  conv => lhs; unfold countFrom
  rw [if_pos h, if_neg (by rw [hg]; simp)]; rfl
theorem countFrom_end {s : ByteArray} {f i : Nat} {n : Int} {ok : Bool} (h : dg s i = false) : countFrom s f i n ok = ((n, ok), i) := by
  cases f with
  | zero => rfl
  | succ f => unfold countFrom; rw [if_neg (by rw [h]; simp)]
theorem countFrom_in {s : ByteArray} : ∀ {f i : Nat} {n : Int} {ok : Bool}, i ≤ s.size → 0 ≤ n → n ≤ 9223372036854775807 → (countFrom s f i n ok).2 ≤ s.size ∧ i ≤ (countFrom s f i n ok).2 ∧ 0 ≤ (countFrom s f i n ok).1.1 ∧ (countFrom s f i n ok).1.1 ≤ 9223372036854775807
  | 0, i, n, ok, hi, h0, h1 => ⟨hi, Nat.le_refl _, h0, h1⟩
  | f + 1, i, n, ok, hi, h0, h1 => by
    unfold countFrom
    split
    · rename_i hd
      have hin := dg_in hd
      have hbd := dg_bd hd
      split
      · rename_i hg
        rw [Bool.and_eq_true] at hg
        have hg := hg.2
        simp [cgo] at hg
        have := countFrom_in (s := s) (f := f) (i := i + 1) (n := n * 10 + (nx s i - 48 : Nat)) (ok := true) (by omega) (by omega) (by omega)
        omega
      · have := countFrom_in (s := s) (f := f) (i := i + 1) (n := n) (ok := false) (by omega) h0 h1
        omega
    · exact ⟨hi, Nat.le_refl _, h0, h1⟩
structure CN (s : ByteArray) (b : Nat) (w : World) (R : (Int × Bool) × Nat) (i : Nat) (n : Int) (ok : Bool) (f : Nat) (wr : World) : Prop where
  st : St b s w i wr
  eq : R = countFrom s f i n ok
  le : i ≤ s.size
  fuel : s.size < f + i
  n0 : 0 ≤ n
  n1 : n ≤ 9223372036854775807
set_option maxHeartbeats 1000000 in
theorem count_yes {b : Nat} {s : ByteArray} {i : Nat} {w : World} (hd0 : dg s i = true) (hr : Rd w b s i) (hs : s.size ≤ 140737488351232) :
    Calls Tryz.prog 24 #[.pointer (some ⟨b, 0, none⟩)] w fun e w' => e = .returned (.tuple #[.int .i64 (countFrom s (s.size + 1) i 0 true).1.1, .bool (countFrom s (s.size + 1) i 0 true).1.2]) ∧ St b s w (countFrom s (s.size + 1) i 0 true).2 w' := by
  have hi0 := dg_in hd0
  obtain ⟨R, HR⟩ : ∃ R, R = countFrom s (s.size + 1) i 0 true := ⟨_, rfl⟩
  rw [← HR]
  have L0 : ∀ n, CN s b w R i 0 true (s.size + 1) (w.drewN n) := fun n => ⟨(St.refl hr).drewN n, HR, by omega, by omega, Int.le_refl _, by decide⟩
  clear HR
  go_enter Tryz.func24, Tryz.ntmps24
  go_wp2_with fail
  refine (digit_any b s i w hr hs (by omega)).mono ?_
  rintro e w1 ⟨rfl, n0, rfl⟩
  have L0 := L0 n0
  go_wp2_with fail
  go_loopg [4, 5] (s.size - i) (fun m v4 v5 wr => ∃ (i : Nat) (n : Int) (ok : Bool) (f : Nat), m = s.size - i ∧ v4 = .int .i64 n ∧ v5 = .bool ok ∧ CN s b w R i n ok f wr)
  case atStart => exact ⟨i, 0, true, s.size + 1, rfl, rfl, rfl, L0⟩
  case round =>
    clear hr L0
    clear hd0 hi0
    obtain ⟨i, n, ok, f, rfl, rfl, rfl, L⟩ := hrel
    have HL := Lib.hid L
    clear L
    cases hd : dg s i with
    | false =>
      have HR := Lib.hid (HL.out.eq.trans (countFrom_end hd))
      go_wp2_with fail
      refine (digit_any b s i wr HL.out.st.r hs HL.out.le).mono ?_
      rintro e w1 ⟨rfl, n1, rfl⟩
      go_wp2_with fail
      go_ret2
      rw [HR.out]
      exact ⟨rfl, HL.out.st.drewN n1⟩
    | true =>
      have hin : i + 1 ≤ s.size := dg_in hd
      have hnum : num s 1 i 0 = some (nx s i - 48) := by simp [num, hd]
      obtain ⟨v, hv⟩ : ∃ v, nx s i - 48 = v := ⟨_, rfl⟩
      rw [hv] at hnum
      have hv9 : v ≤ 9 := by have := dg_bd hd; omega
      have hd0x := hd
      cases ok with
      | false =>
        have hc : (false && cgo n v) = false := rfl
        have HR := Lib.hid (HL.out.eq.trans (countFrom_no (by have := HL.out.fuel; omega) hd (by rw [hv]; exact hc)))
        clear hc
        clear hd0x
        go_wp2_with fail
        refine (digit_any b s i wr HL.out.st.r hs HL.out.le).mono ?_
        rintro e w1 ⟨rfl, n1, rfl⟩
        go_wp2_with fail
        refine (digits_yes 1 hnum (HL.out.st.r.drewN n1) hs HL.out.le (by omega) rfl).mono ?_
        rintro e w2 ⟨rfl, s2⟩
        have S2 := Lib.hid ((HL.out.st.drewN n1).trans s2)
        clear s2
        go_wp2_with fail
        go_roundg (s.size - (i + 1))
        case rel => exact ⟨i + 1, _, false, f - 1, rfl, rfl, rfl, ⟨S2.out, HR.out, hin, by have := HL.out.fuel; omega, HL.out.n0, HL.out.n1⟩⟩
        case measure => omega
      | true =>
        cases h1 : decide (n < 922337203685477580) with
        | true =>
          have hc : (true && cgo n v) = true := by simp only [cgo]; rw [h1]; rfl
          have HR := Lib.hid (HL.out.eq.trans (countFrom_yes (by have := HL.out.fuel; omega) hd (by rw [hv]; exact hc)))
          rw [hv] at HR
          have HN : Hid (0 ≤ n * 10 + (v : Int) ∧ n * 10 + (v : Int) ≤ 9223372036854775807) := Lib.hid (by have := HL.out.n0; simp at h1 ; omega)
          have w1e : IntKind.i64.wrap (n * 10) = n * 10 := by rw [IntKind.wrap_i64]; have := HL.out.n0; simp at h1 ; omega
          have w2e : IntKind.i64.wrap (n * 10 + (v : Int)) = n * 10 + (v : Int) := by rw [IntKind.wrap_i64]; have := HN.out; omega
          clear hc
          clear hd0x
          go_wp2_with fail
          refine (digit_any b s i wr HL.out.st.r hs HL.out.le).mono ?_
          rintro e w1 ⟨rfl, n1, rfl⟩
          go_wp2_with fail
          refine (digits_yes 1 hnum (HL.out.st.r.drewN n1) hs HL.out.le (by omega) rfl).mono ?_
          rintro e w2 ⟨rfl, s2⟩
          have S2 := Lib.hid ((HL.out.st.drewN n1).trans s2)
          clear s2
          go_wp2_with fail
          go_roundg (s.size - (i + 1))
          case rel => exact ⟨i + 1, _, true, f - 1, rfl, rfl, rfl, ⟨S2.out, HR.out, hin, by have := HL.out.fuel; omega, HN.out.1, HN.out.2⟩⟩
          case measure => omega
        | false =>
          cases h2 : (n == 922337203685477580) with
          | false =>
            have hc : (true && cgo n v) = false := by simp only [cgo]; rw [h1, h2]; rfl
            have HR := Lib.hid (HL.out.eq.trans (countFrom_no (by have := HL.out.fuel; omega) hd (by rw [hv]; exact hc)))
            clear hc
            clear hd0x
            go_wp2_with fail
            refine (digit_any b s i wr HL.out.st.r hs HL.out.le).mono ?_
            rintro e w1 ⟨rfl, n1, rfl⟩
            go_wp2_with fail
            refine (digits_yes 1 hnum (HL.out.st.r.drewN n1) hs HL.out.le (by omega) rfl).mono ?_
            rintro e w2 ⟨rfl, s2⟩
            have S2 := Lib.hid ((HL.out.st.drewN n1).trans s2)
            clear s2
            go_wp2_with fail
            go_roundg (s.size - (i + 1))
            case rel => exact ⟨i + 1, _, false, f - 1, rfl, rfl, rfl, ⟨S2.out, HR.out, hin, by have := HL.out.fuel; omega, HL.out.n0, HL.out.n1⟩⟩
            case measure => omega
          | true =>
            cases h3 : decide ((v : Int) ≤ 7) with
            | false =>
              have hc : (true && cgo n v) = false := by simp only [cgo]; rw [h1, h2, h3]; rfl
              have HR := Lib.hid (HL.out.eq.trans (countFrom_no (by have := HL.out.fuel; omega) hd (by rw [hv]; exact hc)))
              clear hc
              clear hd0x
              go_wp2_with fail
              refine (digit_any b s i wr HL.out.st.r hs HL.out.le).mono ?_
              rintro e w1 ⟨rfl, n1, rfl⟩
              go_wp2_with fail
              refine (digits_yes 1 hnum (HL.out.st.r.drewN n1) hs HL.out.le (by omega) rfl).mono ?_
              rintro e w2 ⟨rfl, s2⟩
              have S2 := Lib.hid ((HL.out.st.drewN n1).trans s2)
              clear s2
              go_wp2_with fail
              go_roundg (s.size - (i + 1))
              case rel => exact ⟨i + 1, _, false, f - 1, rfl, rfl, rfl, ⟨S2.out, HR.out, hin, by have := HL.out.fuel; omega, HL.out.n0, HL.out.n1⟩⟩
              case measure => omega
            | true =>
              have hc : (true && cgo n v) = true := by simp only [cgo]; rw [h1, h2, h3]; rfl
              have HR := Lib.hid (HL.out.eq.trans (countFrom_yes (by have := HL.out.fuel; omega) hd (by rw [hv]; exact hc)))
              rw [hv] at HR
              have HN : Hid (0 ≤ n * 10 + (v : Int) ∧ n * 10 + (v : Int) ≤ 9223372036854775807) := Lib.hid (by have := HL.out.n0; simp at h1 h2 h3; omega)
              have w1e : IntKind.i64.wrap (n * 10) = n * 10 := by rw [IntKind.wrap_i64]; have := HL.out.n0; simp at h1 h2 h3; omega
              have w2e : IntKind.i64.wrap (n * 10 + (v : Int)) = n * 10 + (v : Int) := by rw [IntKind.wrap_i64]; have := HN.out; omega
              clear hc
              clear hd0x
              go_wp2_with fail
              refine (digit_any b s i wr HL.out.st.r hs HL.out.le).mono ?_
              rintro e w1 ⟨rfl, n1, rfl⟩
              go_wp2_with fail
              refine (digits_yes 1 hnum (HL.out.st.r.drewN n1) hs HL.out.le (by omega) rfl).mono ?_
              rintro e w2 ⟨rfl, s2⟩
              have S2 := Lib.hid ((HL.out.st.drewN n1).trans s2)
              clear s2
              go_wp2_with fail
              go_roundg (s.size - (i + 1))
              case rel => exact ⟨i + 1, _, true, f - 1, rfl, rfl, rfl, ⟨S2.out, HR.out, hin, by have := HL.out.fuel; omega, HN.out.1, HN.out.2⟩⟩
              case measure => omega

end Go.Proofs.YtkhpdiilghncgaaGreatDoor
