/- For the rows: the witness at a world in its shape; what a row's reach says of a string; a world that has grown, below. -/
import Derived.Test.YtkhpdiilghncgaaGreatDoorGm
import Derived.ProofKit
import Derived.OpenShut
import Derived.LaidMore
import Derived.Lay
import Derived.Stop.Joined
import Derived.Deep.DeepHandedRow
namespace Go.Proofs.YtkhpdiilghncgaaGreatDoor
open Go.ChangeShapes Go.WideShapes Go.ChangeAt Go.RowKit

theorem own : ownKnob Tryz.prog.godebug = none := by kernel_rfl
theorem row_witness {H : Type} {enc : TypeId × Value → H} {C : Checked} {os : Os} {f : FuncId} {fn : Func} {s : OpenSpec} {conds : List PathCond} {apart : Bool} {laid : List (String × DataW Unit)} (modest : Bool) (w0 : World) (args : Array Value) (hos : w0.os = os)
    (hsh : (w0.forCall (fun _ _ => 0) ⟨#[], args, []⟩).Shaped C.prog)
    (hok : Input.okWideB C.prog (w0.forCall (fun _ _ => 0) ⟨#[], args, []⟩) f ⟨#[], args, []⟩ = true)
    (hrow : s.preRow enc C.prog fn conds apart laid (w0.forCall (fun _ _ => 0) ⟨#[], args, []⟩).memory args) :
    ∃ (w : World) (tape : Tape) (i : Input), w.os = os ∧ (w.forCall tape i).Shaped C.prog ∧ i.vars = [] ∧ Input.okWide C.prog (w.forCall tape i) .any w.heap.size f i ∧
      s.preRow enc C.prog fn conds apart laid (w.forCall tape i).memory i.args ∧ ({ modest := modest } : Assume).holds C.prog (lone (Frame.enter C.prog f i.args .normal) [] (w.forCall tape i)) :=
  ⟨w0, fun _ _ => 0, ⟨#[], args, []⟩, hos, hsh, (Input.okWide_of_okWideB (base := 0) hok).1, (Input.okWide_of_okWideB hok).2, hrow, by
    simp only [Assume.holds]
    exact ⟨by simp, by simp, fun _ => Modest.zero, by simp, by simp⟩⟩
theorem grown_below {w w' : World} (h : w.grownBy w' none) : Below w.heap.size w w' :=
  (Below.refl _ _).grown h (Nat.le_refl _) (fun k hk => by cases hk)
theorem maxlen_of {W : World} (h : W.ShapedOpen Tryz.prog) : ∃ m, W.cell? ⟨1, 0, none⟩ = some (.int .i64 m) := Tryz.laysM146.s1_3 W h

theorem reach_one {s : ByteArray} {l : List Nat} (h : l.all (· ≤ reachBytes) = true) (hm : s.data.toList.length ∈ l) : s.size ≤ 140737488351232 := by
  have h2 : s.data.toList.length ≤ reachBytes := of_decide_eq_true (List.all_eq_true.1 h s.data.toList.length hm)
  have hsl : s.data.toList.length = s.size := Array.length_toList
  rw [hsl] at h2
  simpa [reachBytes] using h2

end Go.Proofs.YtkhpdiilghncgaaGreatDoor
