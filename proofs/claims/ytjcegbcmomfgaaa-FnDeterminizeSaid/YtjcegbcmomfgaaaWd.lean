/-
  Words: lists of letters, as the program's strings; the walk over impl.letterText.
  Condition: the letter is 0, 1 or 2.
-/
import Derived.Test.YtjcegbcmomfgaaaGrow
import Derived.Test.YtjcegbcmomfgaaaProg
import Derived.Laws.BytesArg
namespace Go.Proofs.Ytjcegbcmomfgaaa
open Go.RowKit

/-- A word's text. -/
def wdB (l : List Nat) : ByteArray := ⟨(l.map fun c => UInt8.ofNat (97 + c)).toArray⟩
abbrev wdCells (ws : List (List Nat)) : List Value := ws.map fun l => Value.string (wdB l)
theorem wdB_nil : wdB [] = { data := #[] } := rfl
theorem wdB_snoc (l : List Nat) (c : Nat) : wdB (l ++ [c]) = wdB l ++ wdB [c] := by
  apply ByteArray.ext
  simp [wdB, ByteArray.data_append]
theorem wdB_size (l : List Nat) : (wdB l).size = l.length := by simp [wdB, ByteArray.size]

theorem strOfNums_letter (c : Nat) (hc : c < 3) : strOfNums [97 + (c : Int)] = wdB [c] := by
  obtain rfl | rfl | rfl : c = 0 ∨ c = 1 ∨ c = 2 := by omega
  all_goals rfl
/-- A byte made into a string: 'string([]byte{byte('a' + c)})'. -/
theorem conv_letter (c : Nat) (hc : c < 3) (w : World) (b cap : Nat) (h : w.cell? ⟨b, 0, none⟩ = some (.int .u8 (97 + (c : Int)))) :
    (convert 22 9 (.slice (some ⟨b, 0, none⟩) 1 cap)).run Try.prog w = .ok (.string (wdB [c])) w := by
  rw [← strOfNums_letter c hc]
  exact run_convert_bytes_arg w 22 5 Try.underlying22 Try.underlying5 b 0 1 cap [97 + (c : Int)] rfl (fun i hi => by
    obtain rfl : i = 0 := by omega
    simpa using h) 9 Try.underlying9
theorem wrap8_letter (c : Nat) (hc : c < 3) : IntKind.u8.wrap (97 + (c : Int)) = 97 + (c : Int) := by
  obtain rfl | rfl | rfl : c = 0 ∨ c = 1 ∨ c = 2 := by omega
  all_goals rfl
end Go.Proofs.Ytjcegbcmomfgaaa
