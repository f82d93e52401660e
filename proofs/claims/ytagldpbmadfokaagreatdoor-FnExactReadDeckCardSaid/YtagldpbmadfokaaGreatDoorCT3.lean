/- The text of a card: the two functions and the law. -/
import Derived.Test.YtagldpbmadfokaaGreatDoorCT2
import Derived.Test.YtagldpbmadfokaaGreatDoorW8
set_option linter.unusedVariables false
set_option linter.unusedSimpArgs false
namespace Go.Proofs.YtagldpbmadfokaaGreatDoor
open Go.RowKit Go.Shelf
set_option maxHeartbeats 2000000
set_option maxRecDepth 20000
def ctX (s : ByteArray) (a b : Wd) : ByteArray := cond (cardB s b) (ctT s a b) ByteArray.empty
theorem name_16 {s : ByteArray} {b : Wd} (h : cardB s b = true) : s.size ≤ 16 := by
  unfold cardB at h
  simp only [Bool.and_eq_true] at h
  have := h.1
  unfold nameB at this
  simp only [Bool.and_eq_true, decide_eq_true_eq] at this
  exact this.1.2
end Go.Proofs.YtagldpbmadfokaaGreatDoor
