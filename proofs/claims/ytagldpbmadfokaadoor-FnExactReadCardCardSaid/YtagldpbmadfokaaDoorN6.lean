/- Cards with an emptied field; the part of a field with a code. -/
import Derived.Test.YtagldpbmadfokaaDoorN5
import Derived.Test.YtagldpbmadfokaaDoorLate
set_option linter.unusedVariables false
set_option linter.unusedSimpArgs false
namespace Go.Proofs.YtagldpbmadfokaaDoor
open Go.RowKit
set_option maxHeartbeats 2000000
theorem I8_of_ok {k sz : Int} (h : okSz k sz) : I16 sz := by obtain ⟨h1, h2⟩ := h; unfold I16; omega
/-! ### Cards and fields at once -/
def cfB (s : ByteArray) (b : Wd) (t : ByteArray) (k st sz : Int) : Bool := cardB s b && fieldB t k st sz
def cfE (s : ByteArray) (b : Wd) (t : ByteArray) (k st sz : Int) : Int := cond (cfB s b t k st sz) 0 1
def nilS : ByteArray := ⟨#[]⟩
def clS (s : ByteArray) (b : Wd) (t : ByteArray) (k st sz : Int) : ByteArray := cond (cfB s b t k st sz) s (⟨#[]⟩ : ByteArray)
def clLo (s : ByteArray) (a b : Wd) (t : ByteArray) (k st sz : Int) : Wd := cond (cfB s b t k st sz) (a &&& ~~~paLo k st sz) 0#64
def clHi (s : ByteArray) (a b : Wd) (t : ByteArray) (k st sz : Int) : Wd := cond (cfB s b t k st sz) (b &&& ~~~paHi k st sz) 0#64
end Go.Proofs.YtagldpbmadfokaaDoor
