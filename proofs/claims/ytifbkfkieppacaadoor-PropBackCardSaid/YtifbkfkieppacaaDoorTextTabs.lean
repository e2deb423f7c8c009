/- The two tables of package unicode/utf8, as the listed variables give them; Go's decoder by the library's contract. -/
import Derived.Test.YtifbkfkieppacaaDoorRows
import Derived.Test.YtifbkfkieppacaaDoorAux
import Derived.Test.YtifbkfkieppacaaDoorTextPlain
import Derived.Test.YtifbkfkieppacaaDoorShelf
import Derived.Lib.LaidU8T
import Derived.PinnedBridge
import Derived.Shelf.Spec.BytesIndexFunc
namespace Go.Proofs.YtifbkfkieppacaaDoor
open Go.RowKit Pl Go.Shelf Go.Lib
/-- The two tables lie there. -/
def Tabs (w : World) : Prop := Lib.Utf8Tabs 0 1 w
theorem Tabs.below {w w' : World} (h : Tabs w) (hb : Below w.heap.size w w') : Tabs w' := Utf8Tabs_below h hb
theorem accept_eq : (Rows.laid_unicode_utf8_acceptRanges : DataW Unit) = Lib.acceptData := by kernel_rfl
theorem first_eq : Rows.laid_unicode_utf8_first = Lib.firstData := Pinned.utf8First_eq
theorem tabs_of {w : World} (h3 : Lib.VarReads Tryd.prog w "unicode/utf8.first" Rows.laid_unicode_utf8_first) (h4 : Lib.VarReads Tryd.prog w "unicode/utf8.acceptRanges" Rows.laid_unicode_utf8_acceptRanges) :
    Lib.Utf8Tabs 0 1 w := by
  rw [first_eq] at h3
  rw [accept_eq] at h4
  exact utf8Tabs_of_readsT (U8Types.of260 Tryd.lays260) ⟨by kernel_rfl, by kernel_rfl, by kernel_rfl, by kernel_rfl, by kernel_rfl, by kernel_rfl, by kernel_rfl⟩ h3 h4
end Go.Proofs.YtifbkfkieppacaaDoor
