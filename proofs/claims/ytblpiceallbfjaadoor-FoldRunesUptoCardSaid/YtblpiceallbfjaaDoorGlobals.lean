/- What the package-level variables hold that the walked code reads (Gu: what decoding a text and strings.Fields read), and that it stays where a call leaves the elder memory alone. -/
import Derived.Test.YtblpiceallbfjaaDoorPr0
import Derived.Shelf.Unicode.DecodeSlow
import Derived.Shelf.Strings.Fields
import Derived.WalkSmall
namespace Go.Proofs.YtblpiceallbfjaaDoor.Pr
open Go.RowKit

structure Gu (w : World) : Prop where
  tabs : Lib.Utf8Tabs 0 1 w
  space : Lib.TabIs Tryd.prog w "strings.asciiSpace" .u8 Lib.asciiSpaceTab
  room : 2 < w.heap.size

theorem gSpace : Tryd.prog.globalNamed "strings.asciiSpace" = some 2 := by kernel_rfl

theorem Gu.below {w W : World} (h : Gu w) (hb : Below w.heap.size w W) : Gu W := by
  refine ⟨⟨fun c hc => ?_, fun i hi => ⟨?_, ?_⟩⟩, var?_below hb gSpace h.room h.space, Nat.lt_of_lt_of_le h.room hb.size⟩
  · have := h.tabs.1 c hc
    rw [hb.cell (World.block_lt_of_cell? w _ this)]; exact this
  · have := (h.tabs.2 i hi).1
    rw [hb.cell (World.block_lt_of_cell? w _ this)]; exact this
  · have := (h.tabs.2 i hi).2
    rw [hb.cell (World.block_lt_of_cell? w _ this)]; exact this

def Gm (w : World) : Prop := True
theorem Gm.below {w W : World} (_h : Gm w) (_hb : Below w.heap.size w W) : Gm W := trivial
end Go.Proofs.YtblpiceallbfjaaDoor.Pr
