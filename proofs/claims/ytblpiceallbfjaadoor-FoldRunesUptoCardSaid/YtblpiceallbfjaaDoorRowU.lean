/- The row's frame for the laws that decode texts: a world that fits (the witness), and what the listed package-level variables give every walk (Gu). -/
import Derived.Test.YtblpiceallbfjaaDoorRows
import Derived.Test.YtblpiceallbfjaaDoorGlobals
import Derived.Test.YtblpiceallbfjaaDoorShelf
import Derived.WalkKit
import Derived.ProofKit
import Derived.OpenShut
import Derived.ShutString
import Derived.ChangeOld
import Derived.Below
import Derived.SizedLaws
import Derived.Deep.DeepHandedRow
import Derived.Deep.DeepWitnessRowRef
import Derived.Lib.LaidIn
import Derived.Lib.LaidU8
import Derived.Lib.LaidTab
namespace Go.Proofs.YtblpiceallbfjaaDoor.RowU
open Go.ChangeShapes Go.WideShapes Go.ChangeAt Go.RowKit

theorem own : ownKnob Tryd.prog.godebug = none := by kernel_rfl
theorem laidOut : laidOutB Tryd.prog = true := by kernel_rfl

def IsRow (k : IntKind) (w : World) (a : Option Addr) (len cap : Nat) (zs : List Int) : Prop :=
  (a = none ∧ len = 0 ∧ cap = 0 ∧ zs = []) ∨
  ∃ x, a = some x ∧ len ≤ cap ∧ cap ≤ maxLen ∧ zs.length = cap ∧ (∀ i, i < zs.length → w.cell? (x.add i) = some (.int k (zs.getD i 0))) ∧ ∀ n ∈ zs, (Lit.int k n).wf = true

/-- The four listed variables. -/
noncomputable def lst : List (String × DataW Unit) := [("unicode/utf8.acceptRanges", Rows.laid_unicode_utf8_acceptRanges), ("unicode.White_Space", Rows.laid_unicode_White_Space), ("strings.asciiSpace", Rows.laid_strings_asciiSpace), ("unicode/utf8.first", Rows.laid_unicode_utf8_first)]
set_option maxRecDepth 100000 in
theorem lst_eq : lst = [("unicode/utf8.acceptRanges", Lib.acceptData), ("unicode.White_Space", Lib.whiteData), ("strings.asciiSpace", Lib.tabData .u8 Lib.asciiSpaceTab), ("unicode/utf8.first", Lib.firstData)] := by kernel_rfl

/-- A world for the witness: the settled one with two blocks more (White_Space's ranges; its RangeTable), the four variables holding what their initialisers lay. -/
noncomputable def laidWorld (os : Os) : World :=
  let N := (World.settled Tryd.prog os).heap.size
  let w0 := World.holding Tryd.prog os ⟨#[.cells (Lib.whiteT.map fun (z : Nat) => Value.int .u16 (z : Int)).toArray 192, .cells #[.slice (some ⟨N, 0, none⟩) 7 7, .slice none 0 0, .int .i64 2] 189], #[], []⟩
  let put (h : Array Obj) (g : Nat) (cs : Array Value) : Array Obj := h.modify g fun
    | .cells _ t frozen => .cells cs t frozen
    | o => o
  { w0 with heap := put (put (put (put w0.heap 2 (Lib.asciiSpaceTab.map fun z => Value.int .u8 z).toArray) 0 (Lib.firstTab.map fun z => Value.int .u8 z).toArray)
      1 ((List.range 16).flatMap fun i => [Value.int .u8 (Lib.accLo i), Value.int .u8 (Lib.accHi i)]).toArray) 3 #[.pointer (some ⟨N + 1, 0, none⟩)] }
noncomputable abbrev N0 : Nat := (World.settled Tryd.prog default).heap.size
set_option maxRecDepth 1000000 in
theorem laid_met (os : Os) (args : Array Value) : laidMet Tryd.prog lst ((laidWorld os).forCall (fun _ _ => 0) ⟨#[], args, []⟩).memory := by
  rw [lst_eq]
  exact (LaidIn.of_run [2, 0, 1, 3, N0, N0 + 1] 10 (by kernel_rfl) (by kernel_rfl) (by kernel_rfl) (by kernel_rfl)).met

theorem gu_of_laid {W : World} (h : laidMet Tryd.prog lst W) (hr : 2 < W.heap.size) : Pr.Gu W := by
  rw [lst_eq] at h
  refine ⟨utf8Tabs_of_reads (ρ := Tryd.lays260_ren) { Tryd.lays260 with } ⟨by kernel_rfl, by kernel_rfl, by kernel_rfl, by kernel_rfl, by kernel_rfl, by kernel_rfl, by kernel_rfl⟩ (Lib.laidMet.reads h (.tail _ (.tail _ (.tail _ (.head _))))) (Lib.laidMet.reads h (.head _)), ?_, hr⟩
  obtain ⟨g, t, cs, fuel, p, hg, hty, hvar, hd⟩ := Lib.laidMet.reads h (n := "strings.asciiSpace") (d := Lib.tabData .u8 Lib.asciiSpaceTab) (.tail _ (.tail _ (.head _)))
  obtain rfl := Option.some.inj (Pr.gSpace.symm.trans hg)
  obtain rfl := Option.some.inj ((show (Tryd.prog.globals[2]?).map (·.type) = some 148 by kernel_rfl).symm.trans hty)
  have hcs := Lib.cells_of_tab Tryd.underlying148 Tryd.underlying5 (by kernel_rfl) (by kernel_rfl) hd
  unfold Lib.TabIs
  rw [hvar]
  congr 1
  rw [← hcs]
theorem room {W : World} (h : laidMet Tryd.prog lst W) : 2 < W.heap.size := by
  rw [lst_eq] at h
  obtain ⟨g, t, cs, fuel, p, hg, hty, hvar, hd⟩ := Lib.laidMet.reads h (n := "strings.asciiSpace") (d := Lib.tabData .u8 Lib.asciiSpaceTab) (.tail _ (.tail _ (.head _)))
  have := World.var?_cell hg hvar 0
  obtain rfl := Option.some.inj (Pr.gSpace.symm.trans hg)
  have hcs := Lib.cells_of_tab Tryd.underlying148 Tryd.underlying5 (by kernel_rfl) (by kernel_rfl) (by
    obtain rfl := Option.some.inj ((show (Tryd.prog.globals[2]?).map (·.type) = some 148 by kernel_rfl).symm.trans hty)
    exact hd)
  rw [← Array.getElem?_toList, hcs] at this
  exact World.block_lt_of_cell? W _ (this.trans rfl)
theorem gu {W : World} (h : laidMet Tryd.prog lst W) : Pr.Gu W := gu_of_laid h (room h)
end Go.Proofs.YtblpiceallbfjaaDoor.RowU
