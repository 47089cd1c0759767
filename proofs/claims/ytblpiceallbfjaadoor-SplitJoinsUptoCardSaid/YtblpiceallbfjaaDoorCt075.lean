/- Texts of this claim, one behind the other, of each what the row uses: Globals, Shelf, RowU, Utf, FoldA, FoldB, FoldC, Build, FoldD, FoldE, ExtCells, ExtFold. -/
import Derived.Test.YtblpiceallbfjaaDoorCt072
import Derived.Shelf.Unicode.DecodeSlow
import Derived.Shelf.Strings.Fields
import Derived.WalkSmall
import Derived.Shelf.Strings.Builder1
import Derived.Shelf.Strings.Builder2
import Derived.Shelf.Strings.OnBuilder
import Derived.Shelf.Small.Utf8
import Derived.Shelf.Small.Strs
import Derived.Shelf.Strings.BuilderF
import Derived.Shelf.Strings.BuilderK
import Derived.Shelf.Strings.Builder2Cap
import Derived.Shelf.Strconv.Atoi
import Derived.Shelf.Strconv.Itoa0
import Derived.Shelf.Strconv.Itoa1
import Derived.Shelf.LaysM
import Derived.Shelf.Strconv.Itoa2
import Derived.Shelf.Strconv.Itoa3
import Derived.Shelf.Strconv.AtoiErrFast
import Derived.Shelf.Strconv.ParseIntEmpty
import Derived.Shelf.Strconv.AtoiFail
import Derived.Shelf.Strconv.Clone
import Derived.Shelf.Strconv.SyntaxError
import Derived.Shelf.LaysC
import Derived.Shelf.Strconv.ToError
import Derived.Shelf.Strconv.AtoiErr
import Derived.Shelf.Strconv.ErrVar
import Derived.Shelf.Strconv.Lower
import Derived.Shelf.Strconv.ParseUint10
import Derived.Shelf.Strconv.ParseUint10Empty
import Derived.Shelf.Strconv.ParseUint10Any
import Derived.Shelf.Strconv.ParseInt10
import Derived.Shelf.Strconv.AtoiLong
import Derived.Shelf.Strconv.AtoiInnerAll
import Derived.Shelf.Strconv.RangeError
import Derived.Shelf.Strconv.ToErrorRange
import Derived.Shelf.Strconv.AtoiAll
import Derived.Shelf.Strconv.ErrVarAll
import Derived.Shelf.Strconv.ParseUintEmpty
import Derived.Shelf.Strconv.ParseUint10b64
import Derived.Shelf.Strconv.ParseUint10b32
import Derived.Shelf.Strconv.ParseUint10b16
import Derived.Shelf.Strconv.ParseUint10b8
import Derived.Shelf.Strconv.ParseUint10At
import Derived.Shelf.Strconv.ParseInt10At64
import Derived.Shelf.Strconv.ParseInt10At32
import Derived.Shelf.Strconv.ParseInt10At16
import Derived.Shelf.Strconv.ParseInt10At8
import Derived.Shelf.Strconv.ParseInt10All
import Derived.Shelf.Strings.Search1
import Derived.Shelf.Strings.SplitShaped
import Derived.Shelf.Unicode.Latin
import Derived.Shelf.Unicode.Decode
import Derived.Shelf.Unicode.DecodeAny
import Derived.Shelf.Unicode.Is16White
import Derived.Shelf.Unicode.IsSpaceAny
import Derived.Shelf.Unicode.Is16WhiteD
import Derived.Shelf.Unicode.IsSpaceAnyD
import Derived.Shelf.Strings.FieldsAny
import Derived.Shelf.Strings.FieldsFuncAny
import Derived.Shelf.Unicode.Is16Any
import Derived.Shelf.Unicode.Is32Any
import Derived.Shelf.Unicode.ExclAny
import Derived.Shelf.Strings.FieldsFuncGrows
import Derived.Shelf.Strings.BuilderCap
import Derived.Test.YtblpiceallbfjaaDoorProg
import Derived.Test.YtblpiceallbfjaaDoorRows
import Derived.WalkKit
import Derived.ProofKit
import Derived.OpenShut
import Derived.ShutString
import Derived.ChangeOld
import Derived.Below
import Derived.SizedLaws
import Derived.Deep.DeepHandedRow
import Derived.Deep.DeepWitnessRowRef
import Derived.Lib.LaidIn
import Derived.Lib.LaidU8
import Derived.Lib.LaidTab
import Derived.Lib.RuneCountTail
import Derived.Lib.OthersKept
import Derived.Lib.Hide
import Derived.Lib.QuoteBits
import Derived.Lib.RabinKarpLaws
import Derived.Laws.EntriesVeiled
import Derived.OneCell
import Derived.Shelf.Strings.BuilderX
import Derived.Lib.FrozenHead2
import Derived.Lib.UnsafeStr
import Derived.Laws.Externs
import Derived.Deep.DeepCutAuto
import Derived.Laws.IdiomStrings
import Derived.Laws.Cover4
/- What the package-level variables hold that the walked code reads (Gu: what decoding a text and strings.Fields read), and that it stays where a call leaves the elder memory alone. -/
namespace Go.Proofs.YtblpiceallbfjaaDoor.Pr
open Go.RowKit
structure Gu (w : World) : Prop where
  tabs : Lib.Utf8Tabs 0 1 w
  space : Lib.TabIs Tryd.prog w "strings.asciiSpace" .u8 Lib.asciiSpaceTab
  room : 2 < w.heap.size
theorem gSpace : Tryd.prog.globalNamed "strings.asciiSpace" = some 2 := by kernel_rfl
theorem Gu.below {w W : World} (h : Gu w) (hb : Below w.heap.size w W) : Gu W := by
  refine ⟨⟨fun c hc => ?_, fun i hi => ⟨?_, ?_⟩⟩, var?_below hb gSpace h.room h.space, Nat.lt_of_lt_of_le h.room hb.size⟩
  · have := h.tabs.1 c hc
    rw [hb.cell (World.block_lt_of_cell? w _ this)]; exact this
  · have := (h.tabs.2 i hi).1
    rw [hb.cell (World.block_lt_of_cell? w _ this)]; exact this
  · have := (h.tabs.2 i hi).2
    rw [hb.cell (World.block_lt_of_cell? w _ this)]; exact this
def Gm (w : World) : Prop := True
theorem Gm.below {w W : World} (_h : Gm w) (_hb : Below w.heap.size w W) : Gm W := trivial
end Go.Proofs.YtblpiceallbfjaaDoor.Pr
/-
  DERIVED: THE SHELF's CONTRACTS AT THIS DUMP, IN PLAIN WORDS (tools/lay-plain.mjs out of 'TrydShelf.lean', which tools/lay-shelf.mjs wrote): THE SAME DECLARATIONS UNDER THE SAME NAMES: 'import', 'namespace', 'open', 'def', 'theorem' AND NOTHING ELSE: no command of the shelf's: FOR A HAND-IN. Each laying: the table of numbers ('.._ren') and one theorem, a field a fact of the dump's own or the kernel's comparison; each contract: ONE APPLICATION.
-/
namespace Go.Proofs
open Go.Shelf
def Tryd.lays169_ren : Go.Shelf.Ren := ⟨fun | 169 => 43 | n => n, fun | 70 => 69 | 9 => 9 | 0 => 0 | 72 => 72 | 37 => 70 | 127 => 117 | 3 => 3 | 5 => 5 | n => n, fun | n => n⟩
theorem Tryd.lays169 : Go.Proofs.Lays.n169 Tryd.prog Tryd.lays169_ren := {
  mixed := by kernel_rfl
  f169 := Tryd.func43.trans (congrArg some (by kernel_rfl))
  t0 := Tryd.underlying0
  a0 := Tryd.isAgg0
  z0 := Tryd.sizeOf0
  v0 := Tryd.zeroValue0
  t3 := Tryd.underlying3
  a3 := Tryd.isAgg3
  z3 := Tryd.sizeOf3
  v3 := Tryd.zeroValue3
  t9 := Tryd.underlying9
  a9 := Tryd.isAgg9
  z9 := Tryd.sizeOf9
  v9 := Tryd.zeroValue9
  t37 := Tryd.underlying70
  a37 := Tryd.isAgg70
  z37 := Tryd.sizeOf70
  v37 := Tryd.zeroValue70
  t70 := Tryd.underlying69
  a70 := Tryd.isAgg69
  z70 := Tryd.sizeOf69
  v70 := Tryd.zeroValue69
  t72 := Tryd.underlying72
  a72 := Tryd.isAgg72
  z72 := Tryd.sizeOf72
  v72 := Tryd.zeroValue72
  t127 := Tryd.underlying117
  a127 := Tryd.isAgg117
  z127 := Tryd.sizeOf117
  v127 := Tryd.zeroValue117 }
theorem Tryd.Builder_Extra_169 : Builder.Extra Tryd.prog Tryd.lays169_ren := {
  sizeBuilder := by kernel_rfl
  liesBuilder := by kernel_rfl
  t5 := Tryd.underlying5
  a5 := Tryd.isAgg5
  z5 := Tryd.sizeOf5
  v5 := Tryd.zeroValue5
  infoByte := by kernel_rfl
  cellsByte := by kernel_rfl
  sizeByte := by kernel_rfl
  neB5 := by decide }
def Tryd.lays118_ren : Go.Shelf.Ren := ⟨fun | 118 => 74 | n => n, fun | 21 => 21 | 3 => 3 | 4 => 4 | n => n, fun | n => n⟩
theorem Tryd.lays118 : Go.Proofs.Lays.n118 Tryd.prog Tryd.lays118_ren := {
  mixed := by kernel_rfl
  f118 := Tryd.func74.trans (congrArg some (by kernel_rfl))
  t3 := Tryd.underlying3
  a3 := Tryd.isAgg3
  z3 := Tryd.sizeOf3
  v3 := Tryd.zeroValue3
  t4 := Tryd.underlying4
  a4 := Tryd.isAgg4
  z4 := Tryd.sizeOf4
  v4 := Tryd.zeroValue4
  t21 := Tryd.underlying21
  a21 := Tryd.isAgg21
  z21 := Tryd.sizeOf21
  v21 := Tryd.zeroValue21 }
/-- utf8.RuneLen: "RuneLen returns the number of bytes in the UTF-8 encoding of the rune. It returns -1 if the rune is not a valid value to encode in UTF-8.": IT RETURNS 'Lib.runeLen r'; the world is as it was. (LAID: no walk: one application.) -/
theorem Tryd.utf8_RuneLen (r : Int) (w : World) :
    Calls Tryd.prog 74 #[.int .i32 r] w fun e w' => e = .returned (.int .i64 (Lib.runeLen r)) ∧ w' = w := Any.utf8_RuneLen Tryd.lays118 r w
open Go.RowKit in
/-- (*strings.Builder).String: "String returns the accumulated string.": WHATEVER THE BUILDER HOLDS; THE FORM '_k': OVER 'Lib.IsBuilderF' (a builder that 'String()' may have read), AND WITH THE FRAME THAT REACHES ABOVE THE BUILDER: 'Lib.OthersKept': every block that is not b and is no row of uint8's stands as it stood: the iterator of a range among them. (LAID: no walk: one application.) -/
theorem Tryd.Builder_String_any_k (B b : Nat) (l : List UInt8) (w : World) (h : Lib.IsBuilderF 72 5 B b (Lib.byteCells l) w) (hBw : B ≤ w.heap.size) :
    Calls Tryd.prog 43 #[.pointer (some ⟨b, 0, none⟩)] w fun e w' => e = .returned (.string ⟨l.toArray⟩) ∧ (Lib.IsBuilderF 72 5 B b (Lib.byteCells l) w' ∧ Below B w w' ∧ Lib.OthersKept 5 (some b) w w') := Any.Builder_String_any_k Tryd.lays169 Tryd.Builder_Extra_169 B b l w h hBw
def Tryd.laysM157_ren : Go.Shelf.Ren := ⟨fun | 157 => 99 | 229 => 110 | 199 => 111 | 261 => 128 | 311 => 137 | 312 => 138 | n => n, fun | 9 => 9 | 31 => 40 | 3 => 3 | 5 => 5 | 4 => 4 | 119 => 148 | 0 => 0 | 40 => 153 | 152 => 170 | 21 => 21 | 154 => 172 | 51 => 173 | 141 => 175 | 196 => 189 | 193 => 186 | 198 => 192 | 49 => 190 | 194 => 187 | 201 => 195 | 226 => 202 | 46 => 136 | 227 => 203 | n => n, fun | 0 => 2 | 6 => 3 | n => n⟩
theorem Tryd.laysM157 : Go.Proofs.LaysM.n157 Tryd.prog Tryd.laysM157_ren := {
  mixed := by kernel_rfl
  f157 := Tryd.func99.trans (congrArg some (by kernel_rfl))
  f199 := Tryd.func111.trans (congrArg some (by kernel_rfl))
  f229 := Tryd.func110.trans (congrArg some (by kernel_rfl))
  f261 := Tryd.func128.trans (congrArg some (by kernel_rfl))
  f311 := Tryd.func137.trans (congrArg some (by kernel_rfl))
  f312 := Tryd.func138.trans (congrArg some (by kernel_rfl))
  t0 := Tryd.underlying0
  a0 := Tryd.isAgg0
  z0 := Tryd.sizeOf0
  v0 := Tryd.zeroValue0
  t3 := Tryd.underlying3
  a3 := Tryd.isAgg3
  z3 := Tryd.sizeOf3
  v3 := Tryd.zeroValue3
  t4 := Tryd.underlying4
  a4 := Tryd.isAgg4
  z4 := Tryd.sizeOf4
  v4 := Tryd.zeroValue4
  t5 := Tryd.underlying5
  a5 := Tryd.isAgg5
  z5 := Tryd.sizeOf5
  v5 := Tryd.zeroValue5
  t9 := Tryd.underlying9
  a9 := Tryd.isAgg9
  z9 := Tryd.sizeOf9
  v9 := Tryd.zeroValue9
  t21 := Tryd.underlying21
  a21 := Tryd.isAgg21
  z21 := Tryd.sizeOf21
  v21 := Tryd.zeroValue21
  t31 := Tryd.underlying40
  a31 := Tryd.isAgg40
  z31 := Tryd.sizeOf40
  v31 := Tryd.zeroValue40
  t40 := Tryd.underlying153
  a40 := Tryd.isAgg153
  z40 := Tryd.sizeOf153
  v40 := Tryd.zeroValue153
  t46 := Tryd.underlying136
  a46 := Tryd.isAgg136
  z46 := Tryd.sizeOf136
  v46 := Tryd.zeroValue136
  t49 := Tryd.underlying190
  a49 := Tryd.isAgg190
  z49 := Tryd.sizeOf190
  v49 := Tryd.zeroValue190
  t51 := Tryd.underlying173
  a51 := Tryd.isAgg173
  z51 := Tryd.sizeOf173
  v51 := Tryd.zeroValue173
  t119 := Tryd.underlying148
  a119 := Tryd.isAgg148
  z119 := Tryd.sizeOf148
  t141 := Tryd.underlying175
  a141 := Tryd.isAgg175
  z141 := Tryd.sizeOf175
  v141 := Tryd.zeroValue175
  t152 := Tryd.underlying170
  a152 := Tryd.isAgg170
  z152 := Tryd.sizeOf170
  v152 := Tryd.zeroValue170
  t154 := Tryd.underlying172
  a154 := Tryd.isAgg172
  z154 := Tryd.sizeOf172
  v154 := Tryd.zeroValue172
  t193 := Tryd.underlying186
  a193 := Tryd.isAgg186
  z193 := Tryd.sizeOf186
  v193 := Tryd.zeroValue186
  t194 := Tryd.underlying187
  a194 := Tryd.isAgg187
  z194 := Tryd.sizeOf187
  v194 := Tryd.zeroValue187
  t196 := Tryd.underlying189
  a196 := Tryd.isAgg189
  z196 := Tryd.sizeOf189
  v196 := Tryd.zeroValue189
  t198 := Tryd.underlying192
  a198 := Tryd.isAgg192
  z198 := Tryd.sizeOf192
  v198 := Tryd.zeroValue192
  t201 := Tryd.underlying195
  a201 := Tryd.isAgg195
  z201 := Tryd.sizeOf195
  v201 := Tryd.zeroValue195
  t226 := Tryd.underlying202
  a226 := Tryd.isAgg202
  z226 := Tryd.sizeOf202
  v226 := Tryd.zeroValue202
  t227 := Tryd.underlying203
  a227 := Tryd.isAgg203
  z227 := Tryd.sizeOf203
  v227 := Tryd.zeroValue203
  g0 := by kernel_rfl
  g6 := by kernel_rfl
  i0 := by kernel_rfl
  i3 := by kernel_rfl
  i4 := by kernel_rfl
  i5 := by kernel_rfl
  i9 := by kernel_rfl
  i21 := by kernel_rfl
  i31 := by kernel_rfl
  i40 := by kernel_rfl
  i46 := by kernel_rfl
  i49 := by kernel_rfl
  i51 := by kernel_rfl
  i141 := by kernel_rfl
  i152 := by kernel_rfl
  i154 := by kernel_rfl
  i193 := by kernel_rfl
  i194 := by kernel_rfl
  i196 := by kernel_rfl
  i198 := by kernel_rfl
  i201 := by kernel_rfl
  i226 := by kernel_rfl
  i227 := by kernel_rfl
  m0 := by kernel_rfl
  m6 := by kernel_rfl }
open Go.RowKit Go.Lib in
/-- strings.Fields on ASCII bytes. (The table: 'Lib.TabIs', as strings.TrimSpace's contract asks it.) (LAID: no walk: one application.) -/
theorem Tryd.strings_Fields_laid (s : ByteArray) (w : World) (hs : s.size < 4294967281) (hascii : ∀ (j : Nat) b, s.data.toList[j]? = some b → b.toNat < 128) (htab : Lib.TabIs Tryd.prog w "strings.asciiSpace" .u8 Lib.asciiSpaceTab) :
    Calls Tryd.prog 99 #[.string s] w fun e w' =>
      e = .returned (.slice (some ⟨w.heap.size, 0, none⟩) (Lib.fields s.data.toList).length (Lib.fields s.data.toList).length) ∧ w' = w.alloc (.cells ((Lib.fields s.data.toList).map fun l => Value.string ⟨l.toArray⟩).toArray 9) := Any.strings_Fields_laid Tryd.laysM157 s w hs hascii htab
def Tryd.lays197_ren : Go.Shelf.Ren := ⟨fun | 197 => 75 | 260 => 96 | n => n, fun | 9 => 9 | 21 => 21 | 3 => 3 | 4 => 4 | 5 => 5 | 105 => 113 | 119 => 148 | 0 => 0 | 46 => 136 | 139 => 151 | 138 => 150 | n => n, fun | 3 => 0 | 4 => 1 | n => n⟩
theorem Tryd.lays197 : Go.Proofs.Lays.n197 Tryd.prog Tryd.lays197_ren := {
  mixed := by kernel_rfl
  f197 := Tryd.func75.trans (congrArg some (by kernel_rfl))
  f260 := Tryd.func96.trans (congrArg some (by kernel_rfl))
  t0 := Tryd.underlying0
  a0 := Tryd.isAgg0
  z0 := Tryd.sizeOf0
  v0 := Tryd.zeroValue0
  t3 := Tryd.underlying3
  a3 := Tryd.isAgg3
  z3 := Tryd.sizeOf3
  v3 := Tryd.zeroValue3
  t4 := Tryd.underlying4
  a4 := Tryd.isAgg4
  z4 := Tryd.sizeOf4
  v4 := Tryd.zeroValue4
  t5 := Tryd.underlying5
  a5 := Tryd.isAgg5
  z5 := Tryd.sizeOf5
  v5 := Tryd.zeroValue5
  t9 := Tryd.underlying9
  a9 := Tryd.isAgg9
  z9 := Tryd.sizeOf9
  v9 := Tryd.zeroValue9
  t21 := Tryd.underlying21
  a21 := Tryd.isAgg21
  z21 := Tryd.sizeOf21
  v21 := Tryd.zeroValue21
  t46 := Tryd.underlying136
  a46 := Tryd.isAgg136
  z46 := Tryd.sizeOf136
  v46 := Tryd.zeroValue136
  t105 := Tryd.underlying113
  a105 := Tryd.isAgg113
  z105 := Tryd.sizeOf113
  v105 := Tryd.zeroValue113
  t119 := Tryd.underlying148
  a119 := Tryd.isAgg148
  z119 := Tryd.sizeOf148
  t138 := Tryd.underlying150
  a138 := Tryd.isAgg150
  z138 := Tryd.sizeOf150
  v138 := Tryd.zeroValue150
  t139 := Tryd.underlying151
  a139 := Tryd.isAgg151
  z139 := Tryd.sizeOf151
  v139 := Tryd.zeroValue151
  g3 := by kernel_rfl
  g4 := by kernel_rfl }
def Tryd.lays260_ren : Go.Shelf.Ren := ⟨fun | 260 => 96 | n => n, fun | 9 => 9 | 21 => 21 | 3 => 3 | 4 => 4 | 5 => 5 | 119 => 148 | 0 => 0 | 46 => 136 | 139 => 151 | 138 => 150 | n => n, fun | 3 => 0 | 4 => 1 | n => n⟩
theorem Tryd.lays260 : Go.Proofs.Lays.n260 Tryd.prog Tryd.lays260_ren := {
  mixed := by kernel_rfl
  f260 := Tryd.func96.trans (congrArg some (by kernel_rfl))
  t0 := Tryd.underlying0
  a0 := Tryd.isAgg0
  z0 := Tryd.sizeOf0
  v0 := Tryd.zeroValue0
  t3 := Tryd.underlying3
  a3 := Tryd.isAgg3
  z3 := Tryd.sizeOf3
  v3 := Tryd.zeroValue3
  t4 := Tryd.underlying4
  a4 := Tryd.isAgg4
  z4 := Tryd.sizeOf4
  v4 := Tryd.zeroValue4
  t5 := Tryd.underlying5
  a5 := Tryd.isAgg5
  z5 := Tryd.sizeOf5
  v5 := Tryd.zeroValue5
  t9 := Tryd.underlying9
  a9 := Tryd.isAgg9
  z9 := Tryd.sizeOf9
  v9 := Tryd.zeroValue9
  t21 := Tryd.underlying21
  a21 := Tryd.isAgg21
  z21 := Tryd.sizeOf21
  v21 := Tryd.zeroValue21
  t46 := Tryd.underlying136
  a46 := Tryd.isAgg136
  z46 := Tryd.sizeOf136
  v46 := Tryd.zeroValue136
  t119 := Tryd.underlying148
  a119 := Tryd.isAgg148
  z119 := Tryd.sizeOf148
  t138 := Tryd.underlying150
  a138 := Tryd.isAgg150
  z138 := Tryd.sizeOf150
  v138 := Tryd.zeroValue150
  t139 := Tryd.underlying151
  a139 := Tryd.isAgg151
  z139 := Tryd.sizeOf151
  v139 := Tryd.zeroValue151
  g3 := by kernel_rfl
  g4 := by kernel_rfl }
open Go.RowKit Go.Lib in
/-- **unicode/utf8.DecodeRuneInString AT EVERY STRING.** (LAID: no walk: one application.) -/
theorem Tryd.utf8_DecodeRuneInString (s : ByteArray) (w : World) (hT : Lib.Utf8Tabs 0 1 w) :
    Calls Tryd.prog 75 #[.string s] w fun e w' => e = .returned (.tuple #[.int .i32 (Lib.decodeGo s).1, .int .i64 (Lib.decodeGo s).2]) ∧ Below w.heap.size w w' := Any.utf8_DecodeRuneInString Tryd.lays197 s w hT
end Go.Proofs
/- The row's frame for the laws that decode texts: a world that fits (the witness), and what the listed package-level variables give every walk (Gu). -/
namespace Go.Proofs.YtblpiceallbfjaaDoor.RowU
open Go.ChangeShapes Go.WideShapes Go.ChangeAt Go.RowKit
theorem own : ownKnob Tryd.prog.godebug = none := by kernel_rfl
theorem laidOut : laidOutB Tryd.prog = true := by kernel_rfl
/-- The four listed variables. -/
noncomputable def lst : List (String × DataW Unit) := [("unicode/utf8.acceptRanges", Rows.laid_unicode_utf8_acceptRanges), ("unicode.White_Space", Rows.laid_unicode_White_Space), ("strings.asciiSpace", Rows.laid_strings_asciiSpace), ("unicode/utf8.first", Rows.laid_unicode_utf8_first)]
set_option maxRecDepth 100000 in
theorem lst_eq : lst = [("unicode/utf8.acceptRanges", Lib.acceptData), ("unicode.White_Space", Lib.whiteData), ("strings.asciiSpace", Lib.tabData .u8 Lib.asciiSpaceTab), ("unicode/utf8.first", Lib.firstData)] := by kernel_rfl
/-- A world for the witness: the settled one with two blocks more (White_Space's ranges; its RangeTable), the four variables holding what their initialisers lay. -/
noncomputable def laidWorld (os : Os) : World :=
  let N := (World.settled Tryd.prog os).heap.size
  let w0 := World.holding Tryd.prog os ⟨#[.cells (Lib.whiteT.map fun (z : Nat) => Value.int .u16 (z : Int)).toArray 192, .cells #[.slice (some ⟨N, 0, none⟩) 7 7, .slice none 0 0, .int .i64 2] 189], #[], []⟩
  let put (h : Array Obj) (g : Nat) (cs : Array Value) : Array Obj := h.modify g fun
    | .cells _ t frozen => .cells cs t frozen
    | o => o
  { w0 with heap := put (put (put (put w0.heap 2 (Lib.asciiSpaceTab.map fun z => Value.int .u8 z).toArray) 0 (Lib.firstTab.map fun z => Value.int .u8 z).toArray)
      1 ((List.range 16).flatMap fun i => [Value.int .u8 (Lib.accLo i), Value.int .u8 (Lib.accHi i)]).toArray) 3 #[.pointer (some ⟨N + 1, 0, none⟩)] }
noncomputable abbrev N0 : Nat := (World.settled Tryd.prog default).heap.size
set_option maxRecDepth 1000000 in
theorem laid_met (os : Os) (args : Array Value) : laidMet Tryd.prog lst ((laidWorld os).forCall (fun _ _ => 0) ⟨#[], args, []⟩).memory := by
  rw [lst_eq]
  exact (LaidIn.of_run [2, 0, 1, 3, N0, N0 + 1] 10 (by kernel_rfl) (by kernel_rfl) (by kernel_rfl) (by kernel_rfl)).met
theorem gu_of_laid {W : World} (h : laidMet Tryd.prog lst W) (hr : 2 < W.heap.size) : Pr.Gu W := by
  rw [lst_eq] at h
  refine ⟨utf8Tabs_of_reads (ρ := Tryd.lays260_ren) { Tryd.lays260 with } ⟨by kernel_rfl, by kernel_rfl, by kernel_rfl, by kernel_rfl, by kernel_rfl, by kernel_rfl, by kernel_rfl⟩ (Lib.laidMet.reads h (.tail _ (.tail _ (.tail _ (.head _))))) (Lib.laidMet.reads h (.head _)), ?_, hr⟩
  obtain ⟨g, t, cs, fuel, p, hg, hty, hvar, hd⟩ := Lib.laidMet.reads h (n := "strings.asciiSpace") (d := Lib.tabData .u8 Lib.asciiSpaceTab) (.tail _ (.tail _ (.head _)))
  obtain rfl := Option.some.inj (Pr.gSpace.symm.trans hg)
  obtain rfl := Option.some.inj ((show (Tryd.prog.globals[2]?).map (·.type) = some 148 by kernel_rfl).symm.trans hty)
  have hcs := Lib.cells_of_tab Tryd.underlying148 Tryd.underlying5 (by kernel_rfl) (by kernel_rfl) hd
  unfold Lib.TabIs
  rw [hvar]
  congr 1
  rw [← hcs]
theorem room {W : World} (h : laidMet Tryd.prog lst W) : 2 < W.heap.size := by
  rw [lst_eq] at h
  obtain ⟨g, t, cs, fuel, p, hg, hty, hvar, hd⟩ := Lib.laidMet.reads h (n := "strings.asciiSpace") (d := Lib.tabData .u8 Lib.asciiSpaceTab) (.tail _ (.tail _ (.head _)))
  have := World.var?_cell hg hvar 0
  obtain rfl := Option.some.inj (Pr.gSpace.symm.trans hg)
  have hcs := Lib.cells_of_tab Tryd.underlying148 Tryd.underlying5 (by kernel_rfl) (by kernel_rfl) (by
    obtain rfl := Option.some.inj ((show (Tryd.prog.globals[2]?).map (·.type) = some 148 by kernel_rfl).symm.trans hty)
    exact hd)
  rw [← Array.getElem?_toList, hcs] at this
  exact World.block_lt_of_cell? W _ (this.trans rfl)
theorem gu {W : World} (h : laidMet Tryd.prog lst W) : Pr.Gu W := gu_of_laid h (room h)
end Go.Proofs.YtblpiceallbfjaaDoor.RowU
/- Plain facts on decoding UTF-8, no program in sight: decoding a tail of a text, how long a decoded rune is. -/
namespace Go.Proofs.YtblpiceallbfjaaDoor.Utf
open Go
theorem decode_extract (s : ByteArray) (p : Nat) : Utf8.decode (s.extract p s.size) 0 = Utf8.decode s p := by
  rw [Lib.decode_at, Lib.decode_at]
  simp only [Lib.tail_get!, Nat.add_zero, Nat.zero_add, Nat.sub_zero]
  have : (s.extract p s.size).size = s.size - p := by simp
  rw [this]
theorem decodeN_runeLen (n b0 b1 b2 b3 : Nat) (h0 : b0 < 256) (h : Lib.decodeN n b0 b1 b2 b3 ≠ (65533, 1)) : Lib.runeLen ((Lib.decodeN n b0 b1 b2 b3).1 : Int) = (Lib.decodeN n b0 b1 b2 b3).2 := by
  unfold Lib.decodeN at h ⊢
  repeat' split
  all_goals first | (exfalso; simp_all; done) | (simp only [Lib.runeLen]; repeat' split) <;> first | omega | rfl | (simp; omega)
theorem decode_runeLen (s : ByteArray) (p : Nat) (h : Utf8.decode s p ≠ (65533, 1)) : Lib.runeLen ((Utf8.decode s p).1 : Int) = (Utf8.decode s p).2 := by
  rw [Lib.decode_at] at h ⊢
  exact decodeN_runeLen _ _ _ _ _ (by have := (s.get! p).toNat_lt; omega) h
theorem width_pos (s : ByteArray) (pos : Nat) (h : pos < s.size) : 1 ≤ (Utf8.decode s pos).2 := by
  by_cases ha : (s[pos]'h).toNat < 128
  · rw [decode_ascii s pos h ha]
    exact Nat.le_refl _
  · exact (decode_high s pos h (by omega)).2
end Go.Proofs.YtblpiceallbfjaaDoor.Utf
/- fold.lower, fold.letter, fold.unmarked: what they answer of one rune, and that the code comes to it. -/
set_option linter.unusedVariables false
set_option linter.unusedSimpArgs false
namespace Go.Proofs.YtblpiceallbfjaaDoor.Pr
open Go.RowKit Go.Proofs.YtblpiceallbfjaaDoorW.PrintWords Go.Proofs.YtblpiceallbfjaaDoorW.PrintLast Go.Proofs.YtblpiceallbfjaaDoorW.PrintMore
/-- A rune's small form. -/
def smallI (r : Int) : Int :=
  if (65 ≤ r ∧ r ≤ 90) ∨ (192 ≤ r ∧ r ≤ 222 ∧ r ≠ 215) ∨ (913 ≤ r ∧ r ≤ 937 ∧ r ≠ 930) ∨ (1040 ≤ r ∧ r ≤ 1071) then r + 32
  else if 1024 ≤ r ∧ r ≤ 1039 then r + 80
  else if r % 2 = 0 ∧ ((256 ≤ r ∧ r ≤ 311) ∨ (330 ≤ r ∧ r ≤ 375) ∨ (7680 ≤ r ∧ r ≤ 7829)) then r + 1
  else if ¬ r % 2 = 0 ∧ ((313 ≤ r ∧ r ≤ 328) ∨ (377 ≤ r ∧ r ≤ 382)) then r + 1
  else if r = 376 then 255
  else if r = 962 then 963
  else r
/-- u for v, i for j. -/
def letterI (r : Int) : Int := if r = 118 ∨ r = 86 ∨ r = 106 ∨ r = 74 then r - 1 else r
theorem wrap_i32_of (n : Int) (h0 : 0 ≤ n) (h1 : n < 2147483648) : IntKind.i32.wrap n = n := by
  obtain ⟨m, rfl⟩ := Int.eq_ofNat_of_zero_le h0
  exact Lib.wrap_i32_small m (by omega)
theorem two31 : (2 : Int) ^ 31 = 2147483648 := by decide
theorem and1 (r : Int) (h0 : 0 ≤ r) (h1 : r ≤ 2147483646) : Go.bits .and .i32 r 1 = r % 2 := by
  have h := bits_mask .i32 31 (by decide) (fun n h0 h1 => by rw [two31] at h1; exact wrap_i32_of n h0 h1) 1 (by decide) r h0 (by rw [two31]; omega)
  have e : ((2 : Int) ^ 1 - 1) = 1 := by decide
  rw [e] at h
  rw [h]
  omega
theorem or1 (r : Int) (h0 : 0 ≤ r) (h1 : r ≤ 2147483646) : Go.bits .or .i32 r 1 = r + 1 - r % 2 := by
  obtain ⟨n, rfl⟩ := Int.eq_ofNat_of_zero_le h0
  show IntKind.i32.wrap ((BitVec.ofInt 32 (n : Int) ||| BitVec.ofInt 32 ((1 : Nat) : Int)).toNat : Int) = _
  rw [BitVec.toNat_or, BitVec.ofInt_natCast, BitVec.ofInt_natCast, BitVec.toNat_ofNat, BitVec.toNat_ofNat, Nat.mod_eq_of_lt (by omega), Nat.mod_eq_of_lt (by omega), Lib.or_one_nat, Lib.wrap_i32_small _ (by omega)]
  omega
theorem ret_i32 {a b : Int} (h : a = b) : Ending.returned (.int .i32 a) = .returned (.int .i32 b) := by rw [h]
theorem smallCases (r : Int) : r < 65 ∨ (65 ≤ r ∧ r ≤ 90) ∨ (91 ≤ r ∧ r ≤ 191) ∨ (192 ≤ r ∧ r ≤ 214) ∨ r = 215 ∨ (216 ≤ r ∧ r ≤ 222) ∨ (223 ≤ r ∧ r ≤ 255) ∨ (256 ≤ r ∧ r ≤ 311) ∨ r = 312 ∨ (313 ≤ r ∧ r ≤ 328) ∨ r = 329 ∨ (330 ≤ r ∧ r ≤ 375) ∨ r = 376 ∨ (377 ≤ r ∧ r ≤ 382) ∨ (383 ≤ r ∧ r ≤ 912) ∨ (913 ≤ r ∧ r ≤ 929) ∨ r = 930 ∨ (931 ≤ r ∧ r ≤ 937) ∨ (938 ≤ r ∧ r ≤ 961) ∨ r = 962 ∨ (963 ≤ r ∧ r ≤ 1023) ∨ (1024 ≤ r ∧ r ≤ 1039) ∨ (1040 ≤ r ∧ r ≤ 1071) ∨ (1072 ≤ r ∧ r ≤ 7679) ∨ (7680 ≤ r ∧ r ≤ 7829) ∨ 7830 ≤ r := by omega
set_option maxHeartbeats 8000000 in
set_option maxRecDepth 100000 in
theorem fold_lower (r : Int) (w : World) : Calls Tryd.prog 71 #[.int .i32 r] w fun e w' => e = .returned (.int .i32 (smallI r)) ∧ Drawn0 w w' := by
  rcases smallCases r with h | ⟨h, h'⟩ | ⟨h, h'⟩ | ⟨h, h'⟩ | h | ⟨h, h'⟩ | ⟨h, h'⟩ | ⟨h, h'⟩ | h | ⟨h, h'⟩ | h | ⟨h, h'⟩ | h | ⟨h, h'⟩ | ⟨h, h'⟩ | ⟨h, h'⟩ | h | ⟨h, h'⟩ | ⟨h, h'⟩ | h | ⟨h, h'⟩ | ⟨h, h'⟩ | ⟨h, h'⟩ | ⟨h, h'⟩ | ⟨h, h'⟩ | h
  all_goals first
    | (subst h
       go_enter Tryd.func71, Tryd.ntmps71
       go_wp2
       go_ret
       exact ⟨ret_i32 (by decide), Drawn0.refl _⟩)
    | (have ha := fun p => and1 r p (by omega)
       have ho := fun p => or1 r p (by omega)
       first | (replace ha := ha (by omega); replace ho := ho (by omega)) | skip
       go_enter Tryd.func71, Tryd.ntmps71
       go_wp2
       go_ret
       refine ⟨ret_i32 ?_, Drawn0.refl _⟩
       unfold smallI
       repeat' split
       all_goals omega)
    | (go_enter Tryd.func71, Tryd.ntmps71
       go_wp2
       go_ret
       refine ⟨ret_i32 ?_, Drawn0.refl _⟩
       unfold smallI
       repeat' split
       all_goals omega)
end Go.Proofs.YtblpiceallbfjaaDoor.Pr
/- fold.unmarked: what it answers of one rune (a table of 64 runes, gone through as a text), and that the code comes to it. -/
set_option linter.unusedVariables false
set_option linter.unusedSimpArgs false
namespace Go.Proofs.YtblpiceallbfjaaDoor.Pr
open Go.RowKit Go.Proofs.YtblpiceallbfjaaDoorW.PrintWords Go.Proofs.YtblpiceallbfjaaDoorW.PrintLast Go.Proofs.YtblpiceallbfjaaDoorW.PrintMore
def latinS : ByteArray := ⟨#[65, 65, 65, 65, 65, 65, 195, 134, 67, 69, 69, 69, 69, 73, 73, 73, 73, 195, 144, 78, 79, 79, 79, 79, 79, 195, 151, 79, 85, 85, 85, 85, 89, 195, 158, 195, 159, 97, 97, 97, 97, 97, 97, 195, 166, 99, 101, 101, 101, 101, 105, 105, 105, 105, 195, 176, 110, 111, 111, 111, 111, 111, 195, 183, 111, 117, 117, 117, 117, 121, 195, 190, 121]⟩
def latinT : List Int := [65, 65, 65, 65, 65, 65, 198, 67, 69, 69, 69, 69, 73, 73, 73, 73, 208, 78, 79, 79, 79, 79, 79, 215, 79, 85, 85, 85, 85, 89, 222, 223, 97, 97, 97, 97, 97, 97, 230, 99, 101, 101, 101, 101, 105, 105, 105, 105, 240, 110, 111, 111, 111, 111, 111, 247, 111, 117, 117, 117, 117, 121, 254, 121]
def latinP : List Nat := [0, 1, 2, 3, 4, 5, 6, 8, 9, 10, 11, 12, 13, 14, 15, 16, 17, 19, 20, 21, 22, 23, 24, 25, 27, 28, 29, 30, 31, 32, 33, 35, 37, 38, 39, 40, 41, 42, 43, 45, 46, 47, 48, 49, 50, 51, 52, 53, 54, 56, 57, 58, 59, 60, 61, 62, 64, 65, 66, 67, 68, 69, 70, 72, 73]
/-- A rune without its mark. -/
def unmarkedI (r : Int) : Int := if r < 192 ∨ 255 < r then r else latinT.getD (r - 192).toNat r
theorem latin_at : ∀ j, j < 64 → latinP.getD j 0 < latinS.size ∧ Utf8.decode latinS (latinP.getD j 0) = ((latinT.getD j 0).toNat, latinP.getD (j + 1) 0 - latinP.getD j 0) ∧ latinP.getD j 0 < latinP.getD (j + 1) 0 ∧ latinP.getD (j + 1) 0 ≤ 80 ∧ 0 ≤ latinT.getD j 0 ∧ latinT.getD j 0 = latinT.getD j (192 + j) := by decide +kernel
set_option maxHeartbeats 8000000 in
set_option maxRecDepth 100000 in
theorem fold_unmarked (r : Int) (w : World) : Calls Tryd.prog 72 #[.int .i32 r] w fun e w' => e = .returned (.int .i32 (unmarkedI r)) ∧ Below w.heap.size w w' := by
  by_cases h1 : r < 192
  · go_enter Tryd.func72, Tryd.ntmps72
    go_wp2
    go_ret
    exact ⟨ret_i32 (by unfold unmarkedI; rw [if_pos (.inl h1)]), Below.refl _ _⟩
  by_cases h2 : 255 < r
  · go_enter Tryd.func72, Tryd.ntmps72
    go_wp2
    go_ret
    exact ⟨ret_i32 (by unfold unmarkedI; rw [if_pos (.inr h2)]), Below.refl _ _⟩
  have h1' : 192 ≤ r := by omega
  have h2' : r ≤ 255 := by omega
  clear h1 h2
  go_enter Tryd.func72, Tryd.ntmps72
  go_wp2
  go_loopw [3] (fun v wr => ∃ j : Nat, v = .int .i32 (192 + j) ∧ (192 : Int) + j ≤ r ∧ wr.heap[w.heap.size]? = some (.stringIter latinS (latinP.getD j 0)) ∧ Below w.heap.size w wr) (fun _ wr => 100 - wr.iterPos w.heap.size)
  case atStart => exact ⟨0, rfl, by omega, World.iter_heap w _ 0, (Below.refl _ w).alloc (Nat.le_refl _) _⟩
  case round =>
    obtain ⟨j, rfl, hjr, hit, hbw⟩ := hrel
    have hj : j < 64 := by omega
    obtain ⟨hp, hd, hlt, hle, hp0, heq⟩ := latin_at j hj
    have hnx : ∀ ty, (Instr.next (.pointer (some ⟨w.heap.size, 0, none⟩)) true ty).run Tryd.prog wr = _ := fun ty => Lib.run_next_any_at wr w.heap.size latinS _ ty hit hp
    rw [hd] at hnx
    have hit2 := Lib.iterAt_heap wr w.heap.size latinS _ (latinP.getD (j + 1) 0) hit
    have hbw2 := Lib.below_iterAt hbw (k := w.heap.size) (by omega) latinS (latinP.getD (j + 1) 0)
    simp only [show latinP.getD j 0 + (latinP.getD (j + 1) 0 - latinP.getD j 0) = latinP.getD (j + 1) 0 from by omega, Int.toNat_of_nonneg hp0] at hnx
    have hm : wr.iterPos w.heap.size = latinP.getD j 0 := by simp only [World.iterPos, hit]
    generalize wr.iterAt w.heap.size latinS (latinP.getD (j + 1) 0) = W2 at hnx hit2 hbw2
    have hm2 : W2.iterPos w.heap.size = latinP.getD (j + 1) 0 := by simp only [World.iterPos, hit2]
    generalize hqq : latinP.getD (j + 1) 0 = q at *
    have HQ := Lib.hid hqq
    clear hqq
    generalize latinP.getD j 0 = p at *
    have HU : Hid (r = 192 + j → unmarkedI r = latinT.getD j 0) := Lib.hid (fun e => by
      subst e
      unfold unmarkedI
      rw [if_neg (by omega), heq]
      congr 1
      omega)
    clear heq hd hp0
    generalize latinT.getD j 0 = t at *
    by_cases he : r = 192 + j
    · have HE := Lib.hid he
      have hq : (((192 : Int) + (j : Int)) == r) = true := by rw [he]; simp
      clear he
      go_wp2
      go_ret
      exact ⟨ret_i32 (HU.out HE.out).symm, hbw2⟩
    · have hq : (((192 : Int) + (j : Int)) == r) = false := by simp; omega
      have HE := Lib.hid (show (192 : Int) + (j + 1 : Nat) ≤ r by omega)
      clear he
      go_wp2
      go_roundw
      case rel => exact ⟨j + 1, by go_num, HE.out, by rw [HQ.out]; exact hit2, hbw2⟩
      case measure => rw [hm2, hm]; omega
end Go.Proofs.YtblpiceallbfjaaDoor.Pr
/- fold.letter, fold.ligature, fold.steps with its closure: what they answer, and that the code comes to it. -/
set_option linter.unusedVariables false
set_option linter.unusedSimpArgs false
namespace Go.Proofs.YtblpiceallbfjaaDoor.Pr
open Go.RowKit Go.Proofs.YtblpiceallbfjaaDoorW.PrintWords Go.Proofs.YtblpiceallbfjaaDoorW.PrintLast Go.Proofs.YtblpiceallbfjaaDoorW.PrintMore
set_option maxHeartbeats 8000000 in
set_option maxRecDepth 100000 in
theorem fold_letter (r : Int) (w : World) (h0 : -2147483648 ≤ r) : Calls Tryd.prog 73 #[.int .i32 r] w fun e w' => e = .returned (.int .i32 (letterI r)) ∧ Below w.heap.size w w' := by
  by_cases h1 : r = 118
  · subst h1
    go_enter Tryd.func73, Tryd.ntmps73
    go_wp2
    go_ret
    exact ⟨ret_i32 (by decide), Below.refl _ _⟩
  by_cases h2 : r = 86
  · subst h2
    go_enter Tryd.func73, Tryd.ntmps73
    go_wp2
    go_ret
    exact ⟨ret_i32 (by decide), Below.refl _ _⟩
  by_cases h3 : r = 106
  · subst h3
    go_enter Tryd.func73, Tryd.ntmps73
    go_wp2
    go_ret
    exact ⟨ret_i32 (by decide), Below.refl _ _⟩
  by_cases h4 : r = 74
  · subst h4
    go_enter Tryd.func73, Tryd.ntmps73
    go_wp2
    go_ret
    exact ⟨ret_i32 (by decide), Below.refl _ _⟩
  have e1 : (r == 118) = false := by simpa using h1
  have e2 : (r == 86) = false := by simpa using h2
  have e3 : (r == 106) = false := by simpa using h3
  have e4 : (r == 74) = false := by simpa using h4
  have HL : Hid (letterI r = r) := Lib.hid (by unfold letterI; rw [if_neg (by omega)])
  clear h1 h2 h3 h4
  go_enter Tryd.func73, Tryd.ntmps73
  go_wp2
  go_ret
  exact ⟨ret_i32 HL.out.symm, Below.refl _ _⟩
/-- What a ligature stands for; nothing of all others. -/
def ligB (r : Int) : List UInt8 :=
  if r = 198 then [65, 69] else if r = 230 then [97, 101] else if r = 338 then [79, 69] else if r = 339 then [111, 101] else if r = 223 then [115, 115] else if r = 383 then [115] else if r = 306 then [73, 74] else if r = 307 then [105, 106]
  else if r = 64256 then [102, 102] else if r = 64257 then [102, 105] else if r = 64258 then [102, 108] else if r = 64259 then [102, 102, 105] else if r = 64260 then [102, 102, 108] else if r = 64261 then [115, 116] else if r = 64262 then [115, 116] else []
def ligS : ByteArray := ⟨#[102, 102, 32, 102, 105, 32, 102, 108, 32, 102, 102, 105, 32, 102, 102, 108, 32, 115, 116, 32, 115, 116]⟩
theorem ligFields : Lib.fields ligS.data.toList = [[102, 102], [102, 105], [102, 108], [102, 102, 105], [102, 102, 108], [115, 116], [115, 116]] := by decide +kernel
theorem ligAscii : ∀ (j : Nat) b, ligS.data.toList[j]? = some b → b.toNat < 128 := by
  intro j b h
  have : ∀ b ∈ ligS.data.toList, b.toNat < 128 := by decide +kernel
  exact this b (List.mem_of_getElem? h)
theorem lig_call (w : World) (hG : Gu w) : Calls Tryd.prog 99 #[.string ⟨#[102, 102, 32, 102, 105, 32, 102, 108, 32, 102, 102, 105, 32, 102, 102, 108, 32, 115, 116, 32, 115, 116]⟩] w fun e w' =>
    e = .returned (.slice (some ⟨w.heap.size, 0, none⟩) 7 7) ∧ w' = w.alloc (.cells #[.string ⟨#[102, 102]⟩, .string ⟨#[102, 105]⟩, .string ⟨#[102, 108]⟩, .string ⟨#[102, 102, 105]⟩, .string ⟨#[102, 102, 108]⟩, .string ⟨#[115, 116]⟩, .string ⟨#[115, 116]⟩] 9) := by
  refine (Tryd.strings_Fields_laid ligS w (by decide) ligAscii hG.space).mono ?_
  rw [ligFields]
  rintro e w' ⟨rfl, rfl⟩
  exact ⟨rfl, rfl⟩
theorem ret_lig {l l' : List UInt8} {b b' : Bool} (h : l = l') (h' : b = b') : Ending.returned (.tuple #[.string ⟨l.toArray⟩, .bool b]) = .returned (.tuple #[.string ⟨l'.toArray⟩, .bool b']) := by rw [h, h']
set_option maxHeartbeats 8000000 in
set_option maxRecDepth 100000 in
theorem fold_ligature (r : Int) (w : World) (hG : Gu w) : Calls Tryd.prog 78 #[.int .i32 r] w fun e w' => e = .returned (.tuple #[.string ⟨(ligB r).toArray⟩, .bool (!(ligB r).isEmpty)]) ∧ Below w.heap.size w w' := by
  by_cases h1 : r = 198 ∨ r = 230 ∨ r = 338 ∨ r = 339 ∨ r = 223 ∨ r = 383 ∨ r = 306 ∨ r = 307
  · rcases h1 with h | h | h | h | h | h | h | h
    all_goals
      subst h
      go_enter Tryd.func78, Tryd.ntmps78
      go_wp2
      go_ret2
      exact ⟨ret_lig (by decide) (by decide), Below.refl _ _⟩
  by_cases h2 : r = 64256 ∨ r = 64257 ∨ r = 64258 ∨ r = 64259 ∨ r = 64260 ∨ r = 64261 ∨ r = 64262
  · rcases h2 with h | h | h | h | h | h | h
    all_goals
      subst h
      clear h1
      go_enter Tryd.func78, Tryd.ntmps78
      go_wp2_with (go_at_call 99; refine (lig_call _ hG).mono ?_; rintro e w' ⟨rfl, rfl⟩)
      go_ret2
      exact ⟨ret_lig (by decide) (by decide), (Below.refl _ w).alloc (Nat.le_refl _) _⟩
  have e1 : (r == 198) = false := by simp; omega
  have e2 : (r == 230) = false := by simp; omega
  have e3 : (r == 338) = false := by simp; omega
  have e4 : (r == 339) = false := by simp; omega
  have e5 : (r == 223) = false := by simp; omega
  have e6 : (r == 383) = false := by simp; omega
  have e7 : (r == 306) = false := by simp; omega
  have e8 : (r == 307) = false := by simp; omega
  have hl : ligB r = [] := by
    unfold ligB
    repeat rw [if_neg (by omega)]
  have hr : r < 64256 ∨ 64262 < r := by omega
  have HL := Lib.hid hl
  clear hl h1 h2
  rcases hr with hr | hr
  all_goals
    go_enter Tryd.func78, Tryd.ntmps78
    go_wp2
    go_ret2
    exact ⟨ret_lig HL.out.symm (by rw [HL.out]; rfl), Below.refl _ _⟩
def stepsOf (opt : Int) : List Nat := (if opt % 2 = 1 then [71] else []) ++ (if opt / 2 % 2 = 1 then [72] else []) ++ (if opt / 8 % 2 = 1 then [73] else [])
abbrev fv (f : Nat) : Value := .func (.func f) #[] #[]
theorem info82 : (Tryd.prog.info? 82).map (fun i => (i.zero, i.size, i.bytes)) = some (some .nilFunc, 1, 8) := by kernel_rfl
set_option maxHeartbeats 4000000 in
set_option maxRecDepth 100000 in
theorem put_no (g gl f : Nat) (opt bit : Int) (w : World) (hb : (Go.bits .and .i64 opt bit != 0) = false) (hg : w.cell? ⟨g, 0, none⟩ = some (.int .i64 opt)) :
    Calls Tryd.prog 70 #[.int .i64 bit, fv f, .pointer (some ⟨g, 0, none⟩), .pointer (some ⟨gl, 0, none⟩)] w fun e w' => e = .returned (.tuple #[]) ∧ w' = w := by
  go_enter Tryd.func70, Tryd.ntmps70
  go_wp2
  go_end0
  exact ⟨rfl, rfl⟩
set_option maxHeartbeats 4000000 in
set_option maxRecDepth 100000 in
theorem put_yes (B g gl f : Nat) (opt bit : Int) (v : Value) (xs : List Value) (w : World) (hb : (Go.bits .and .i64 opt bit != 0) = true) (hg : w.heap[g]? = some (.cells #[.int .i64 opt] 3 (0, 0))) (hl : w.heap[gl]? = some (.cells #[v] 73 (0, 0)))
    (hown : w.ownsRow B 82 1 v xs.length xs) (hBl : B ≤ gl) (hBw : B ≤ w.heap.size) (hn : xs.length ≤ 10) :
    Calls Tryd.prog 70 #[.int .i64 bit, fv f, .pointer (some ⟨g, 0, none⟩), .pointer (some ⟨gl, 0, none⟩)] w fun e w' => ∃ v', e = .returned (.tuple #[]) ∧ w'.heap[g]? = some (.cells #[.int .i64 opt] 3 (0, 0)) ∧ w'.heap[gl]? = some (.cells #[v'] 73 (0, 0)) ∧ w'.ownsRow B 82 1 v' (xs ++ [fv f]).length (xs ++ [fv f]) ∧ Below B w w' := by
  obtain ⟨i0, hi, hz0, hz1, hz2⟩ := info_parts info82
  have cg : w.cell? ⟨g, 0, none⟩ = some (.int .i64 opt) := by rw [Lib.cell_of_heap hg]; rfl
  have cl : w.cell? ⟨gl, 0, none⟩ = some v := by rw [Lib.cell_of_heap hl]; rfl
  have ggl : g ≠ gl := by
    intro e
    rw [e, hl] at hg
    injection hg with hg
    injection hg with _ hg
    revert hg; decide
  have hlg : g < w.heap.size := (Array.getElem?_eq_some_iff.1 hg).1
  have hll : gl < w.heap.size := (Array.getElem?_eq_some_iff.1 hl).1
  have ng : some g ≠ v.ownBlock := by
    intro e
    obtain ⟨cs, hc⟩ := own_typed hown g e.symm
    rw [hg] at hc
    injection hc with hc
    injection hc with _ hc
    revert hc; decide
  have nl : some gl ≠ v.ownBlock := by
    intro e
    obtain ⟨cs, hc⟩ := own_typed hown gl e.symm
    rw [hl] at hc
    injection hc with hc
    injection hc with _ hc
    revert hc; decide
  have hbase := own_base hown
  go_enter Tryd.func70, Tryd.ntmps70
  go_wp2_with (at_builtin; refine wpList_append_own _ rfl _ _ 73 rfl B 82 i0 .nilFunc 1 8 Tryd.underlying73 hi hz0 hz1 hz2 rfl (by decide) _ _ _ rfl (hown.alloc _) ⟨w.heap.size, 0, none⟩ 1 1 [fv f] rfl rfl ?c1 ?c2 ?c3 ?c4 ?c5 ?_)
  case c1 => exact cell_one_new _ _ _
  case c2 => intro u hu; simp at hu; subst hu; rfl
  case c3 => unfold maxLen; omega
  case c4 => omega
  case c5 => simp; omega
  intro v' w1 hown' hgrow _
  have hg1 : w1.heap[g]? = some (.cells #[.int .i64 opt] 3 (0, 0)) := (hgrow.block g (by simp; omega) ng).trans ((Lib.alloc_old _ _ _ hlg).trans hg)
  have hl1 : w1.heap[gl]? = some (.cells #[v] 73 (0, 0)) := (hgrow.block gl (by simp; omega) nl).trans ((Lib.alloc_old _ _ _ hll).trans hl)
  have d1 : w1.cell? ⟨gl, 0, none⟩ = some v := by rw [Lib.cell_of_heap hl1]; rfl
  have f1 : w1.frozen? ⟨gl, 0, none⟩ = false := Lib.frozen_of_heap hl1 0
  have hB1 : Below B w w1 := ((Below.refl B w).alloc hBw _).grown hgrow (by simp; omega) hbase
  obtain ⟨ao, n', cap, rfl⟩ : ∃ ao n' cap, v' = .slice ao n' cap := by
    rcases hown'.2 with ⟨hv, _⟩ | ⟨g, cap, cur, hv, _⟩
    · exact ⟨_, _, _, hv⟩
    · exact ⟨_, _, _, hv⟩
  go_wp2
  go_end0
  have hset : ∀ k, k ≠ gl → (w1.setCell ⟨gl, 0, none⟩ (.slice ao n' cap)).heap[k]? = w1.heap[k]? := fun k hk => Below.heap_setCell _ _ _ _ hk
  have nl' : some gl ≠ (Value.slice ao n' cap).ownBlock := by
    intro e
    obtain ⟨cs, hc⟩ := own_typed hown' gl e.symm
    rw [hl1] at hc
    injection hc with hc
    injection hc with _ hc
    revert hc; decide
  refine ⟨.slice ao n' cap, rfl, (hset g ggl).trans hg1, ?_, ?_, hB1.setCell (p := ⟨gl, 0, none⟩) hBl _⟩
  · exact one_setCell hl1
  · rw [List.length_append, List.length_singleton]
    exact own_move hown' (fun k hk => hset k (fun e => nl' (by rw [← e]; exact hk.symm)))
/-- The sums' bits. -/
theorem optBits : ∀ o : Fin 32, (Go.bits .and .i64 (o.val : Int) 1 != 0) = decide ((o.val : Int) % 2 = 1) ∧ (Go.bits .and .i64 (o.val : Int) 2 != 0) = decide ((o.val : Int) / 2 % 2 = 1) ∧ (Go.bits .and .i64 (o.val : Int) 4 != 0) = decide ((o.val : Int) / 4 % 2 = 1) ∧ (Go.bits .and .i64 (o.val : Int) 8 != 0) = decide ((o.val : Int) / 8 % 2 = 1) ∧ (Go.bits .and .i64 (o.val : Int) 16 != 0) = decide ((o.val : Int) / 16 % 2 = 1) := by decide +kernel
theorem optBit (opt : Int) (h0 : 0 ≤ opt) (h1 : opt ≤ 31) : (Go.bits .and .i64 opt 1 != 0) = decide (opt % 2 = 1) ∧ (Go.bits .and .i64 opt 2 != 0) = decide (opt / 2 % 2 = 1) ∧ (Go.bits .and .i64 opt 4 != 0) = decide (opt / 4 % 2 = 1) ∧ (Go.bits .and .i64 opt 8 != 0) = decide (opt / 8 % 2 = 1) ∧ (Go.bits .and .i64 opt 16 != 0) = decide (opt / 16 % 2 = 1) := by
  obtain ⟨n, rfl⟩ := Int.eq_ofNat_of_zero_le h0
  exact optBits ⟨n, by omega⟩
/-- A world between two steps: the two captured variables, and what was gathered. -/
structure Gath (B g gl : Nat) (opt : Int) (xs : List Value) (w : World) : Prop where
  hg : w.heap[g]? = some (.cells #[.int .i64 opt] 3 (0, 0))
  hl : ∃ v, w.heap[gl]? = some (.cells #[v] 73 (0, 0)) ∧ w.ownsRow B 82 1 v xs.length xs
/-- Gathered or not. -/
def sel (b : Bool) (f : Nat) : List Value := if b = true then [fv f] else []
theorem sel_le (b : Bool) (f : Nat) : (sel b f).length ≤ 1 := by cases b <;> simp [sel]
theorem put_any (B g gl f : Nat) (opt bit : Int) (b : Bool) (xs : List Value) (w : World) (hb : (Go.bits .and .i64 opt bit != 0) = b) (h : Gath B g gl opt xs w) (hBl : B ≤ gl) (hBw : B ≤ w.heap.size) (hn : xs.length ≤ 10) :
    Calls Tryd.prog 70 #[.int .i64 bit, fv f, .pointer (some ⟨g, 0, none⟩), .pointer (some ⟨gl, 0, none⟩)] w fun e w' => e = .returned (.tuple #[]) ∧ Gath B g gl opt (xs ++ sel b f) w' ∧ Below B w w' := by
  obtain ⟨hg, v, hl, hown⟩ := h
  cases b with
  | false =>
    refine (put_no g gl f opt bit w hb (by rw [Lib.cell_of_heap hg]; rfl)).mono ?_
    rintro e w' ⟨rfl, rfl⟩
    exact ⟨rfl, by simp [sel]; exact ⟨hg, v, hl, hown⟩, Below.refl _ _⟩
  | true =>
    refine (put_yes B g gl f opt bit v xs w hb hg hl hown hBl hBw hn).mono ?_
    rintro e w' ⟨v', rfl, h1, h2, h3, h4⟩
    exact ⟨rfl, by simp [sel]; exact ⟨h1, v', h2, by simpa using h3⟩, h4⟩
set_option maxHeartbeats 4000000 in
set_option maxRecDepth 100000 in
theorem fold_steps (opt : Int) (w : World) (h0 : 0 ≤ opt) (h1 : opt ≤ 31) :
    Calls Tryd.prog 39 #[.int .i64 opt] w fun e w' => ∃ v, e = .returned v ∧ w'.ownsRow w.heap.size 82 1 v ((stepsOf opt).map fv).length ((stepsOf opt).map fv) ∧ Below w.heap.size w w' := by
  obtain ⟨b1, b2, _, b8, _⟩ := optBit opt h0 h1
  have hmf : ∀ (fn : Fn) (first cap : Array Value) (w : World), (Instr.makeFunc fn first cap).run Tryd.prog w = .ok (.func fn first cap) w := fun _ _ _ _ => rfl
  have G0 : Gath w.heap.size w.heap.size (w.heap.size + 1) opt [] ((w.alloc (.cells #[.int .i64 opt] 3)).alloc (.cells #[.slice none 0 0] 73)) := by
    refine ⟨?_, .slice none 0 0, ?_, own_nil _ _ _ _⟩
    · rw [Lib.alloc_old _ _ _ (by simp)]; exact heap_alloc_new w _
    · have := heap_alloc_new (w.alloc (.cells #[.int .i64 opt] 3)) (.cells #[.slice none 0 0] 73)
      simpa using this
  have B0 : Below w.heap.size w ((w.alloc (.cells #[.int .i64 opt] 3)).alloc (.cells #[.slice none 0 0] 73)) := ((Below.refl _ w).alloc (Nat.le_refl _) _).alloc (by simp) _
  have C1 := put_any w.heap.size w.heap.size (w.heap.size + 1) 71 opt 1 _ [] _ b1 G0 (by omega) B0.size (by simp)
  clear h0 h1
  have HB2 := Lib.hid b2
  have HB8 := Lib.hid b8
  have HB0 := Lib.hid B0
  clear b1 b2 b8 B0 G0
  go_enter Tryd.func39, Tryd.ntmps39
  go_wp2_with (go_at_call 70; refine C1.mono ?_)
  clear C1
  rintro e w1 ⟨rfl, G1, B1⟩
  have C2 := put_any w.heap.size w.heap.size (w.heap.size + 1) 72 opt 2 _ _ _ HB2.out G1 (by omega) (Nat.le_trans HB0.out.size B1.size) (by have := sel_le (decide (opt % 2 = 1)) 71; simp; omega)
  have HG1 := Lib.hid G1
  clear G1
  go_wp2_with (go_at_call 70; refine C2.mono ?_)
  clear C2
  rintro e w2 ⟨rfl, G2, B2⟩
  have C3 := put_any w.heap.size w.heap.size (w.heap.size + 1) 73 opt 8 _ _ _ HB8.out G2 (by omega) (Nat.le_trans HB0.out.size (Nat.le_trans B1.size B2.size)) (by have := sel_le (decide (opt % 2 = 1)) 71; have := sel_le (decide (opt / 2 % 2 = 1)) 72; simp; omega)
  clear G2
  go_wp2_with (go_at_call 70; refine C3.mono ?_)
  clear C3
  rintro e w3 ⟨rfl, G3, B3⟩
  obtain ⟨_, v, hl, hown⟩ := G3
  have d1 : w3.cell? ⟨w.heap.size + 1, 0, none⟩ = some v := by rw [Lib.cell_of_heap hl]; rfl
  go_wp2
  go_ret
  refine ⟨_, rfl, ?_, ((HB0.out.trans B1).trans B2).trans B3⟩
  have e : (stepsOf opt).map fv = (([] ++ sel (decide (opt % 2 = 1)) 71) ++ sel (decide (opt / 2 % 2 = 1)) 72) ++ sel (decide (opt / 8 % 2 = 1)) 73 := by
    unfold stepsOf sel
    simp only [decide_eq_true_eq, List.map_append, List.nil_append]
    repeat' split
    all_goals rfl
  rw [e]
  exact hown
end Go.Proofs.YtblpiceallbfjaaDoor.Pr
/- A strings.Builder of the call's own: copyCheck, WriteByte and WriteString at this translation: the bytes written stand behind those that stood; every other block but rows of bytes stays. (The shelf's own contracts do not lay here: this translation refuses copyCheck's last row.) -/
set_option linter.unusedVariables false
set_option linter.unusedSimpArgs false
namespace Go.Proofs.YtblpiceallbfjaaDoor.Build
open Go.RowKit
theorem sizeBuilder : (Tryd.prog.info? 72).map (·.size) = some 2 := by kernel_rfl
theorem liesBuilder : liesAt Tryd.prog Tryd.prog.depth 72 (2 / Tryd.prog.cellsOf 72) 0 72 1 = true := by kernel_rfl
theorem infoByte : (Tryd.prog.info? 5).map (fun i => (i.zero, i.size, i.bytes)) = some (some (.int .u8 0), 1, 1) := by kernel_rfl
theorem neB : (72 : Nat) ≠ 5 := by decide
set_option maxHeartbeats 1000000 in
set_option maxRecDepth 100000 in
theorem copyCheck_used (b : Nat) (w : World) (h0 : w.cell? ⟨b, 0, none⟩ = some (.pointer (some ⟨b, 0, none⟩))) :
    Calls Tryd.prog 76 #[.pointer (some ⟨b, 0, none⟩)] w fun e w' => e = .returned (.tuple #[]) ∧ w' = w := by
  obtain ⟨j, hj, _⟩ := Option.map_eq_some_iff.1 sizeBuilder
  go_enter Tryd.func76, Tryd.ntmps76
  go_wp2
  rw [Lib.run_neq_ptr_same w _ Tryd.underlying69 hj]
  go_wp2
  go_end0
  exact ⟨rfl, rfl⟩
set_option maxHeartbeats 1000000 in
set_option maxRecDepth 100000 in
theorem copyCheck_fresh (b : Nat) (w : World) (h0 : w.cell? ⟨b, 0, none⟩ = some (.pointer none)) (hsh : w.shape? b = some (72, 2)) (hfz : w.frozen? ⟨b, 0, none⟩ = false) :
    Calls Tryd.prog 76 #[.pointer (some ⟨b, 0, none⟩)] w fun e w' => e = .returned (.tuple #[]) ∧ w' = w.setCell ⟨b, 0, none⟩ (.pointer (some ⟨b, 0, none⟩)) := by
  obtain ⟨j, hj, hjs⟩ := Option.map_eq_some_iff.1 sizeBuilder
  go_enter Tryd.func76, Tryd.ntmps76
  go_wp2
  rw [Lib.run_to_unsafe w ⟨b, 0, none⟩ Tryd.underlying69 Tryd.underlying137 hj (by rw [hjs]; decide) hsh (Nat.zero_lt_succ 1)]
  simp only [Result.andThen]
  rw [Oper.upon_value]
  go_wp2
  rw [run_callFunc_extern Tryd.func97 (by kernel_rfl) (by kernel_rfl) (by kernel_rfl) (e := Extern.AbiNoEscape.same) (by kernel_rfl)]
  rw [Lib.run_noEscape]
  simp only [Result.andThen]
  rw [Oper.upon_value]
  go_wp2
  rw [Lib.run_from_unsafe w ⟨b, 0, none⟩ Tryd.underlying137 Tryd.underlying69 hj hsh liesBuilder]
  simp only [Result.andThen]
  rw [Oper.upon_value]
  go_wp2
  go_end0
  exact ⟨rfl, rfl⟩
theorem copyCheck_k (B b : Nat) (bs : List Value) (w : World) (h : Lib.IsBuilderF 72 5 B b bs w) :
    Calls Tryd.prog 76 #[.pointer (some ⟨b, 0, none⟩)] w fun e w' => e = .returned (.tuple #[]) ∧ (Lib.BuilderAtF 72 5 B b (.pointer (some ⟨b, 0, none⟩)) bs w' ∧ Below B w w' ∧ Lib.OthersKept 5 (some b) w w') := by
  rcases h with h | h
  · refine (copyCheck_fresh b w h.cell0 h.shape h.frozen0).mono ?_
    rintro e w' ⟨rfl, rfl⟩
    exact ⟨rfl, h.used _, (Below.refl B w).setCell (p := ⟨b, 0, none⟩) h.1 _, (Lib.OthersKept.refl _ _ w).setCell ⟨b, 0, none⟩ rfl _⟩
  · refine (copyCheck_used b w h.cell0).mono ?_
    rintro e w' ⟨rfl, rfl⟩
    exact ⟨rfl, h, Below.refl B _, Lib.OthersKept.refl _ _ _⟩
set_option maxHeartbeats 2000000 in
set_option maxRecDepth 100000 in
theorem WriteByte_k (B b : Nat) (bs : List Value) (c : Int) (w : World) (h : Lib.IsBuilderF 72 5 B b bs w) (hlen : bs.length + 1 ≤ 140737488355328) (hBw : B ≤ w.heap.size) :
    Calls Tryd.prog 41 #[.pointer (some ⟨b, 0, none⟩), .int .u8 c] w fun e w' => e = .returned .nilIface ∧ (Lib.BuilderAtF 72 5 B b (.pointer (some ⟨b, 0, none⟩)) (bs ++ [.int .u8 c]) w' ∧ Below B w w' ∧ Lib.OthersKept 5 (some b) w w') := by
  obtain ⟨i0, hi, hz0, hz1, hz2⟩ := info_parts infoByte
  go_enter Tryd.func41, Tryd.ntmps41
  go_wp2_with (go_at_call 76; refine (copyCheck_k B b bs _ h).mono ?_)
  rintro e w1 ⟨rfl, h1, hb1, hk1⟩
  obtain ⟨hB, v, hbk, hown, hne⟩ := h1
  have c0 : w1.cell? ⟨b, 0, none⟩ = some (.pointer (some ⟨b, 0, none⟩)) := by rw [Lib.cell_of_heap hbk]; rfl
  have c1 : w1.cell? ⟨b, 1, none⟩ = some v := by rw [Lib.cell_of_heap hbk]; rfl
  go_wp2_with (at_builtin; refine wpList_append_ownF _ rfl _ _ 70 rfl B 5 i0 (.int .u8 0) 1 1 Tryd.underlying70 hi hz0 hz1 hz2 rfl (by decide) _ _ _ rfl (hown.alloc _) ⟨w1.heap.size, 0, none⟩ 1 1 [.int .u8 c] rfl rfl ?c1 ?c2 ?c3 ?c4 ?c5 ?_)
  case c1 =>
    intro j u hj
    match j, hj with
    | 0, hj => simp at hj; subst hj; simp [Addr.add]
  case c2 => intro u hu; simp at hu; subst hu; rfl
  case c3 => unfold maxLen; omega
  case c4 => omega
  case c5 => have := hb1.size; simp; omega
  intro v' w2 hown' hgrow _
  have hlt : b < w1.heap.size := by
    rcases Nat.lt_or_ge b w1.heap.size with h' | h'
    · exact h'
    · simp [Array.getElem?_eq_none h'] at hbk
  have hb2 : w2.heap[b]? = some (.cells #[.pointer (some ⟨b, 0, none⟩), v] 72 (0, 0)) := by
    rw [hgrow.block b (by simp; omega) (fun e => hne e.symm), Lib.alloc_old w1 _ b hlt]
    exact hbk
  have d0 : w2.cell? ⟨b, 0, none⟩ = some (.pointer (some ⟨b, 0, none⟩)) := by rw [Lib.cell_of_heap hb2]; rfl
  have d1 : w2.cell? ⟨b, 1, none⟩ = some v := by rw [Lib.cell_of_heap hb2]; rfl
  have f1 : w2.frozen? ⟨b, 1, none⟩ = false := Lib.frozen_of_heap hb2 1
  obtain ⟨g, cap, rfl⟩ : ∃ g cap, v' = .slice (some ⟨g, 0, none⟩) (bs.length + 1) cap := by
    rcases hown'.2 with ⟨_, h0⟩ | ⟨g, cap, cur, fz, hv, _⟩
    · omega
    · exact ⟨g, cap, hv⟩
  go_wp2
  go_ret
  refine ⟨rfl, ?_, ?_, ((hk1.alloc _).grown hgrow (Lib.ownsRowF_kind (hown.alloc _))).setCell ⟨b, 1, none⟩ rfl _⟩
  · exact Lib.BuilderAtF.put (T := 72) (e := 5) hB hb2 (bs' := bs ++ [.int .u8 c]) (by simpa using hown') neB
  · exact ((hb1.alloc (by have := hb1.size; omega) _).grown hgrow (by have := hb1.size; simp; omega) (fun k hk => (hown.lt k hk).1)).setCell (p := ⟨b, 1, none⟩) hB _
set_option maxHeartbeats 2000000 in
set_option maxRecDepth 100000 in
theorem WriteString_k (B b : Nat) (bs : List Value) (s : ByteArray) (w : World) (h : Lib.IsBuilderF 72 5 B b bs w) (hlen : bs.length + s.size ≤ 140737488355328) (hBw : B ≤ w.heap.size) :
    Calls Tryd.prog 51 #[.pointer (some ⟨b, 0, none⟩), .string s] w fun e w' => e = .returned (.tuple #[.int .i64 s.size, .nilIface]) ∧ (Lib.BuilderAtF 72 5 B b (.pointer (some ⟨b, 0, none⟩)) (bs ++ Lib.strCells s) w' ∧ Below B w w' ∧ Lib.OthersKept 5 (some b) w w') := by
  obtain ⟨i0, hi, hz0, hz1, hz2⟩ := info_parts infoByte
  go_enter Tryd.func51, Tryd.ntmps51
  go_wp2_with (go_at_call 76; refine (copyCheck_k B b bs _ h).mono ?_)
  rintro e w1 ⟨rfl, h1, hb1, hk1⟩
  obtain ⟨hB, v, hbk, hown, hne⟩ := h1
  have c0 : w1.cell? ⟨b, 0, none⟩ = some (.pointer (some ⟨b, 0, none⟩)) := by rw [Lib.cell_of_heap hbk]; rfl
  have c1 : w1.cell? ⟨b, 1, none⟩ = some v := by rw [Lib.cell_of_heap hbk]; rfl
  go_wp2_with (at_builtin; refine Lib.wpList_append_own_stringF _ rfl _ _ 70 9 rfl B 5 i0 Tryd.underlying70 Tryd.underlying9 hi hz0 hz1 hz2 _ _ _ rfl hown s rfl ?c3 ?c4 ?c5 ?_)
  case c3 => unfold maxLen; omega
  case c4 => omega
  case c5 => have := hb1.size; omega
  intro v' w2 hown' hgrow _
  have hlt : b < w1.heap.size := by
    rcases Nat.lt_or_ge b w1.heap.size with h' | h'
    · exact h'
    · simp [Array.getElem?_eq_none h'] at hbk
  have hb2 : w2.heap[b]? = some (.cells #[.pointer (some ⟨b, 0, none⟩), v] 72 (0, 0)) := by
    rw [hgrow.block b hlt (fun e => hne e.symm)]
    exact hbk
  have d0 : w2.cell? ⟨b, 0, none⟩ = some (.pointer (some ⟨b, 0, none⟩)) := by rw [Lib.cell_of_heap hb2]; rfl
  have d1 : w2.cell? ⟨b, 1, none⟩ = some v := by rw [Lib.cell_of_heap hb2]; rfl
  have f1 : w2.frozen? ⟨b, 1, none⟩ = false := Lib.frozen_of_heap hb2 1
  obtain ⟨ao, n', cap, rfl⟩ : ∃ ao n' cap, v' = .slice ao n' cap := by
    rcases hown'.2 with ⟨hv, _⟩ | ⟨g, cap, cur, fz, hv, _⟩
    · exact ⟨_, _, _, hv⟩
    · exact ⟨_, _, _, hv⟩
  go_wp2
  go_ret2
  refine ⟨rfl, ?_, ?_, (hk1.grown hgrow (Lib.ownsRowF_kind hown)).setCell ⟨b, 1, none⟩ rfl _⟩
  · exact Lib.BuilderAtF.put (T := 72) (e := 5) hB hb2 (bs' := bs ++ Lib.strCells s) (by simpa [Lib.strCells_length] using hown') neB
  · exact (hb1.grown hgrow (by have := hb1.size; omega) (fun k hk => (hown.lt k hk).1)).setCell (p := ⟨b, 1, none⟩) hB _
end Go.Proofs.YtblpiceallbfjaaDoor.Build
/- fold.fold: a rune's runes are written onto a builder: what is written, and that the code comes to it. -/
set_option linter.unusedVariables false
set_option linter.unusedSimpArgs false
namespace Go.Proofs.YtblpiceallbfjaaDoor.Pr
open Go.RowKit Go.Proofs.YtblpiceallbfjaaDoorW.PrintWords Go.Proofs.YtblpiceallbfjaaDoorW.PrintLast Go.Proofs.YtblpiceallbfjaaDoorW.PrintMore
theorem builder_below {T e : TypeId} {B b : Nat} {bs : List Value} {w w' : World} (h : Lib.IsBuilderF T e B b bs w) (hb : Below w.heap.size w w') : Lib.IsBuilderF T e B b bs w' := by
  have key : ∀ p, Lib.BuilderAtF T e B b p bs w → Lib.BuilderAtF T e B b p bs w' := by
    rintro p ⟨hB, v, hbk, hown, hne⟩
    refine ⟨hB, v, (hb.block b (Array.getElem?_eq_some_iff.1 hbk).1).trans hbk, ⟨hown.1, ?_⟩, hne⟩
    rcases hown.2 with hn | ⟨g, cap, cur, fz, hv, hbg, hg, rest⟩
    · exact .inl hn
    · exact .inr ⟨g, cap, cur, fz, hv, hbg, (hb.block g (Array.getElem?_eq_some_iff.1 hg).1).trans hg, rest⟩
  exact h.elim (fun x => .inl (key _ x)) (fun x => .inr (key _ x))
theorem others_below {e : TypeId} {b : Option Nat} {w w' : World} (hb : Below w.heap.size w w') : Lib.OthersKept e b w w' :=
  fun k o hk _ _ => (hb.block k (Array.getElem?_eq_some_iff.1 hk).1).trans hk
theorem builder_block {T e : TypeId} {B b : Nat} {bs : List Value} {w : World} (h : Lib.IsBuilderF T e B b bs w) : ∃ cs, w.heap[b]? = some (.cells cs T (0, 0)) := by
  rcases h with ⟨_, v, hbk, _⟩ | ⟨_, v, hbk, _⟩ <;> exact ⟨_, hbk⟩
def stepF (f : Nat) (x : Int) : Int := if f = 71 then smallI x else if f = 72 then unmarkedI x else letterI x
def applyAll (fs : List Nat) (x : Int) : Int := fs.foldl (fun x f => stepF f x) x
theorem smallI_ge (r : Int) (h : -2147483648 ≤ r) : -2147483648 ≤ smallI r := by
  unfold smallI
  repeat' split
  all_goals omega
theorem unmarkedI_ge (r : Int) (h : -2147483648 ≤ r) : -2147483648 ≤ unmarkedI r := by
  unfold unmarkedI
  split
  · exact h
  · obtain ⟨j, rfl⟩ : ∃ j : Nat, r = 192 + j := ⟨(r - 192).toNat, by omega⟩
    have e : ((192 : Int) + (j : Int) - 192).toNat = j := by omega
    obtain ⟨_, _, _, _, h0, h1⟩ := latin_at j (by omega)
    rw [e, ← h1]
    omega
theorem letterI_ge (r : Int) (h : -2147483648 ≤ r) : -2147483648 ≤ letterI r := by
  unfold letterI
  split
  all_goals omega
theorem stepF_ge (f : Nat) (r : Int) (h : -2147483648 ≤ r) : -2147483648 ≤ stepF f r := by
  unfold stepF
  split
  · exact smallI_ge r h
  · split
    · exact unmarkedI_ge r h
    · exact letterI_ge r h
theorem applyAll_ge (fs : List Nat) : ∀ (r : Int), -2147483648 ≤ r → -2147483648 ≤ applyAll fs r := by
  induction fs with
  | nil => exact fun r h => h
  | cons f fs ih => exact fun r h => ih _ (stepF_ge f r h)
theorem applyAll_take (fs : List Nat) (j : Nat) (x : Int) (h : j < fs.length) : applyAll (fs.take (j + 1)) x = stepF fs[j] (applyAll (fs.take j) x) := by
  rw [List.take_succ_eq_append_getElem h]
  simp only [applyAll, List.foldl_append, List.foldl_cons, List.foldl_nil]
theorem stepsOf_mem (opt : Int) : ∀ f ∈ stepsOf opt, f = 71 ∨ f = 72 ∨ f = 73 := by
  intro f hf
  unfold stepsOf at hf
  simp only [List.mem_append] at hf
  rcases hf with (hf | hf) | hf
  all_goals
    split at hf
    · simp at hf; omega
    · simp at hf
/-- A slice of steps, in memory. -/
def Funcs (w : World) (A : Option Addr) (n : Nat) (fs : List Nat) : Prop :=
  fs.length = n ∧ (0 < n → ∃ g cur fz, A = some ⟨g, 0, none⟩ ∧ w.heap[g]? = some (.cells cur 82 fz) ∧ ∀ j (h : j < fs.length), cur[j]? = some (fv fs[j]))
theorem Funcs.others {w w' : World} {A : Option Addr} {n : Nat} {fs : List Nat} {b : Nat} (h : Funcs w A n fs) (hk : Lib.OthersKept 5 (some b) w w') (hb : ∃ cs, w.heap[b]? = some (.cells cs 72 (0, 0))) : Funcs w' A n fs := by
  refine ⟨h.1, fun hn => ?_⟩
  obtain ⟨g, cur, fz, hA, hg, hc⟩ := h.2 hn
  refine ⟨g, cur, fz, hA, hk g _ hg ?_ ?_, hc⟩
  · intro e
    obtain ⟨cs, hcs⟩ := hb
    injection e with e
    rw [e, hcs] at hg
    injection hg with hg
    injection hg with _ hg
    revert hg; decide
  · intro c fz' e
    injection e with _ e
    revert e; decide
/-- The call of a step. -/
theorem step_call (f : Nat) (hf : f = 71 ∨ f = 72 ∨ f = 73) (x : Int) (w : World) (hx : -2147483648 ≤ x) : Calls Tryd.prog f #[.int .i32 x] w fun e w' => e = .returned (.int .i32 (stepF f x)) ∧ Below w.heap.size w w' := by
  rcases hf with rfl | rfl | rfl
  · refine (fold_lower x w).mono ?_
    rintro e w' ⟨rfl, hd⟩
    exact ⟨rfl, hd.below⟩
  · exact fold_unmarked x w
  · exact fold_letter x w hx
/-- The runes that stand for a rune. -/
def runesOf (r opt : Int) : List Int := if opt / 4 % 2 = 1 ∧ ligB r ≠ [] then (ligB r).map fun b => (b.toNat : Int) else [r]
def encI (x : Int) : List UInt8 := (Utf8.encode x).data.toList
def dropB (kd opt : Int) : Bool := (decide (opt / 16 % 2 = 1) && (kd == 4)) || (decide (opt / 2 % 2 = 1) && (kd == 2))
/-- What is written of a rune of a kind. -/
def foldR (kd r opt : Int) : List UInt8 := if dropB kd opt = true then [] else (runesOf r opt).flatMap fun x => encI (applyAll (stepsOf opt) x)
set_option maxHeartbeats 4000000 in
set_option maxRecDepth 100000 in
theorem fold_drop (b : Nat) (r opt kd : Int) (A : Option Addr) (n c : Nat) (w : World) (hk : kind_Of.f r = some kd) (h0 : 0 ≤ opt) (h1 : opt ≤ 31) (hd : dropB kd opt = true) :
    Calls Tryd.prog 42 #[.pointer (some ⟨b, 0, none⟩), .int .i32 r, .int .i64 opt, .slice A n c] w fun e w' => e = .returned (.tuple #[]) ∧ Drawn0 w w' := by
  obtain ⟨_, b2, _, _, b16⟩ := optBit opt h0 h1
  unfold dropB at hd
  have hK := Lib.hid hk
  clear hk h0 h1
  generalize decide (opt / 16 % 2 = 1) = x16 at *
  generalize decide (opt / 2 % 2 = 1) = x2 at *
  cases x16 <;> cases x2 <;> simp at hd
  · have e2 : (kd == 2) = true := by simpa using hd
    clear hd
    go_enter Tryd.func42, Tryd.ntmps42
    go_wp2_with (go_at_call 77; refine (kind_Of.calls r _ _ hK.out).mono ?_; rintro e w' ⟨rfl, ⟨nd, rfl⟩⟩)
    refine bodyPost_ret (results_none rfl _ _ _) rfl ?_
    exact ⟨rfl, ⟨⟨_, rfl⟩⟩⟩
  · have e4 : (kd == 4) = true := by simpa using hd
    clear hd
    go_enter Tryd.func42, Tryd.ntmps42
    go_wp2_with (go_at_call 77; refine (kind_Of.calls r _ _ hK.out).mono ?_; rintro e w' ⟨rfl, ⟨nd, rfl⟩⟩)
    refine bodyPost_ret (results_none rfl _ _ _) rfl ?_
    exact ⟨rfl, ⟨⟨_, rfl⟩⟩⟩
  · by_cases h4 : kd = 4
    · subst h4
      clear hd
      go_enter Tryd.func42, Tryd.ntmps42
      go_wp2_with (go_at_call 77; refine (kind_Of.calls r _ _ hK.out).mono ?_; rintro e w' ⟨rfl, ⟨nd, rfl⟩⟩)
      refine bodyPost_ret (results_none rfl _ _ _) rfl ?_
      exact ⟨rfl, ⟨⟨_, rfl⟩⟩⟩
    · have e4 : (kd == 4) = false := by simpa using h4
      have e2 : (kd == 2) = true := by simp; omega
      clear hd h4
      go_enter Tryd.func42, Tryd.ntmps42
      go_wp2_with (go_at_call 77; refine (kind_Of.calls r _ _ hK.out).mono ?_; rintro e w' ⟨rfl, ⟨nd, rfl⟩⟩)
      refine bodyPost_ret (results_none rfl _ _ _) rfl ?_
      exact ⟨rfl, ⟨⟨_, rfl⟩⟩⟩
end Go.Proofs.YtblpiceallbfjaaDoor.Pr
/- fold.fold where a rune is not dropped: its runes, each through the steps, are written onto the builder. -/
set_option linter.unusedVariables false
set_option linter.unusedSimpArgs false
namespace Go.Proofs.YtblpiceallbfjaaDoor.Pr
open Go.RowKit Go.Proofs.YtblpiceallbfjaaDoorW.PrintWords Go.Proofs.YtblpiceallbfjaaDoorW.PrintLast Go.Proofs.YtblpiceallbfjaaDoorW.PrintMore
/-- A slice of runes, in new memory. -/
def RunesAt (B : Nat) (w : World) (v : Value) (xs : List Int) : Prop :=
  ∃ g cur c, v = .slice (some ⟨g, 0, none⟩) xs.length c ∧ B ≤ g ∧ w.heap[g]? = some (.cells cur 21 (0, 0)) ∧ ∀ i (h : i < xs.length), cur[i]? = some (.int .i32 xs[i])
theorem RunesAt.others {B : Nat} {w w' : World} {v : Value} {xs : List Int} {b : Nat} (h : RunesAt B w v xs) (hk : Lib.OthersKept 5 (some b) w w') (hb : ∃ cs, w.heap[b]? = some (.cells cs 72 (0, 0))) : RunesAt B w' v xs := by
  obtain ⟨g, cur, c, hv, hB, hg, hc⟩ := h
  refine ⟨g, cur, c, hv, hB, hk g _ hg ?_ ?_, hc⟩
  · intro e
    obtain ⟨cs, hcs⟩ := hb
    injection e with e
    rw [e, hcs] at hg
    injection hg with hg
    injection hg with _ hg
    revert hg; decide
  · intro c fz' e
    injection e with _ e
    revert e; decide
theorem RunesAt.alloc {B : Nat} {w : World} {v : Value} {xs : List Int} (h : RunesAt B w v xs) (o : Obj) : RunesAt B (w.alloc o) v xs := by
  obtain ⟨g, cur, c, hv, hB, hg, hc⟩ := h
  exact ⟨g, cur, c, hv, hB, (Lib.alloc_old _ _ _ (Array.getElem?_eq_some_iff.1 hg).1).trans hg, hc⟩
theorem mem_ite {α : Type} {c : Prop} [Decidable c] {a b : α} {L : List α} (ha : a ∈ L) (hb : b ∈ L) : (if c then a else b) ∈ L := by
  by_cases h : c
  · rw [if_pos h]; exact ha
  · rw [if_neg h]; exact hb
theorem lig_mem (r : Int) : ligB r ∈ [[65, 69], [97, 101], [79, 69], [111, 101], [115, 115], [115], [73, 74], [105, 106], [102, 102], [102, 105], [102, 108], [102, 102, 105], [102, 102, 108], [115, 116], []] := by
  unfold ligB
  repeat (refine mem_ite (by decide) ?_)
  decide
/-- A ligature's letters, as runes. -/
theorem lig_runes (r : Int) : Conv.runesFrom ⟨(ligB r).toArray⟩ (ByteArray.size ⟨(ligB r).toArray⟩) 0 #[] = (((ligB r).map fun b => Value.int .i32 (b.toNat : Int))).toArray := by
  have h := lig_mem r
  generalize ligB r = l at *
  simp only [List.mem_cons, List.not_mem_nil, or_false] at h
  rcases h with rfl | rfl | rfl | rfl | rfl | rfl | rfl | rfl | rfl | rfl | rfl | rfl | rfl | rfl | rfl
  all_goals rfl
theorem lig_len (r : Int) : (ligB r).length ≤ 3 := by
  have h := lig_mem r
  generalize ligB r = l at *
  revert l
  decide
theorem runesOf_len (r opt : Int) : (runesOf r opt).length ≤ 3 := by
  unfold runesOf
  split
  · have := lig_len r; simpa using this
  · simp
theorem runesOf_ge (r opt : Int) (h : -2147483648 ≤ r) : ∀ x ∈ runesOf r opt, -2147483648 ≤ x := by
  intro x hx
  unfold runesOf at hx
  split at hx
  · obtain ⟨b, _, rfl⟩ := List.mem_map.1 hx
    omega
  · rw [List.mem_singleton.1 hx]; exact h
theorem ligConv (r : Int) (w : World) : (convert 9 28 (.string ⟨(ligB r).toArray⟩)).run Tryd.prog w = .ok (.slice (some ⟨w.heap.size, 0, none⟩) (ligB r).length (grownCap w (ligB r).length 0 21)) (w.drew.alloc (.cells ((((ligB r).map fun b => Value.int .i32 (b.toNat : Int))).toArray ++ Array.replicate (grownCap w (ligB r).length 0 21 - (ligB r).length) (.int .i32 0)) 21)) := by
  have h := run_runes_of_string (P := Tryd.prog) w 9 28 21 ⟨(ligB r).toArray⟩ Tryd.underlying9 Tryd.underlying28 Tryd.underlying21 (by rw [lig_runes]; have := lig_len r; simp; omega)
  rw [lig_runes] at h
  simpa using h
theorem RunesAt.below {B : Nat} {w w' : World} {v : Value} {xs : List Int} (h : RunesAt B w v xs) (hb : Below w.heap.size w w') : RunesAt B w' v xs := by
  obtain ⟨g, cur, c, hv, hB, hg, hc⟩ := h
  exact ⟨g, cur, c, hv, hB, (hb.block g (Array.getElem?_eq_some_iff.1 hg).1).trans hg, hc⟩
theorem ligRunesAt (L : List UInt8) (w : World) (B k c : Nat) (hB : B ≤ w.heap.size) : RunesAt B (w.drew.alloc (.cells (((L.map fun b => Value.int .i32 (b.toNat : Int))).toArray ++ Array.replicate k (.int .i32 0)) 21)) (.slice (some ⟨w.heap.size, 0, none⟩) L.length c) (L.map fun b => (b.toNat : Int)) :=
  ⟨w.heap.size, _, c, by simp, hB, heap_alloc_new w.drew _, fun i h => by
    have h' : i < L.length := by simpa using h
    simp [Array.getElem?_append, h', List.getElem?_eq_getElem]⟩
theorem litRunes (r : Int) (w : World) (B : Nat) (hB : B ≤ w.heap.size) : RunesAt B (w.alloc (.cells #[.int .i32 r] 21)) (.slice (some ⟨w.heap.size, 0, none⟩) 1 1) [r] :=
  ⟨w.heap.size, _, 1, rfl, hB, heap_alloc_new w _, fun i h => by simp at h; subst h; rfl⟩
theorem stepsOf_len (opt : Int) : (stepsOf opt).length ≤ 3 := by
  unfold stepsOf
  repeat' split
  all_goals simp
theorem flat_len (fs : List Nat) (xs : List Int) : (xs.flatMap fun x => encI (applyAll fs x)).length ≤ 4 * xs.length := by
  induction xs with
  | nil => simp
  | cons x xs ih =>
    have h : (encI (applyAll fs x)).length ≤ 4 := by
      show (Utf8.encode (applyAll fs x)).data.toList.length ≤ 4
      rw [Array.length_toList]
      exact encode_size_le (applyAll fs x)
    simp only [List.flatMap_cons, List.length_append, List.length_cons]
    omega
set_option maxHeartbeats 8000000 in
set_option maxRecDepth 100000 in
theorem fold_keep (B b : Nat) (l : List UInt8) (r opt kd : Int) (A : Option Addr) (n c : Nat) (w : World) (hG : Gu w) (hr : -2147483648 ≤ r) (hk : kind_Of.f r = some kd) (h0 : 0 ≤ opt) (h1 : opt ≤ 31) (hd : dropB kd opt = false)
    (hb : Lib.IsBuilderF 72 5 B b (Lib.byteCells l) w) (hA : (A = none ∧ n = 0) ∨ ∃ ga, A = some ⟨ga, 0, none⟩) (hF : Funcs w A n (stepsOf opt)) (hlen : l.length + 100 ≤ 140737488355328) (hBw : B ≤ w.heap.size) :
    Calls Tryd.prog 42 #[.pointer (some ⟨b, 0, none⟩), .int .i32 r, .int .i64 opt, .slice A n c] w fun e w' => e = .returned (.tuple #[]) ∧ Lib.IsBuilderF 72 5 B b (Lib.byteCells (l ++ foldR kd r opt)) w' ∧ Below B w w' ∧ Lib.OthersKept 5 (some b) w w' := by
  obtain ⟨_, b2, b4, _, b16⟩ := optBit opt h0 h1
  have hK := Lib.hid hk
  have hD := Lib.hid hd
  have hB4 := Lib.hid b4
  have hFo : foldR kd r opt = (runesOf r opt).flatMap fun x => encI (applyAll (stepsOf opt) x) := by unfold foldR; rw [hd]; rfl
  rw [hFo]
  have hxs := Lib.hid (runesOf_ge r opt hr)
  have hxl := runesOf_len r opt
  have hmem := Lib.hid (stepsOf_mem opt)
  have hn3 : n ≤ 3 := by rw [← hF.1]; exact stepsOf_len opt
  have hL := Lib.hid hlen
  have hRU : Hid (runesOf r opt = if opt / 4 % 2 = 1 ∧ ligB r ≠ [] then (ligB r).map (fun b => (b.toNat : Int)) else [r]) := Lib.hid rfl
  clear hk hd b4 hFo h0 h1 hlen
  generalize runesOf r opt = xs at *
  generalize stepsOf opt = fs at *
  rcases hA with ⟨rfl, hn0⟩ | ⟨ga, rfl⟩
  · have HN0 := Lib.hid hn0
    clear hn0
    go_enter Tryd.func42, Tryd.ntmps42
    go_upto_region 1 with (go_at_call 77; refine (kind_Of.calls r _ _ hK.out).mono ?_; rintro e w' ⟨rfl, ⟨nd, rfl⟩⟩)
    go_cut [33] (fun v33 wc => v33 = .bool false ∧ Aside0 (wc = w.drewN nd))
    case first =>
      have hd := hD.out
      unfold dropB at hd
      clear hD
      generalize decide (opt / 16 % 2 = 1) = x16 at *
      generalize decide (opt / 2 % 2 = 1) = x2 at *
      obtain ⟨y4, e4⟩ : ∃ y, (kd == 4) = y := ⟨_, rfl⟩
      obtain ⟨y2, e2⟩ : ∃ y, (kd == 2) = y := ⟨_, rfl⟩
      rw [e4, e2] at hd
      cases x16 <;> cases x2 <;> cases y4 <;> cases y2 <;> simp at hd
      all_goals
        go_wp2
        go_meet
        case rel => exact ⟨rfl, ⟨rfl⟩⟩
    case rest =>
      obtain ⟨rfl, hwc⟩ := hcut
      obtain ⟨W0, rfl⟩ : ∃ W0 : World, W0 = wc := ⟨_, rfl⟩
      have hW0 : Below w.heap.size w W0 := by rw [hwc.out]; exact pw_below_drewN (Below.refl _ _) _
      have hb' := Lib.hid (builder_below hb hW0)
      have hG' := hG.below hW0
      have hF' := Lib.hid (hF.others (others_below hW0) (builder_block hb))
      have hBw' := Nat.le_trans hBw hW0.size
      have HW0 := Lib.hid hW0
      have CL := fun W hG => fold_ligature r W hG
      have hcv := Lib.hid (fun W => ligConv r W)
      generalize ligB r = L at *
      obtain ⟨yl, hyl⟩ : ∃ y, (!L.isEmpty) = y := ⟨_, rfl⟩
      rw [hyl] at CL
      have HYL := Lib.hid hyl
      clear hb hF hwc hW0 hyl
      generalize hx4 : decide (opt / 4 % 2 = 1) = x4 at hB4
      have HX4 := Lib.hid hx4
      clear hx4
      go_upto_region 4 with (go_at_call 78; refine (CL _ (hG'.below ((Below.refl _ W0).alloc (Nat.le_refl _) _))).mono ?_; rintro e w2 ⟨rfl, hb2⟩)
      have hW2 := Lib.hid (below_step ((Below.refl _ W0).alloc (Nat.le_refl _) _) hb2)
      have hR2 := Lib.hid ((litRunes r W0 W0.heap.size (Nat.le_refl _)).below hb2)
      clear hb2 CL
      go_cut [46] (fun v46 wc2 => v46 = .bool (yl && x4) ∧ Aside0 (wc2 = w2))
      case first =>
        have b4 := hB4.out
        clear HX4 HYL hB4
        cases yl <;> cases x4
        all_goals
          go_wp2
          go_meet
          case rel => exact ⟨rfl, ⟨rfl⟩⟩
      case rest =>
        obtain ⟨rfl, hw3⟩ := hcut
        obtain rfl := hw3.out
        clear hw3 hB4
        obtain ⟨W1, rfl⟩ : ∃ W1 : World, W1 = wc := ⟨_, rfl⟩
        go_upto_if 46 with fail
        go_cut [9] (fun v9 wc3 => Aside0 (RunesAt W0.heap.size wc3 v9 xs) ∧ Aside0 (Below W0.heap.size W0 wc3))
        case first =>
          have hsel : xs = if (yl && x4) = true then L.map (fun b => (b.toNat : Int)) else [r] := by
            rw [hRU.out, ← HYL.out, ← HX4.out]
            cases L <;> simp
          have HS := Lib.hid hsel
          clear hRU HYL HX4 hsel
          have hcv' := hcv.out
          clear hcv
          cases yl <;> cases x4
          all_goals
            go_wp2
            go_meet
          · exact ⟨⟨by rw [HS.out]; exact hR2.out⟩, ⟨hW2.out⟩⟩
          · exact ⟨⟨by rw [HS.out]; exact hR2.out⟩, ⟨hW2.out⟩⟩
          · exact ⟨⟨by rw [HS.out]; exact hR2.out⟩, ⟨hW2.out⟩⟩
          · exact ⟨⟨by rw [HS.out]; exact ligRunesAt L W1 _ _ _ hW2.out.size⟩, ⟨below_alloc (below_drew hW2.out) _⟩⟩
        case rest =>
          obtain ⟨HR, HB⟩ := hcut
          obtain ⟨W2, rfl⟩ : ∃ W2 : World, W2 = wc := ⟨_, rfl⟩
          have hR := HR.out
          have hb2 := Lib.hid (builder_below hb'.out HB.out)
          have hF2 := Lib.hid (hF'.out.others (others_below HB.out) (builder_block hb'.out))
          have hBw2 := Nat.le_trans hBw' HB.out.size
          have HBW := Lib.hid ((HW0.out.mono hBw).trans (HB.out.mono hBw'))
          have HOK := Lib.hid ((others_below (e := 5) (b := some b) HW0.out).trans (others_below HB.out))
          have HRR := Lib.hid hR
          obtain ⟨gs, curs, cs, rfl, _, _, _⟩ := hR
          clear hb' hF' hcv hR2 hW2 HW0 HR HB hRU HYL HX4 hG' hG
          go_wp2
          go_loopw [51] (fun v wr => ∃ i : Nat, v = .int .i64 i ∧ i ≤ xs.length ∧ Aside0 (Lib.IsBuilderF 72 5 B b (Lib.byteCells (l ++ (xs.take i).flatMap fun x => encI (applyAll fs x))) wr) ∧ Aside0 (Below B W2 wr) ∧ Aside0 (Lib.OthersKept 5 (some b) W2 wr)) (fun v _ => xs.length - (intOf v).toNat)
          case atStart => exact ⟨0, rfl, Nat.zero_le _, ⟨by simpa using hb2.out⟩, ⟨Below.refl _ _⟩, ⟨Lib.OthersKept.refl _ _ _⟩⟩
          case round =>
            obtain ⟨i, rfl, hi, HI, HBr, HOr⟩ := hrel
            by_cases hlt : i < xs.length
            · have hlt2 : ((i : Int) < (xs.length : Int)) := by omega
              obtain ⟨g', cur', c', hv, _, hg', hc'⟩ := HRR.out.others HOr.out (builder_block hb2.out)
              obtain rfl : gs = g' := by injection hv with e; injection e with e; injection e with e
              have hcell : wr.cell? ⟨gs, i, none⟩ = some (.int .i32 xs[i]) := by rw [Lib.cell_of_heap hg']; exact hc' i hlt
              have hx0 := hxs.out xs[i] (List.getElem_mem hlt)
              obtain ⟨x0, hxi⟩ : ∃ x0, xs[i] = x0 := ⟨_, rfl⟩
              rw [hxi] at hcell hx0
              have HXI := Lib.hid hxi
              have HX0 := Lib.hid hx0
              clear hxi hx0 hv hg' hc'
              go_wp2
              obtain ⟨W3, rfl⟩ : ∃ W3 : World, W3 = wr := ⟨_, rfl⟩
              go_loopw [13, 57] (fun v13 v57 wx => ∃ j : Nat, v57 = .int .i64 j ∧ j ≤ n ∧ v13 = .int .i32 (applyAll (fs.take j) x0) ∧ Aside0 (Below W3.heap.size W3 wx)) (fun _ v57 _ => n - (intOf v57).toNat)
              case atStart => exact ⟨0, rfl, Nat.zero_le _, rfl, ⟨Below.refl _ _⟩⟩
              case round =>
                obtain ⟨j, rfl, hj, rfl, HX⟩ := hrel
                obtain ⟨W4, rfl⟩ : ∃ W4 : World, W4 = wr := ⟨_, rfl⟩
                by_cases hjn : j < n
                · exact absurd hjn (by rw [HN0.out]; omega)
                · have hjn' : ¬ ((j : Int) < (n : Int)) := by omega
                  have hb4 := builder_below HI.out HX.out
                  have hs4 : B ≤ W4.heap.size := Nat.le_trans (Nat.le_trans hBw2 HBr.out.size) HX.out.size
                  have HBall := Lib.hid (HBr.out.trans (HX.out.mono (Nat.le_trans hBw2 HBr.out.size)))
                  have HOall := Lib.hid (HOr.out.trans (others_below (e := 5) (b := some b) HX.out))
                  have hln := flat_len fs (xs.take i)
                  have hlt3 : (xs.take i).length ≤ 3 := by have := List.length_take_le' i xs; omega
                  have hl4 := encode_size_le (applyAll (fs.take j) x0)
                  have HE := Lib.hid (show applyAll (fs.take j) x0 = applyAll fs xs[i] by rw [HXI.out, List.take_of_length_le (by have := hF2.out.1; omega)])
                  have hL' := hL.out
                  go_wp2_with (go_at_call 51; refine (Build.WriteString_k B b _ _ _ hb4 (by rw [Lib.byteCells_length, List.length_append]; omega) hs4).mono ?_; rintro e w5 ⟨rfl, h5, b5, k5⟩)
                  have H5 := Lib.hid h5
                  have B5 := Lib.hid b5
                  have K5 := Lib.hid k5
                  clear h5 b5 k5 hb4 hln hl4 hL'
                  go_wp2
                  go_roundw
                  case rel =>
                    refine ⟨i + 1, by go_num, hlt, ⟨?_⟩, ⟨HBall.out.trans B5.out⟩, ⟨HOall.out.trans K5.out⟩⟩
                    rw [List.take_succ_eq_append_getElem hlt, List.flatMap_append, ← List.append_assoc, Lib.byteCells_append]
                    refine Or.inr ?_
                    simp only [List.flatMap_cons, List.flatMap_nil, List.append_nil]
                    rw [← HE.out]
                    exact H5.out
                  case measure => simp [intOf]; omega
            · have hlt' : ¬ ((i : Int) < (xs.length : Int)) := by omega
              go_wp2
              go_end0
              have e : xs.take i = xs := List.take_of_length_le (by omega)
              have h := HI.out
              rw [e] at h
              exact ⟨rfl, h, HBW.out.trans HBr.out, HOK.out.trans HOr.out⟩
  · go_enter Tryd.func42, Tryd.ntmps42
    go_upto_region 1 with (go_at_call 77; refine (kind_Of.calls r _ _ hK.out).mono ?_; rintro e w' ⟨rfl, ⟨nd, rfl⟩⟩)
    go_cut [33] (fun v33 wc => v33 = .bool false ∧ Aside0 (wc = w.drewN nd))
    case first =>
      have hd := hD.out
      unfold dropB at hd
      clear hD
      generalize decide (opt / 16 % 2 = 1) = x16 at *
      generalize decide (opt / 2 % 2 = 1) = x2 at *
      obtain ⟨y4, e4⟩ : ∃ y, (kd == 4) = y := ⟨_, rfl⟩
      obtain ⟨y2, e2⟩ : ∃ y, (kd == 2) = y := ⟨_, rfl⟩
      rw [e4, e2] at hd
      cases x16 <;> cases x2 <;> cases y4 <;> cases y2 <;> simp at hd
      all_goals
        go_wp2
        go_meet
        case rel => exact ⟨rfl, ⟨rfl⟩⟩
    case rest =>
      obtain ⟨rfl, hwc⟩ := hcut
      obtain ⟨W0, rfl⟩ : ∃ W0 : World, W0 = wc := ⟨_, rfl⟩
      have hW0 : Below w.heap.size w W0 := by rw [hwc.out]; exact pw_below_drewN (Below.refl _ _) _
      have hb' := Lib.hid (builder_below hb hW0)
      have hG' := hG.below hW0
      have hF' := Lib.hid (hF.others (others_below hW0) (builder_block hb))
      have hBw' := Nat.le_trans hBw hW0.size
      have HW0 := Lib.hid hW0
      have CL := fun W hG => fold_ligature r W hG
      have hcv := Lib.hid (fun W => ligConv r W)
      generalize ligB r = L at *
      obtain ⟨yl, hyl⟩ : ∃ y, (!L.isEmpty) = y := ⟨_, rfl⟩
      rw [hyl] at CL
      have HYL := Lib.hid hyl
      clear hb hF hwc hW0 hyl
      generalize hx4 : decide (opt / 4 % 2 = 1) = x4 at hB4
      have HX4 := Lib.hid hx4
      clear hx4
      go_upto_region 4 with (go_at_call 78; refine (CL _ (hG'.below ((Below.refl _ W0).alloc (Nat.le_refl _) _))).mono ?_; rintro e w2 ⟨rfl, hb2⟩)
      have hW2 := Lib.hid (below_step ((Below.refl _ W0).alloc (Nat.le_refl _) _) hb2)
      have hR2 := Lib.hid ((litRunes r W0 W0.heap.size (Nat.le_refl _)).below hb2)
      clear hb2 CL
      go_cut [46] (fun v46 wc2 => v46 = .bool (yl && x4) ∧ Aside0 (wc2 = w2))
      case first =>
        have b4 := hB4.out
        clear HX4 HYL hB4
        cases yl <;> cases x4
        all_goals
          go_wp2
          go_meet
          case rel => exact ⟨rfl, ⟨rfl⟩⟩
      case rest =>
        obtain ⟨rfl, hw3⟩ := hcut
        obtain rfl := hw3.out
        clear hw3 hB4
        obtain ⟨W1, rfl⟩ : ∃ W1 : World, W1 = wc := ⟨_, rfl⟩
        go_upto_if 46 with fail
        go_cut [9] (fun v9 wc3 => Aside0 (RunesAt W0.heap.size wc3 v9 xs) ∧ Aside0 (Below W0.heap.size W0 wc3))
        case first =>
          have hsel : xs = if (yl && x4) = true then L.map (fun b => (b.toNat : Int)) else [r] := by
            rw [hRU.out, ← HYL.out, ← HX4.out]
            cases L <;> simp
          have HS := Lib.hid hsel
          clear hRU HYL HX4 hsel
          have hcv' := hcv.out
          clear hcv
          cases yl <;> cases x4
          all_goals
            go_wp2
            go_meet
          · exact ⟨⟨by rw [HS.out]; exact hR2.out⟩, ⟨hW2.out⟩⟩
          · exact ⟨⟨by rw [HS.out]; exact hR2.out⟩, ⟨hW2.out⟩⟩
          · exact ⟨⟨by rw [HS.out]; exact hR2.out⟩, ⟨hW2.out⟩⟩
          · exact ⟨⟨by rw [HS.out]; exact ligRunesAt L W1 _ _ _ hW2.out.size⟩, ⟨below_alloc (below_drew hW2.out) _⟩⟩
        case rest =>
          obtain ⟨HR, HB⟩ := hcut
          obtain ⟨W2, rfl⟩ : ∃ W2 : World, W2 = wc := ⟨_, rfl⟩
          have hR := HR.out
          have hb2 := Lib.hid (builder_below hb'.out HB.out)
          have hF2 := Lib.hid (hF'.out.others (others_below HB.out) (builder_block hb'.out))
          have hBw2 := Nat.le_trans hBw' HB.out.size
          have HBW := Lib.hid ((HW0.out.mono hBw).trans (HB.out.mono hBw'))
          have HOK := Lib.hid ((others_below (e := 5) (b := some b) HW0.out).trans (others_below HB.out))
          have HRR := Lib.hid hR
          obtain ⟨gs, curs, cs, rfl, _, _, _⟩ := hR
          clear hb' hF' hcv hR2 hW2 HW0 HR HB hRU HYL HX4 hG' hG
          go_wp2
          go_loopw [51] (fun v wr => ∃ i : Nat, v = .int .i64 i ∧ i ≤ xs.length ∧ Aside0 (Lib.IsBuilderF 72 5 B b (Lib.byteCells (l ++ (xs.take i).flatMap fun x => encI (applyAll fs x))) wr) ∧ Aside0 (Below B W2 wr) ∧ Aside0 (Lib.OthersKept 5 (some b) W2 wr)) (fun v _ => xs.length - (intOf v).toNat)
          case atStart => exact ⟨0, rfl, Nat.zero_le _, ⟨by simpa using hb2.out⟩, ⟨Below.refl _ _⟩, ⟨Lib.OthersKept.refl _ _ _⟩⟩
          case round =>
            obtain ⟨i, rfl, hi, HI, HBr, HOr⟩ := hrel
            by_cases hlt : i < xs.length
            · have hlt2 : ((i : Int) < (xs.length : Int)) := by omega
              obtain ⟨g', cur', c', hv, _, hg', hc'⟩ := HRR.out.others HOr.out (builder_block hb2.out)
              obtain rfl : gs = g' := by injection hv with e; injection e with e; injection e with e
              have hcell : wr.cell? ⟨gs, i, none⟩ = some (.int .i32 xs[i]) := by rw [Lib.cell_of_heap hg']; exact hc' i hlt
              have hx0 := hxs.out xs[i] (List.getElem_mem hlt)
              obtain ⟨x0, hxi⟩ : ∃ x0, xs[i] = x0 := ⟨_, rfl⟩
              rw [hxi] at hcell hx0
              have HXI := Lib.hid hxi
              have HX0 := Lib.hid hx0
              clear hxi hx0 hv hg' hc'
              go_wp2
              obtain ⟨W3, rfl⟩ : ∃ W3 : World, W3 = wr := ⟨_, rfl⟩
              go_loopw [13, 57] (fun v13 v57 wx => ∃ j : Nat, v57 = .int .i64 j ∧ j ≤ n ∧ v13 = .int .i32 (applyAll (fs.take j) x0) ∧ Aside0 (Below W3.heap.size W3 wx)) (fun _ v57 _ => n - (intOf v57).toNat)
              case atStart => exact ⟨0, rfl, Nat.zero_le _, rfl, ⟨Below.refl _ _⟩⟩
              case round =>
                obtain ⟨j, rfl, hj, rfl, HX⟩ := hrel
                obtain ⟨W4, rfl⟩ : ∃ W4 : World, W4 = wr := ⟨_, rfl⟩
                by_cases hjn : j < n
                · have hjn2 : ((j : Int) < (n : Int)) := by omega
                  have hF4 := (hF2.out.others HOr.out (builder_block hb2.out)).others (others_below HX.out) (builder_block HI.out)
                  obtain ⟨g4, cur4, fz4, hA4, hg4, hc4⟩ := hF4.2 (by omega)
                  obtain rfl : ga = g4 := by injection hA4 with e; injection e with e
                  have hjl : j < fs.length := by rw [hF4.1]; exact hjn
                  have hce : W4.cell? ⟨ga, j, none⟩ = some (fv fs[j]) := by rw [Lib.cell_of_heap hg4]; exact hc4 j hjl
                  have hfj := hmem.out fs[j] (List.getElem_mem hjl)
                  have HT := Lib.hid (applyAll_take fs j x0 hjl)
                  have hge := applyAll_ge (fs.take j) x0 HX0.out
                  clear hF4 hA4 hg4 hc4
                  generalize hff : fs[j] = ff at hce hfj HT
                  clear hff
                  have hcl := fun W => step_call ff hfj (applyAll (fs.take j) x0) W hge
                  have HGE := Lib.hid hge
                  clear hge
                  rcases hfj with rfl | rfl | rfl
                  all_goals
                    go_wp2_with (first | (go_at_call 71; refine (hcl _).mono ?_; rintro e w5 ⟨rfl, hb5⟩) | (go_at_call 72; refine (hcl _).mono ?_; rintro e w5 ⟨rfl, hb5⟩) | (go_at_call 73; refine (hcl _).mono ?_; rintro e w5 ⟨rfl, hb5⟩))
                    go_roundw
                    case rel => exact ⟨j + 1, by go_num, hjn, by rw [HT.out], ⟨below_step HX.out hb5⟩⟩
                    case measure => simp [intOf]; omega
                · have hjn' : ¬ ((j : Int) < (n : Int)) := by omega
                  have hb4 := builder_below HI.out HX.out
                  have hs4 : B ≤ W4.heap.size := Nat.le_trans (Nat.le_trans hBw2 HBr.out.size) HX.out.size
                  have HBall := Lib.hid (HBr.out.trans (HX.out.mono (Nat.le_trans hBw2 HBr.out.size)))
                  have HOall := Lib.hid (HOr.out.trans (others_below (e := 5) (b := some b) HX.out))
                  have hln := flat_len fs (xs.take i)
                  have hlt3 : (xs.take i).length ≤ 3 := by have := List.length_take_le' i xs; omega
                  have hl4 := encode_size_le (applyAll (fs.take j) x0)
                  have HE := Lib.hid (show applyAll (fs.take j) x0 = applyAll fs xs[i] by rw [HXI.out, List.take_of_length_le (by have := hF2.out.1; omega)])
                  have hL' := hL.out
                  go_wp2_with (go_at_call 51; refine (Build.WriteString_k B b _ _ _ hb4 (by rw [Lib.byteCells_length, List.length_append]; omega) hs4).mono ?_; rintro e w5 ⟨rfl, h5, b5, k5⟩)
                  have H5 := Lib.hid h5
                  have B5 := Lib.hid b5
                  have K5 := Lib.hid k5
                  clear h5 b5 k5 hb4 hln hl4 hL'
                  go_wp2
                  go_roundw
                  case rel =>
                    refine ⟨i + 1, by go_num, hlt, ⟨?_⟩, ⟨HBall.out.trans B5.out⟩, ⟨HOall.out.trans K5.out⟩⟩
                    rw [List.take_succ_eq_append_getElem hlt, List.flatMap_append, ← List.append_assoc, Lib.byteCells_append]
                    refine Or.inr ?_
                    simp only [List.flatMap_cons, List.flatMap_nil, List.append_nil]
                    rw [← HE.out]
                    exact H5.out
                  case measure => simp [intOf]; omega
            · have hlt' : ¬ ((i : Int) < (xs.length : Int)) := by omega
              go_wp2
              go_end0
              have e : xs.take i = xs := List.take_of_length_le (by omega)
              have h := HI.out
              rw [e] at h
              exact ⟨rfl, h, HBW.out.trans HBr.out, HOK.out.trans HOr.out⟩
end Go.Proofs.YtblpiceallbfjaaDoor.Pr
/- glyph.Cells: what it answers (the cells of a text, by the model's own decoding), and that the code comes to just that, under the two tables of unicode/utf8 as their initialisers lay them. -/
set_option linter.unusedVariables false
namespace Go.Proofs.YtblpiceallbfjaaDoor.Pr
open Go.RowKit Go.Proofs.YtblpiceallbfjaaDoorW.PrintWords Go.Proofs.YtblpiceallbfjaaDoorW.PrintLast Go.Proofs.YtblpiceallbfjaaDoorW.PrintMore
/-- The cell at a place. -/
def cellAt (s : ByteArray) (pos : Nat) : S67 :=
  if Utf8.decode s pos = (65533, 1) then ⟨pos, 1, 65533, true, bt s pos⟩
  else ⟨pos, (Utf8.decode s pos).2, (Utf8.decode s pos).1, false, 0⟩
/-- The cells from a place on. -/
def cellsFrom (s : ByteArray) : Nat → Nat → List S67
  | 0, _ => []
  | fuel + 1, pos => if pos < s.size then cellAt s pos :: cellsFrom s fuel (pos + (Utf8.decode s pos).2) else []
def cells (s : ByteArray) : List S67 := cellsFrom s s.size 0
theorem cellsFrom_end (s : ByteArray) (fuel pos : Nat) (h : ¬ pos < s.size) : cellsFrom s fuel pos = [] := by
  cases fuel with
  | zero => rfl
  | succ f => simp [cellsFrom, h]
theorem cellsFrom_at (s : ByteArray) (f pos : Nat) (h : pos < s.size) : cellsFrom s (f + 1) pos = cellAt s pos :: cellsFrom s f (pos + (Utf8.decode s pos).2) := by
  simp [cellsFrom, h]
theorem cellAt_bad {s : ByteArray} {pos : Nat} (h : Utf8.decode s pos = (65533, 1)) : cellAt s pos = ⟨pos, 1, 65533, true, bt s pos⟩ := if_pos h
theorem cellAt_good {s : ByteArray} {pos : Nat} (h : Utf8.decode s pos ≠ (65533, 1)) : cellAt s pos = ⟨pos, (Utf8.decode s pos).2, (Utf8.decode s pos).1, false, 0⟩ := if_neg h
def glyph_Cells.f (a0 : ByteArray) : Option (List S67) := if a0.size ≤ 1099511627776 then some (cells a0) else none
/-- A row of cells stays while a text's iterator moves on. -/
theorem R_iterAt {w : World} {base k : Nat} {v : Value} {xs : List S67} {s : ByteArray} (h : Kd.R k67 67 w base (fun k_ => k_ ≠ k) v xs) (pos : Nat) : Kd.R k67 67 (w.iterAt k s pos) base (fun k_ => k_ ≠ k) v xs :=
  Kd.R_step h (fun j hj _ => Lib.iterAt_other w k j s pos hj)
set_option maxHeartbeats 4000000 in
set_option maxRecDepth 1000000 in
theorem glyph_Cells.calls (a0 : ByteArray) (r : List S67) (w : World) (hG : Gu w) (h : glyph_Cells.f a0 = some r) :
    Calls Tryd.prog 40 #[.string a0] w fun e w' => ∃ v0_ : Value, e = .returned (v0_) ∧ Kd.R k67 67 w' w.heap.size (fun _ => True) v0_ r ∧ Below w.heap.size w w' := by
  have hsz : a0.size ≤ 1099511627776 := by
    unfold glyph_Cells.f at h
    split at h
    · assumption
    · cases h
  obtain rfl : cells a0 = r := by
    unfold glyph_Cells.f at h
    rw [if_pos hsz] at h
    exact Option.some.inj h
  clear h
  have hu := Tryd.underlying67
  go_enter Tryd.func40, Tryd.ntmps40
  go_wp2
  go_loopw [3] (fun v wr => ∃ (pos fuel : Nat) (acc : List S67), Kd.R k67 67 wr w.heap.size (fun k_ => k_ ≠ w.heap.size) v acc ∧ wr.heap[w.heap.size]? = some (.stringIter a0 pos) ∧ Below w.heap.size w wr ∧ acc ++ cellsFrom a0 fuel pos = cells a0 ∧ a0.size ≤ pos + fuel ∧ acc.length ≤ pos) (fun _ wr => a0.size - wr.iterPos w.heap.size)
  case atStart =>
    refine ⟨0, a0.size, [], Kd.R_nil _ _ _ _ _, ?_, (Below.refl _ w).alloc (Nat.le_refl _) _, rfl, by omega, by simp⟩
    exact World.iter_heap w a0 0
  case round =>
    obtain ⟨pos, fuel, acc, hR, hit, hbw, hacc, hfu, hal⟩ := hrel
    have hszr : w.heap.size < wr.heap.size := (Array.getElem?_eq_some_iff.1 hit).1
    by_cases hp : pos < a0.size
    · have hnx : ∀ ty, (Instr.next (.pointer (some ⟨w.heap.size, 0, none⟩)) true ty).run Tryd.prog wr = _ := fun ty => Lib.run_next_any_at wr w.heap.size a0 pos ty hit hp
      have hwd := Utf.width_pos a0 pos hp
      have hd1 := decode_le a0 pos
      obtain ⟨f, rfl⟩ : ∃ f, fuel = f + 1 := ⟨fuel - 1, by omega⟩
      have hR2 := R_iterAt (s := a0) hR (pos + (Utf8.decode a0 pos).2)
      have hit2 := Lib.iterAt_heap wr w.heap.size a0 pos (pos + (Utf8.decode a0 pos).2) hit
      have hbw2 := Lib.below_iterAt hbw (k := w.heap.size) (by omega) a0 (pos + (Utf8.decode a0 pos).2)
      have hsz2 : w.heap.size < (wr.iterAt w.heap.size a0 (pos + (Utf8.decode a0 pos).2)).heap.size := by rw [Lib.iterAt_size]; omega
      have hm : wr.iterPos w.heap.size = pos := by simp only [World.iterPos, hit]
      rw [cellsFrom_at a0 f pos hp] at hacc
      generalize hW2 : wr.iterAt w.heap.size a0 (pos + (Utf8.decode a0 pos).2) = W2 at hnx hR2 hit2 hbw2 hsz2
      clear hW2 hR hit hbw hszr
      have hbad := fun h => @cellAt_bad a0 pos h
      have hgood := fun h => @cellAt_good a0 pos h
      have hrl := Utf.decode_runeLen a0 pos
      have hde := Utf.decode_extract a0 pos
      obtain ⟨⟨R, D⟩, hRD⟩ : ∃ x, Utf8.decode a0 pos = x := ⟨_, rfl⟩
      rw [hRD] at hnx hbad hgood hrl hde hwd hd1 hacc hit2
      clear hRD
      simp only at hnx hbad hgood hrl hwd hd1 hacc hit2
      have fin : ∀ (C : S67) (v1 : Value) (w1 W : World), C = cellAt a0 pos → Kd.R k67 67 w1 w.heap.size (fun k_ => k_ ≠ w.heap.size) v1 (acc ++ [C]) → Below w.heap.size w w1 → w1.heap[w.heap.size]? = some (.stringIter a0 (pos + D)) →
          (∃ (pos fuel : Nat) (acc : List S67), Kd.R k67 67 w1 w.heap.size (fun k_ => k_ ≠ w.heap.size) v1 acc ∧ w1.heap[w.heap.size]? = some (.stringIter a0 pos) ∧ Below w.heap.size w w1 ∧ acc ++ cellsFrom a0 fuel pos = cells a0 ∧ a0.size ≤ pos + fuel ∧ acc.length ≤ pos) ∧ a0.size - w1.iterPos w.heap.size < a0.size - wr.iterPos w.heap.size := by
        rintro C v1 w1 W rfl h1 h2 h3
        refine ⟨⟨pos + D, f, _, h1, h3, h2, ?_, by omega, by simp; omega⟩, ?_⟩
        · rw [← hacc]; simp
        · rw [hm]; simp only [World.iterPos, h3]; omega
      have FIN : Hid _ := Lib.hid fin
      clear fin hacc
      have hG2 := hG.below hbw2
      have hp2 : (pos : Int) < (a0.size : Int) := by omega
      have hp3 : (pos : Int) ≤ (a0.size : Int) := by omega
      by_cases hx : (R, D) = (65533, 1)
      · have hc := (hbad hx).symm
        obtain ⟨rfl, rfl⟩ := Prod.mk.inj hx
        clear hx hgood hrl hbad
        obtain ⟨b8, hb8⟩ : ∃ b : Nat, (a0[pos]'hp).toNat = b := ⟨_, rfl⟩
        rw [show bt a0 (pos : Int) = (b8 : Int) from by rw [← hb8]; exact (bt_at a0 (pos : Int) (by simpa using hp)).symm] at hc
        have HC := Lib.hid hc
        clear hc
        have hgo : (Lib.decodeGo (a0.extract pos a0.size)).2 = 1 := by
          unfold Lib.decodeGo
          rw [if_neg (by simp; omega), hde]
        clear hde
        go_wp2_with (first | (go_at_call 74; refine (Tryd.utf8_RuneLen _ _).mono ?_; rintro e w' ⟨rfl, rfl⟩) | (go_at_call 75; refine (Tryd.utf8_DecodeRuneInString _ _ hG2.tabs).mono ?_; rintro e w1 ⟨rfl, hb1⟩; rw [hgo]; have hs1 := hb1.size) | (at_builtin; refine Kd.R_append k67 (w0 := w) w.heap.size rfl (.tmp 40) (.tmp 42) 64 67 (.agg #[(.int .i64 0), (.int .i64 0), (.int .i32 0), (.bool false), (.int .u8 0)]) 24 rfl Tryd.underlying64 info67 rfl (by decide) (by omega) _ acc (⟨pos, 1, 65533, true, b8⟩ : S67) [.int .i64 pos, .int .i64 1, .int .i32 65533, .bool true, .int .u8 b8] (fun k_ => k_ ≠ w.heap.size) (fun _ => False) rfl (by go_simp; done) ?aP (fun _ hk => hk.elim) ?aF ?aO ?aB ?aS ?aL ?_))
        case aP => exact k67_mkM _ _ _ _
        case aF => intro k_ hk; simp at hk; omega
        case aO => exact Kd.R_alloc (Kd.R_below hR2 hb1) _
        case aB => exact (below_step hbw2 hb1).alloc (by omega) _
        case aS => simp; omega
        case aL => omega
        intro v1 w2 ho hb hg hat
        have hit3 : w2.heap[w.heap.size]? = some (.stringIter a0 (pos + 1)) := (hg.block _ (by simp; omega) (fun e => hR2.1 _ e.symm rfl)).trans ((Lib.alloc_old _ _ _ (by omega)).trans ((hb1.block _ (by omega)).trans hit2))
        clear hat hg
        go_wp2
        go_roundw
        case rel => exact (FIN.out _ _ _ wr (HC.out) ho hb hit3).1
        case measure => exact (FIN.out _ _ _ wr (HC.out) ho hb hit3).2
      · have hrl' := hrl hx
        have hc := (hgood hx).symm
        clear hrl hbad hgood
        have HC := Lib.hid hc
        clear hc
        by_cases h3 : R = 65533
        · subst h3
          have hD : D ≠ 1 := fun e => hx (by rw [e])
          have hgo : (Lib.decodeGo (a0.extract pos a0.size)).2 = D := by
            unfold Lib.decodeGo
            rw [if_neg (by simp; omega), hde]
          have hD1 : (((D : Nat) : Int) == 1) = false := by simp; omega
          have hrl2 : Lib.runeLen (65533 : Int) = (D : Int) := hrl'
          clear hx hde hrl'
          go_wp2_with (first | (go_at_call 74; refine (Tryd.utf8_RuneLen _ _).mono ?_; rintro e w' ⟨rfl, rfl⟩) | (go_at_call 75; refine (Tryd.utf8_DecodeRuneInString _ _ hG2.tabs).mono ?_; rintro e w1 ⟨rfl, hb1⟩; rw [hgo]; have hs1 := hb1.size) | (at_builtin; refine Kd.R_append k67 (w0 := w) w.heap.size rfl (.tmp 40) (.tmp 42) 64 67 (.agg #[(.int .i64 0), (.int .i64 0), (.int .i32 0), (.bool false), (.int .u8 0)]) 24 rfl Tryd.underlying64 info67 rfl (by decide) (by omega) _ acc (⟨pos, D, 65533, false, 0⟩ : S67) [.int .i64 pos, .int .i64 D, .int .i32 65533, .bool false, .int .u8 0] (fun k_ => k_ ≠ w.heap.size) (fun _ => False) rfl (by go_simp; done) ?aP (fun _ hk => hk.elim) ?aF ?aO ?aB ?aS ?aL ?_))
          case aP => exact k67_mkM _ _ _ _
          case aF => intro k_ hk; simp at hk; omega
          case aO => exact Kd.R_alloc (Kd.R_below hR2 hb1) _
          case aB => exact (below_step hbw2 hb1).alloc (by omega) _
          case aS => simp; omega
          case aL => omega
          intro v1 w2 ho hb hg hat
          have hit3 : w2.heap[w.heap.size]? = some (.stringIter a0 (pos + D)) := (hg.block _ (by simp; omega) (fun e => hR2.1 _ e.symm rfl)).trans ((Lib.alloc_old _ _ _ (by omega)).trans ((hb1.block _ (by omega)).trans hit2))
          clear hat hg
          go_wp2
          go_roundw
          case rel => exact (FIN.out _ _ _ wr (HC.out) ho hb hit3).1
          case measure => exact (FIN.out _ _ _ wr (HC.out) ho hb hit3).2
        · have hne : (((R : Nat) : Int) == 65533) = false := by simp; omega
          clear h3 hde hx
          go_wp2_with (first | (go_at_call 74; refine (Tryd.utf8_RuneLen _ _).mono ?_; rintro e w' ⟨rfl, rfl⟩) | (at_builtin; refine Kd.R_append k67 (w0 := w) w.heap.size rfl (.tmp 40) (.tmp 42) 64 67 (.agg #[(.int .i64 0), (.int .i64 0), (.int .i32 0), (.bool false), (.int .u8 0)]) 24 rfl Tryd.underlying64 info67 rfl (by decide) (by omega) _ acc (⟨pos, D, R, false, 0⟩ : S67) [.int .i64 pos, .int .i64 D, .int .i32 R, .bool false, .int .u8 0] (fun k_ => k_ ≠ w.heap.size) (fun _ => False) rfl (by go_simp; done) ?aP (fun _ hk => hk.elim) ?aF ?aO ?aB ?aS ?aL ?_))
          case aP => exact k67_mkM _ _ _ _
          case aF => intro k_ hk; simp at hk; omega
          case aO => exact Kd.R_alloc (hR2) _
          case aB => exact (hbw2).alloc (by omega) _
          case aS => simp; omega
          case aL => omega
          intro v1 w2 ho hb hg hat
          have hit3 : w2.heap[w.heap.size]? = some (.stringIter a0 (pos + D)) := (hg.block _ (by simp; omega) (fun e => hR2.1 _ e.symm rfl)).trans ((Lib.alloc_old _ _ _ (by omega)).trans (hit2))
          clear hat hg
          go_wp2
          go_roundw
          case rel => exact (FIN.out _ _ _ wr (HC.out) ho hb hit3).1
          case measure => exact (FIN.out _ _ _ wr (HC.out) ho hb hit3).2
    · have hnx : ∀ ty, (Instr.next (.pointer (some ⟨w.heap.size, 0, none⟩)) true ty).run Tryd.prog wr = _ := fun ty => Lib.run_next_end_at wr w.heap.size a0 pos ty hit hp
      go_wp2
      go_ret
      rw [cellsFrom_end a0 fuel pos hp, List.append_nil] at hacc
      subst hacc
      exact ⟨_, rfl, Kd.R_mono hR (fun _ _ => trivial), hbw⟩
end Go.Proofs.YtblpiceallbfjaaDoor.Pr
/- fold.Rune and fold.Text: what they answer, and that the code comes to it, under the tables that decoding and strings.Fields read. -/
set_option linter.unusedVariables false
set_option linter.unusedSimpArgs false
namespace Go.Proofs.YtblpiceallbfjaaDoor.Pr
open Go.RowKit Go.Proofs.YtblpiceallbfjaaDoorW.PrintWords Go.Proofs.YtblpiceallbfjaaDoorW.PrintLast Go.Proofs.YtblpiceallbfjaaDoorW.PrintMore
/-- A rune's kind. -/
abbrev kindI (r : Int) : Int := kindX r
theorem kind_is (r : Int) : kind_Of.f r = some (kindI r) := rfl
theorem fold_any (B b : Nat) (l : List UInt8) (r opt : Int) (A : Option Addr) (n c : Nat) (w : World) (hG : Gu w) (hr : -2147483648 ≤ r) (h0 : 0 ≤ opt) (h1 : opt ≤ 31)
    (hb : Lib.IsBuilderF 72 5 B b (Lib.byteCells l) w) (hA : (A = none ∧ n = 0) ∨ ∃ ga, A = some ⟨ga, 0, none⟩) (hF : Funcs w A n (stepsOf opt)) (hlen : l.length + 100 ≤ 140737488355328) (hBw : B ≤ w.heap.size) :
    Calls Tryd.prog 42 #[.pointer (some ⟨b, 0, none⟩), .int .i32 r, .int .i64 opt, .slice A n c] w fun e w' => e = .returned (.tuple #[]) ∧ Lib.IsBuilderF 72 5 B b (Lib.byteCells (l ++ foldR (kindI r) r opt)) w' ∧ Below B w w' ∧ Lib.OthersKept 5 (some b) w w' := by
  cases hd : dropB (kindI r) opt with
  | false => exact fold_keep B b l r opt (kindI r) A n c w hG hr (kind_is r) h0 h1 hd hb hA hF hlen hBw
  | true =>
    refine (fold_drop b r opt (kindI r) A n c w (kind_is r) h0 h1 hd).mono ?_
    rintro e w' ⟨rfl, hD⟩
    refine ⟨rfl, ?_, hD.below.mono hBw, others_below hD.below⟩
    have : foldR (kindI r) r opt = [] := by unfold foldR; rw [hd]; rfl
    rw [this, List.append_nil]
    exact builder_below hb hD.below
/-- A slice of steps out of what 'steps' hands back. -/
theorem funcs_of_own {w : World} {base : Nat} {v : Value} {fs : List Nat} (h : w.ownsRow base 82 1 v (fs.map fv).length (fs.map fv)) : ∃ A c, v = .slice A fs.length c ∧ ((A = none ∧ fs.length = 0) ∨ ∃ ga, A = some ⟨ga, 0, none⟩) ∧ Funcs w A fs.length fs := by
  rcases h.2 with ⟨rfl, h0⟩ | ⟨g, cap, cur, rfl, _, hg, hle, _, _, htk⟩
  · have h0' : fs.length = 0 := by simpa using h0
    exact ⟨none, 0, by rw [h0'], .inl ⟨rfl, h0'⟩, rfl, fun h => absurd h (by omega)⟩
  · refine ⟨some ⟨g, 0, none⟩, cap, by simp, .inr ⟨g, rfl⟩, rfl, fun _ => ⟨g, cur, (0, 0), rfl, hg, fun j hj => ?_⟩⟩
    have h2 : (cur.toList.take ((fs.map fv).length * 1))[j]? = some (fv fs[j]) := by rw [htk]; simp [hj]
    rw [List.getElem?_take] at h2
    rw [if_pos (by simp; exact hj)] at h2
    simpa using h2
def fold_Rune.f (a0 : Int) (a1 : Int) : Option (ByteArray × Int) := if a1 < 0 then some (⟨#[]⟩, 2) else if 31 < a1 then some (⟨#[]⟩, 2) else if -2147483648 ≤ a0 then some (⟨(foldR (kindI a0) a0 a1).toArray⟩, 0) else none
/-- What is written of a cell. -/
def cellB (opt : Int) (c : S67) : List UInt8 := if c.f3 = true then [c.f4.toNat.toUInt8] else foldR (kindI c.f2) c.f2 opt
def textB (opt : Int) (cs : List S67) : List UInt8 := cs.flatMap (cellB opt)
def fold_Text.f (a0 : ByteArray) (a1 : Int) : Option (ByteArray × Int) := if a1 < 0 then some (⟨#[]⟩, 2) else if 31 < a1 then some (⟨#[]⟩, 2) else if a0.size ≤ 1099511627776 then some (⟨(textB a1 (cells a0)).toArray⟩, 0) else none
theorem bt_nat (s : ByteArray) (i : Int) : 0 ≤ bt s i ∧ bt s i ≤ 255 := bt_range s i
/-- The cells of a text: a bad one holds a byte; a rune is none below 0. -/
theorem cellsFrom_ok (s : ByteArray) : ∀ fuel pos, ∀ c ∈ cellsFrom s fuel pos, 0 ≤ c.f4 ∧ c.f4 ≤ 255 ∧ 0 ≤ c.f2 := by
  intro fuel
  induction fuel with
  | zero => intro pos c hc; simp [cellsFrom] at hc
  | succ f ih =>
    intro pos c hc
    unfold cellsFrom at hc
    split at hc
    · rcases List.mem_cons.1 hc with rfl | hc
      · unfold cellAt
        split
        · exact ⟨(bt_nat s pos).1, (bt_nat s pos).2, by show (0 : Int) ≤ 65533; decide⟩
        · exact ⟨by show (0 : Int) ≤ 0; decide, by show (0 : Int) ≤ 255; decide, by show (0 : Int) ≤ ((Utf8.decode s pos).1 : Int); omega⟩
      · exact ih _ c hc
    · simp at hc
theorem cellsFrom_len (s : ByteArray) : ∀ fuel pos, (cellsFrom s fuel pos).length ≤ s.size - pos := by
  intro fuel
  induction fuel with
  | zero => intro pos; simp [cellsFrom]
  | succ f ih =>
    intro pos
    unfold cellsFrom
    split
    · rename_i h
      have h1 := ih (pos + (Utf8.decode s pos).2)
      have h2 := Utf.width_pos s pos h
      simp only [List.length_cons]
      omega
    · simp
theorem cells_len (s : ByteArray) : (cells s).length ≤ s.size := by have := cellsFrom_len s s.size 0; simpa [cells] using this
theorem foldR_len (kd r opt : Int) : (foldR kd r opt).length ≤ 12 := by
  unfold foldR
  split
  · simp
  · have h1 := flat_len (stepsOf opt) (runesOf r opt)
    have h2 := runesOf_len r opt
    omega
theorem cellB_len (opt : Int) (c : S67) : (cellB opt c).length ≤ 12 := by
  unfold cellB
  split
  · simp
  · exact foldR_len _ _ _
theorem textB_len (opt : Int) (cs : List S67) : (textB opt cs).length ≤ 12 * cs.length := by
  unfold textB
  induction cs with
  | nil => simp
  | cons c cs ih =>
    have := cellB_len opt c
    simp only [List.flatMap_cons, List.length_append, List.length_cons]
    omega
theorem textB_take (opt : Int) (cs : List S67) (i : Nat) (h : i < cs.length) : textB opt (cs.take (i + 1)) = textB opt (cs.take i) ++ cellB opt cs[i] := by
  unfold textB
  rw [List.take_succ_eq_append_getElem h, List.flatMap_append]
  simp
/-- A row of cells stays where a builder is written. -/
theorem R_others {w w' : World} {base b : Nat} {v : Value} {xs : List S67} {ok : Nat → Prop} (h : Kd.R k67 67 w base ok v xs) (hk : Lib.OthersKept 5 (some b) w w') (hb : ∃ cs, w.heap[b]? = some (.cells cs 72 (0, 0))) : Kd.R k67 67 w' base ok v xs := by
  refine Kd.R_mono (Kd.R_move (Kd.R_bound h) (fun k hk2 => ?_)) (fun _ h => h.1)
  obtain ⟨_, _, _, q, hq, cs, hc⟩ := hk2
  have hq' : q = 67 := by
    rcases List.mem_cons.1 hq with h | h
    · exact h
    · cases h
  subst hq'
  rw [hk k _ hc ?_ ?_, hc]
  · intro e
    obtain ⟨cs', hcs⟩ := hb
    injection e with e
    rw [e, hcs] at hc
    injection hc with hc
    injection hc with _ hc
    revert hc; decide
  · intro c fz' e
    injection e with _ e
    revert e; decide
set_option maxHeartbeats 8000000 in
set_option maxRecDepth 100000 in
theorem fold_Text.calls (a0 : ByteArray) (a1 : Int) (r1 : ByteArray) (r2 : Int) (w : World) (hG : Gu w) (h : fold_Text.f a0 a1 = some (r1, r2)) :
    Calls Tryd.prog 15 #[.string a0, .int .i64 a1] w fun e w' => e = .returned (.tuple #[.string r1, .int .i64 r2]) ∧ Below w.heap.size w w' := by
  unfold fold_Text.f at h
  by_cases h0 : a1 < 0
  · rw [if_pos h0] at h
    obtain ⟨rfl, rfl⟩ := Prod.mk.inj (Option.some.inj h)
    clear h
    go_enter Tryd.func15, Tryd.ntmps15
    go_wp2
    go_ret2
    exact ⟨rfl, Below.refl _ _⟩
  by_cases h1 : 31 < a1
  · rw [if_neg h0, if_pos h1] at h
    obtain ⟨rfl, rfl⟩ := Prod.mk.inj (Option.some.inj h)
    clear h
    go_enter Tryd.func15, Tryd.ntmps15
    go_wp2
    go_ret2
    exact ⟨rfl, Below.refl _ _⟩
  rw [if_neg h0, if_neg h1] at h
  by_cases hr : a0.size ≤ 1099511627776
  · rw [if_pos hr] at h
    obtain ⟨rfl, rfl⟩ := Prod.mk.inj (Option.some.inj h)
    clear h
    have h0' : 0 ≤ a1 := by omega
    have h1' : a1 ≤ 31 := by omega
    clear h0 h1
    have hw1 : Below w.heap.size w (w.alloc (.cells #[.pointer none, .slice none 0 0] 72)) := (Below.refl _ w).alloc (Nat.le_refl _) _
    have hI := Lib.hid ((Lib.IsBuilderF.of (Lib.fresh_isBuilder 72 5 w)))
    have HW1 := Lib.hid hw1
    have CS := fun W => fold_steps a1 W h0' h1'
    have hcl := cells_len a0
    have HOKC := Lib.hid (cellsFrom_ok a0 a0.size 0)
    have CC := fun W hG => glyph_Cells.calls a0 (cells a0) W hG (by unfold glyph_Cells.f; rw [if_pos hr])
    rw [show cellsFrom a0 a0.size 0 = cells a0 from rfl] at HOKC
    have hu := Tryd.underlying67
    clear hw1
    generalize cells a0 = cs at *
    go_enter Tryd.func15, Tryd.ntmps15
    go_wp2_with (first | (go_at_call 38; go_in) | (go_at_call 39; refine (CS _).mono ?_; rintro e w2 ⟨v, rfl, hown, hb2⟩; obtain ⟨A, c, hv, hA, hF⟩ := funcs_of_own hown; subst hv; have HAF := Lib.hid (And.intro hA hF); clear hA hF hown))
    have hI2 := Lib.hid (builder_below hI.out hb2)
    have HB2 := Lib.hid (HW1.out.trans (hb2.mono HW1.out.size))
    have hG2 := hG.below HB2.out
    clear hb2 CS hI HW1
    go_wp2_with (go_at_call 40; refine (CC _ hG2).mono ?_; rintro e w3 ⟨v3, rfl, hR, hb3⟩; obtain ⟨A3, c3, hv3⟩ := Kd.R_slice hR; subst hv3; have HRC := Lib.hid hR; clear hR)
    have hI3 := Lib.hid (builder_below hI2.out hb3)
    have HB3 := Lib.hid (HB2.out.trans (hb3.mono HB2.out.size))
    have HF3 := Lib.hid (HAF.out.2.others (others_below hb3) (builder_block hI2.out))
    have HA3 := Lib.hid HAF.out.1
    have hG3 := hG.below HB3.out
    clear hb3 CC HB2 hI2 HAF hG2
    go_loopw [17] (fun v wr => ∃ i : Nat, v = .int .i64 i ∧ i ≤ cs.length ∧ Aside0 (Lib.IsBuilderF 72 5 w.heap.size w.heap.size (Lib.byteCells (textB a1 (cs.take i))) wr) ∧ Aside0 (Below w.heap.size w3 wr) ∧ Aside0 (Lib.OthersKept 5 (some w.heap.size) w3 wr)) (fun v _ => cs.length - (intOf v).toNat)
    case atStart => exact ⟨0, rfl, Nat.zero_le _, ⟨hI3.out⟩, ⟨Below.refl _ _⟩, ⟨Lib.OthersKept.refl _ _ _⟩⟩
    case round =>
      obtain ⟨i, rfl, hi, HI, HBr, HOr⟩ := hrel
      by_cases hlt : i < cs.length
      · have hlt2 : (i : Int) < (cs.length : Int) := by omega
        obtain ⟨ad, e3, x0, x1, x2, x3, x4⟩ := at_T67 (Kd.R_reads' (R_others HRC.out HOr.out (builder_block hI3.out))).2.2 (i : Int) (by omega) hlt2
        cases e3
        have hrd : rd_T67 cs (i : Int) = cs[i] := by simp [rd_T67, List.getD_eq_getElem?_getD, hlt]
        rw [hrd] at x0 x1 x2 x3 x4
        simp only [Int.toNat_natCast] at x0 x1 x2 x3 x4
        obtain ⟨hc4, hc4', hc2⟩ := HOKC.out cs[i] (List.getElem_mem hlt)
        have HST := Lib.hid (textB_take a1 cs i hlt)
        have hlen' : (textB a1 (cs.take i)).length + 100 ≤ 140737488355328 := by
          have h1 := textB_len a1 (cs.take i)
          have h2 : (cs.take i).length ≤ cs.length := List.length_take_le' i cs
          omega
        have HLEN := Lib.hid hlen'
        generalize cs[i] = cc at *
        obtain ⟨f0, f1, f2, f3, f4⟩ := cc
        simp only at x0 x1 x2 x3 x4 hc4 hc4' hc2
        have hal : ∀ o, Below wr.heap.size wr (wr.alloc o) := fun o => (Below.refl _ wr).alloc (Nat.le_refl _) o
        have hszr := Nat.le_trans HB3.out.size HBr.out.size
        have HALB := Lib.hid (fun o => HBr.out.trans ((hal o).mono hszr))
        have HALO := Lib.hid (fun o => HOr.out.trans (others_below (e := 5) (b := some w.heap.size) (hal o)))
        clear hrd hlen'
        cases f3 with
        | true =>
          have CW := fun o => Build.WriteByte_k w.heap.size w.heap.size _ f4 (wr.alloc o) (builder_below HI.out (hal o)) (by rw [Lib.byteCells_length]; have := HLEN.out; omega) (Nat.le_trans hszr (hal o).size)
          have HF4 := Lib.hid (show f4 = ((f4.toNat.toUInt8).toNat : Int) by
            have : f4.toNat < 256 := by omega
            have e : (f4.toNat.toUInt8).toNat = f4.toNat := by
              simp [Nat.toUInt8, UInt8.toNat_ofNat', Nat.mod_eq_of_lt this]
            rw [e]
            omega)
          clear hal hc4 hc4' hc2
          go_wp2_with (go_at_call 41; refine (CW _).mono ?_; rintro e w4 ⟨rfl, h4, b4, k4⟩)
          have H4 := Lib.hid h4
          have HB4 := Lib.hid ((HALB.out _).trans b4)
          have HK4 := Lib.hid ((HALO.out _).trans k4)
          clear h4 b4 k4 CW
          go_wp2
          go_roundw
          case rel =>
            refine ⟨i + 1, by go_num, hlt, ⟨?_⟩, ⟨HB4.out⟩, ⟨HK4.out⟩⟩
            rw [HST.out, Lib.byteCells_append]
            have e : Lib.byteCells (cellB a1 ⟨f0, f1, f2, true, f4⟩) = [.int .u8 f4] := by
              show [Value.int .u8 ((f4.toNat.toUInt8).toNat : Int)] = _
              rw [← HF4.out]
            rw [e]
            exact Or.inr H4.out
          case measure => simp [intOf]; omega
        | false =>
          have CF := fun o => fold_any w.heap.size w.heap.size (textB a1 (cs.take i)) f2 a1 A (stepsOf a1).length c (wr.alloc o) (hG.below (HB3.out.trans (HALB.out o))) (by omega) h0' h1' (builder_below HI.out (hal o)) HA3.out ((HF3.out.others HOr.out (builder_block hI3.out)).others (others_below (hal o)) (builder_block HI.out)) HLEN.out (Nat.le_trans hszr (hal o).size)
          clear hal hc4 hc4' hc2
          go_wp2_with (go_at_call 42; refine (CF _).mono ?_; rintro e w4 ⟨rfl, h4, b4, k4⟩)
          have H4 := Lib.hid h4
          have HB4 := Lib.hid ((HALB.out _).trans b4)
          have HK4 := Lib.hid ((HALO.out _).trans k4)
          clear h4 b4 k4 CF
          go_wp2
          go_roundw
          case rel =>
            refine ⟨i + 1, by go_num, hlt, ⟨?_⟩, ⟨HB4.out⟩, ⟨HK4.out⟩⟩
            rw [HST.out]
            exact H4.out
          case measure => simp [intOf]; omega
      · have hlt' : ¬ ((i : Int) < (cs.length : Int)) := by omega
        have hlast := HI.out
        rw [List.take_of_length_le (by omega)] at hlast
        have hsz := Nat.le_trans HB3.out.size HBr.out.size
        go_wp2_with (go_at_call 43; refine (Tryd.Builder_String_any_k w.heap.size w.heap.size _ _ hlast hsz).mono ?_; rintro e w4 ⟨rfl, _, b4, _⟩)
        go_ret2
        exact ⟨rfl, (HB3.out.trans HBr.out).trans b4⟩
  · rw [if_neg hr] at h
    cases h
end Go.Proofs.YtblpiceallbfjaaDoor.Pr
