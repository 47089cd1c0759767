-- Written by a program of ours (drive.py) by way of the kit's printer. Lean checks it.
import Derived.Test.YtblpiceallbfjaaDoorProg
import Derived.Below
import Derived.Deep.Draws
import Derived.Deep.AppendLies
import Derived.Maps.AppendAt
import Derived.OwnWalk
import Derived.Laws.BytesArg
import Derived.Laws.MakeOwn
import Derived.Laws.OwnMore
import Derived.Deep.OwnRows
import Derived.Tactics
import Derived.Lib.ConvBytes
import Derived.Laws.Slices
import Derived.WalkKit
import Derived.KernelRfl
import Derived.RowKit3
import Derived.Deep.LoopGhost
import Derived.Deep.QuietTactic
import Derived.BigQuiet
import Derived.WideLaws
import Derived.Deep.DeepCutAuto
import Derived.Deep.CutBlock
import Derived.Deep.RegionHeld3
import Derived.Laws.Rows
import Derived.Lib.AppendStr
import Derived.ArgAppend
import Derived.Laws.IdiomCopy
import Derived.OrdersHeld
import Derived.Laws.BitsLemmas
import Derived.RowKit
import Derived.Test.YtblpiceallbfjaaDoorWWords
import Derived.Test.YtblpiceallbfjaaDoorWLast
import Derived.Test.YtblpiceallbfjaaDoorWTab
import Derived.Test.YtblpiceallbfjaaDoorWFour
import Derived.Test.YtblpiceallbfjaaDoorWQPut
import Derived.Test.YtblpiceallbfjaaDoorWApart
import Derived.Test.YtblpiceallbfjaaDoorWArr
import Derived.Test.YtblpiceallbfjaaDoorWZeros
import Derived.Test.YtblpiceallbfjaaDoorWFoot
import Derived.Test.YtblpiceallbfjaaDoorWKept
import Derived.Test.YtblpiceallbfjaaDoorWShare
import Derived.Test.YtblpiceallbfjaaDoorWN
import Derived.Test.YtblpiceallbfjaaDoorWFootNe
import Derived.Test.YtblpiceallbfjaaDoorWAt
import Derived.Test.YtblpiceallbfjaaDoorWEqStruct
import Derived.Test.YtblpiceallbfjaaDoorWRepsOne
import Derived.Test.YtblpiceallbfjaaDoorWInv
import Derived.Test.YtblpiceallbfjaaDoorWInvWords
import Derived.Test.YtblpiceallbfjaaDoorWGuard
import Derived.Test.YtblpiceallbfjaaDoorWNEv
import Derived.Test.YtblpiceallbfjaaDoorWMore
namespace Go.Proofs.YtblpiceallbfjaaDoor.Pr
open Go.RowKit Go.Proofs.YtblpiceallbfjaaDoorW.PrintWords Go.Proofs.YtblpiceallbfjaaDoorW.PrintLast Go.Proofs.YtblpiceallbfjaaDoorW.PrintMore
attribute [local go_sem] max2_int min2_int max_two min_two max_three min_three max_four min_four   -- for this text's walks alone
set_option linter.unusedVariables false
set_option linter.unusedSimpArgs false



def errW : Option Int → Value
  | none => .nilIface
  | some c => .iface 0 (.int .i64 c)
theorem errW_none : errW none = .nilIface := rfl
theorem errW_some (c : Int) : errW (some c) = .iface 0 (.int .i64 c) := rfl

theorem info3 : (Tryd.prog.info? 3).map (fun i => (i.zero, i.size, i.bytes)) = some (some (.int .i64 0), 1, 8) := by kernel_rfl
theorem info5 : (Tryd.prog.info? 5).map (fun i => (i.zero, i.size, i.bytes)) = some (some (.int .u8 0), 1, 1) := by kernel_rfl
theorem info9 : (Tryd.prog.info? 9).map (fun i => (i.zero, i.size, i.bytes)) = some (some (.string ⟨#[]⟩), 1, 16) := by kernel_rfl
theorem info21 : (Tryd.prog.info? 21).map (fun i => (i.zero, i.size, i.bytes)) = some (some (.int .i32 0), 1, 4) := by kernel_rfl
theorem info54 : (Tryd.prog.info? 54).map (fun i => (i.zero, i.size, i.bytes)) = some (some (.agg #[(.int .i64 0), (.slice none 0 0), (.int .i64 0)]), 3, 40) := by kernel_rfl
theorem info67 : (Tryd.prog.info? 67).map (fun i => (i.zero, i.size, i.bytes)) = some (some (.agg #[(.int .i64 0), (.int .i64 0), (.int .i32 0), (.bool false), (.int .u8 0)]), 5, 24) := by kernel_rfl
theorem info87 : (Tryd.prog.info? 87).map (fun i => (i.zero, i.size, i.bytes)) = some (some (.agg #[(.string ⟨#[]⟩), (.string ⟨#[]⟩)]), 2, 32) := by kernel_rfl
theorem info125 : (Tryd.prog.info? 125).map (fun i => (i.zero, i.size, i.bytes)) = some (some (.agg #[(.int .i64 0), (.int .i64 0), (.string ⟨#[]⟩)]), 3, 32) := by kernel_rfl
-- the values' own types
/-! #### struct type 67 -/
structure S67 where
  f0 : Int
  f1 : Int
  f2 : Int
  f3 : Bool
  f4 : Int
def z67 : S67 := ⟨(0 : Int), (0 : Int), (0 : Int), false, (0 : Int)⟩
def k67 : Kd S67 := Kd.iso (Kd.pair (Kd.int .i64) (Kd.pair (Kd.int .i64) (Kd.pair (Kd.int .i32) (Kd.pair Kd.bool (Kd.int .u8))))) (fun x : S67 => (x.f0, x.f1, x.f2, x.f3, x.f4))
theorem k67_open {w : World} {x : S67} {cs : List Value} (h : k67.K w x cs) : cs = [.int .i64 x.f0, .int .i64 x.f1, .int .i32 x.f2, .bool x.f3, .int .u8 x.f4] := by
  obtain ⟨_, _, rfl, rfl, ⟨_, _, rfl, rfl, ⟨_, _, rfl, rfl, ⟨_, _, rfl, rfl, rfl⟩⟩⟩⟩ := h
  exact rfl
theorem k67_openM {w : World} {base : Nat} {ok : Nat → Prop} {x : S67} {cs : List Value} (h : k67.M w base ok x cs) : cs = [.int .i64 x.f0, .int .i64 x.f1, .int .i32 x.f2, .bool x.f3, .int .u8 x.f4] := by
  obtain ⟨_, _, rfl, rfl, ⟨_, _, rfl, rfl, ⟨_, _, rfl, rfl, ⟨_, _, rfl, rfl, rfl⟩⟩⟩⟩ := h
  exact rfl
theorem k67_mk (w : World) (x : S67)  : k67.K w x [.int .i64 x.f0, .int .i64 x.f1, .int .i32 x.f2, .bool x.f3, .int .u8 x.f4] := ⟨[.int .i64 x.f0], [.int .i64 x.f1, .int .i32 x.f2, .bool x.f3, .int .u8 x.f4], rfl, rfl, ⟨[.int .i64 x.f1], [.int .i32 x.f2, .bool x.f3, .int .u8 x.f4], rfl, rfl, ⟨[.int .i32 x.f2], [.bool x.f3, .int .u8 x.f4], rfl, rfl, ⟨[.bool x.f3], [.int .u8 x.f4], rfl, rfl, rfl⟩⟩⟩⟩
theorem k67_mkM (w : World) (base : Nat) (ok : Nat → Prop) (x : S67)  : k67.M w base ok x [.int .i64 x.f0, .int .i64 x.f1, .int .i32 x.f2, .bool x.f3, .int .u8 x.f4] := ⟨[.int .i64 x.f0], [.int .i64 x.f1, .int .i32 x.f2, .bool x.f3, .int .u8 x.f4], rfl, rfl, ⟨[.int .i64 x.f1], [.int .i32 x.f2, .bool x.f3, .int .u8 x.f4], rfl, rfl, ⟨[.int .i32 x.f2], [.bool x.f3, .int .u8 x.f4], rfl, rfl, ⟨[.bool x.f3], [.int .u8 x.f4], rfl, rfl, rfl⟩⟩⟩⟩
def rd_T67 (xs : List S67) (i : Int) : S67 := xs.getD i.toNat z67
theorem at_T67 {w : World} {A : Option Addr} {n : Nat} {xs : List S67} (h : Kd.C k67 w A n xs) (i : Int) (h0 : 0 ≤ i) (h1 : i < n) : ∃ ad , A = some ad ∧ w.cell? (ad.add (i.toNat * 5)) = some (.int .i64 (rd_T67 xs i).f0) ∧ w.cell? ⟨(ad.add (i.toNat * 5)).block, (ad.add (i.toNat * 5)).off + 1, none⟩ = some (.int .i64 (rd_T67 xs i).f1) ∧ w.cell? ⟨(ad.add (i.toNat * 5)).block, (ad.add (i.toNat * 5)).off + 2, none⟩ = some (.int .i32 (rd_T67 xs i).f2) ∧ w.cell? ⟨(ad.add (i.toNat * 5)).block, (ad.add (i.toNat * 5)).off + 3, none⟩ = some (.bool (rd_T67 xs i).f3) ∧ w.cell? ⟨(ad.add (i.toNat * 5)).block, (ad.add (i.toNat * 5)).off + 4, none⟩ = some (.int .u8 (rd_T67 xs i).f4) := by
  obtain ⟨ad, c, e, _, hK, hc0⟩ := Kd.C_get h z67 i h0 h1
  have hc : ∀ j u, c[j]? = some u → w.cell? (ad.add (i.toNat * 5 + j)) = some u := hc0
  obtain rfl := k67_open hK
  exact ⟨ad, e, hc 0 _ rfl, by rw [← add_field _ _ 1 (by omega)]; exact hc 1 _ rfl, by rw [← add_field _ _ 2 (by omega)]; exact hc 2 _ rfl, by rw [← add_field _ _ 3 (by omega)]; exact hc 3 _ rfl, by rw [← add_field _ _ 4 (by omega)]; exact hc 4 _ rfl⟩

/-! #### struct type 125 -/
structure S125 where
  f0 : Int
  f1 : Int
  f2 : ByteArray
def z125 : S125 := ⟨(0 : Int), (0 : Int), (⟨#[]⟩ : ByteArray)⟩
def k125 : Kd S125 := Kd.iso (Kd.pair (Kd.int .i64) (Kd.pair (Kd.int .i64) Kd.string)) (fun x : S125 => (x.f0, x.f1, x.f2))
theorem k125_open {w : World} {x : S125} {cs : List Value} (h : k125.K w x cs) : cs = [.int .i64 x.f0, .int .i64 x.f1, .string x.f2] := by
  obtain ⟨_, _, rfl, rfl, ⟨_, _, rfl, rfl, rfl⟩⟩ := h
  exact rfl
theorem k125_openM {w : World} {base : Nat} {ok : Nat → Prop} {x : S125} {cs : List Value} (h : k125.M w base ok x cs) : cs = [.int .i64 x.f0, .int .i64 x.f1, .string x.f2] := by
  obtain ⟨_, _, rfl, rfl, ⟨_, _, rfl, rfl, rfl⟩⟩ := h
  exact rfl
theorem k125_mk (w : World) (x : S125)  : k125.K w x [.int .i64 x.f0, .int .i64 x.f1, .string x.f2] := ⟨[.int .i64 x.f0], [.int .i64 x.f1, .string x.f2], rfl, rfl, ⟨[.int .i64 x.f1], [.string x.f2], rfl, rfl, rfl⟩⟩
theorem k125_mkM (w : World) (base : Nat) (ok : Nat → Prop) (x : S125)  : k125.M w base ok x [.int .i64 x.f0, .int .i64 x.f1, .string x.f2] := ⟨[.int .i64 x.f0], [.int .i64 x.f1, .string x.f2], rfl, rfl, ⟨[.int .i64 x.f1], [.string x.f2], rfl, rfl, rfl⟩⟩
def rd_T125 (xs : List S125) (i : Int) : S125 := xs.getD i.toNat z125
theorem at_T125 {w : World} {A : Option Addr} {n : Nat} {xs : List S125} (h : Kd.C k125 w A n xs) (i : Int) (h0 : 0 ≤ i) (h1 : i < n) : ∃ ad , A = some ad ∧ w.cell? (ad.add (i.toNat * 3)) = some (.int .i64 (rd_T125 xs i).f0) ∧ w.cell? ⟨(ad.add (i.toNat * 3)).block, (ad.add (i.toNat * 3)).off + 1, none⟩ = some (.int .i64 (rd_T125 xs i).f1) ∧ w.cell? ⟨(ad.add (i.toNat * 3)).block, (ad.add (i.toNat * 3)).off + 2, none⟩ = some (.string (rd_T125 xs i).f2) := by
  obtain ⟨ad, c, e, _, hK, hc0⟩ := Kd.C_get h z125 i h0 h1
  have hc : ∀ j u, c[j]? = some u → w.cell? (ad.add (i.toNat * 3 + j)) = some u := hc0
  obtain rfl := k125_open hK
  exact ⟨ad, e, hc 0 _ rfl, by rw [← add_field _ _ 1 (by omega)]; exact hc 1 _ rfl, by rw [← add_field _ _ 2 (by omega)]; exact hc 2 _ rfl⟩

def rd_L7 (xs : List (List S125)) (i : Int) : (List S125) := xs.getD i.toNat ([] : List S125)
theorem at_L7 {w : World} {A : Option Addr} {n : Nat} {xs : List (List S125)} (h : Kd.C (Kd.slice 125 k125) w A n xs) (i : Int) (h0 : 0 ≤ i) (h1 : i < n) : ∃ ad A0 c0, A = some ad ∧ w.cell? (ad.add i.toNat) = some (.slice A0 (rd_L7 xs i).length c0) ∧ (rd_L7 xs i).length ≤ c0 ∧ k125.C w A0 (rd_L7 xs i).length (rd_L7 xs i) := by
  obtain ⟨ad, c, e, _, hK, hc0⟩ := Kd.C_get h ([] : List S125) i h0 h1
  have hc : ∀ j u, c[j]? = some u → w.cell? (ad.add (i.toNat * 1 + j)) = some u := hc0
  obtain ⟨A0, c0, rfl, l0, g0⟩ := hK
  exact ⟨ad, A0, c0, e, by have hq := hc 0 _ rfl; rwa [Nat.mul_one, Nat.add_zero] at hq, l0, g0⟩

/-! #### struct type 87 -/
structure S87 where
  f0 : ByteArray
  f1 : ByteArray
def z87 : S87 := ⟨(⟨#[]⟩ : ByteArray), (⟨#[]⟩ : ByteArray)⟩
def k87 : Kd S87 := Kd.iso (Kd.pair Kd.string Kd.string) (fun x : S87 => (x.f0, x.f1))
theorem k87_open {w : World} {x : S87} {cs : List Value} (h : k87.K w x cs) : cs = [.string x.f0, .string x.f1] := by
  obtain ⟨_, _, rfl, rfl, rfl⟩ := h
  exact rfl
theorem k87_openM {w : World} {base : Nat} {ok : Nat → Prop} {x : S87} {cs : List Value} (h : k87.M w base ok x cs) : cs = [.string x.f0, .string x.f1] := by
  obtain ⟨_, _, rfl, rfl, rfl⟩ := h
  exact rfl
theorem k87_mk (w : World) (x : S87)  : k87.K w x [.string x.f0, .string x.f1] := ⟨[.string x.f0], [.string x.f1], rfl, rfl, rfl⟩
theorem k87_mkM (w : World) (base : Nat) (ok : Nat → Prop) (x : S87)  : k87.M w base ok x [.string x.f0, .string x.f1] := ⟨[.string x.f0], [.string x.f1], rfl, rfl, rfl⟩
def rd_T87 (xs : List S87) (i : Int) : S87 := xs.getD i.toNat z87
theorem at_T87 {w : World} {A : Option Addr} {n : Nat} {xs : List S87} (h : Kd.C k87 w A n xs) (i : Int) (h0 : 0 ≤ i) (h1 : i < n) : ∃ ad , A = some ad ∧ w.cell? (ad.add (i.toNat * 2)) = some (.string (rd_T87 xs i).f0) ∧ w.cell? ⟨(ad.add (i.toNat * 2)).block, (ad.add (i.toNat * 2)).off + 1, none⟩ = some (.string (rd_T87 xs i).f1) := by
  obtain ⟨ad, c, e, _, hK, hc0⟩ := Kd.C_get h z87 i h0 h1
  have hc : ∀ j u, c[j]? = some u → w.cell? (ad.add (i.toNat * 2 + j)) = some u := hc0
  obtain rfl := k87_open hK
  exact ⟨ad, e, hc 0 _ rfl, by rw [← add_field _ _ 1 (by omega)]; exact hc 1 _ rfl⟩

def rd_L9 (xs : List (List S87)) (i : Int) : (List S87) := xs.getD i.toNat ([] : List S87)
theorem at_L9 {w : World} {A : Option Addr} {n : Nat} {xs : List (List S87)} (h : Kd.C (Kd.slice 87 k87) w A n xs) (i : Int) (h0 : 0 ≤ i) (h1 : i < n) : ∃ ad A0 c0, A = some ad ∧ w.cell? (ad.add i.toNat) = some (.slice A0 (rd_L9 xs i).length c0) ∧ (rd_L9 xs i).length ≤ c0 ∧ k87.C w A0 (rd_L9 xs i).length (rd_L9 xs i) := by
  obtain ⟨ad, c, e, _, hK, hc0⟩ := Kd.C_get h ([] : List S87) i h0 h1
  have hc : ∀ j u, c[j]? = some u → w.cell? (ad.add (i.toNat * 1 + j)) = some u := hc0
  obtain ⟨A0, c0, rfl, l0, g0⟩ := hK
  exact ⟨ad, A0, c0, e, by have hq := hc 0 _ rfl; rwa [Nat.mul_one, Nat.add_zero] at hq, l0, g0⟩

def rd_L10 (xs : List (List ByteArray)) (i : Int) : (List ByteArray) := xs.getD i.toNat ([] : List ByteArray)
theorem at_L10 {w : World} {A : Option Addr} {n : Nat} {xs : List (List ByteArray)} (h : Kd.C (Kd.slice 9 Kd.string) w A n xs) (i : Int) (h0 : 0 ≤ i) (h1 : i < n) : ∃ ad A0 c0, A = some ad ∧ w.cell? (ad.add i.toNat) = some (.slice A0 (rd_L10 xs i).length c0) ∧ (rd_L10 xs i).length ≤ c0 ∧ Kd.string.C w A0 (rd_L10 xs i).length (rd_L10 xs i) := by
  obtain ⟨ad, c, e, _, hK, hc0⟩ := Kd.C_get h ([] : List ByteArray) i h0 h1
  have hc : ∀ j u, c[j]? = some u → w.cell? (ad.add (i.toNat * 1 + j)) = some u := hc0
  obtain ⟨A0, c0, rfl, l0, g0⟩ := hK
  exact ⟨ad, A0, c0, e, by have hq := hc 0 _ rfl; rwa [Nat.mul_one, Nat.add_zero] at hq, l0, g0⟩

/-! #### struct type 54 -/
structure S54 where
  f0 : Int
  f1 : (List ByteArray)
  f2 : Int
def z54 : S54 := ⟨(0 : Int), ([] : List ByteArray), (0 : Int)⟩
def k54 : Kd S54 := Kd.iso (Kd.pair (Kd.int .i64) (Kd.pair (Kd.slice 9 Kd.string) (Kd.int .i64))) (fun x : S54 => (x.f0, x.f1, x.f2))
theorem k54_open {w : World} {x : S54} {cs : List Value} (h : k54.K w x cs) : ∃ A1 c1, cs = [.int .i64 x.f0, .slice A1 x.f1.length c1, .int .i64 x.f2] ∧ x.f1.length ≤ c1 ∧ Kd.string.C w A1 x.f1.length x.f1 := by
  obtain ⟨_, _, rfl, rfl, ⟨_, _, rfl, ⟨A1, c1, rfl, l1, g1⟩, rfl⟩⟩ := h
  exact ⟨A1, c1, rfl, l1, g1⟩
theorem k54_openM {w : World} {base : Nat} {ok : Nat → Prop} {x : S54} {cs : List Value} (h : k54.M w base ok x cs) : ∃ v1, cs = [.int .i64 x.f0, v1, .int .i64 x.f2] ∧ Kd.string.R 9 w base ok v1 x.f1 := by
  obtain ⟨_, _, rfl, rfl, ⟨_, _, rfl, ⟨v1, rfl, g1⟩, rfl⟩⟩ := h
  exact ⟨v1, rfl, g1⟩
theorem k54_mk (w : World) (x : S54) {A1 : Option Addr} {c1 : Nat} (l1 : x.f1.length ≤ c1) (g1 : Kd.string.C w A1 x.f1.length x.f1) : k54.K w x [.int .i64 x.f0, .slice A1 x.f1.length c1, .int .i64 x.f2] := ⟨[.int .i64 x.f0], [.slice A1 x.f1.length c1, .int .i64 x.f2], rfl, rfl, ⟨[.slice A1 x.f1.length c1], [.int .i64 x.f2], rfl, ⟨A1, c1, rfl, l1, g1⟩, rfl⟩⟩
theorem k54_mkM (w : World) (base : Nat) (ok : Nat → Prop) (x : S54) {v1 : Value} (g1 : Kd.string.R 9 w base ok v1 x.f1) : k54.M w base ok x [.int .i64 x.f0, v1, .int .i64 x.f2] := ⟨[.int .i64 x.f0], [v1, .int .i64 x.f2], rfl, rfl, ⟨[v1], [.int .i64 x.f2], rfl, ⟨v1, rfl, g1⟩, rfl⟩⟩
def rd_T54 (xs : List S54) (i : Int) : S54 := xs.getD i.toNat z54
theorem at_T54 {w : World} {A : Option Addr} {n : Nat} {xs : List S54} (h : Kd.C k54 w A n xs) (i : Int) (h0 : 0 ≤ i) (h1 : i < n) : ∃ ad A1 c1, A = some ad ∧ w.cell? (ad.add (i.toNat * 3)) = some (.int .i64 (rd_T54 xs i).f0) ∧ w.cell? ⟨(ad.add (i.toNat * 3)).block, (ad.add (i.toNat * 3)).off + 1, none⟩ = some (.slice A1 (rd_T54 xs i).f1.length c1) ∧ w.cell? ⟨(ad.add (i.toNat * 3)).block, (ad.add (i.toNat * 3)).off + 2, none⟩ = some (.int .i64 (rd_T54 xs i).f2) ∧ (rd_T54 xs i).f1.length ≤ c1 ∧ Kd.string.C w A1 (rd_T54 xs i).f1.length (rd_T54 xs i).f1 := by
  obtain ⟨ad, c, e, _, hK, hc0⟩ := Kd.C_get h z54 i h0 h1
  have hc : ∀ j u, c[j]? = some u → w.cell? (ad.add (i.toNat * 3 + j)) = some u := hc0
  obtain ⟨A1, c1, rfl, l1, g1⟩ := k54_open hK
  exact ⟨ad, A1, c1, e, hc 0 _ rfl, by rw [← add_field _ _ 1 (by omega)]; exact hc 1 _ rfl, by rw [← add_field _ _ 2 (by omega)]; exact hc 2 _ rfl, l1, g1⟩

def rd_L12 (xs : List (List S54)) (i : Int) : (List S54) := xs.getD i.toNat ([] : List S54)
theorem at_L12 {w : World} {A : Option Addr} {n : Nat} {xs : List (List S54)} (h : Kd.C (Kd.slice 54 k54) w A n xs) (i : Int) (h0 : 0 ≤ i) (h1 : i < n) : ∃ ad A0 c0, A = some ad ∧ w.cell? (ad.add i.toNat) = some (.slice A0 (rd_L12 xs i).length c0) ∧ (rd_L12 xs i).length ≤ c0 ∧ k54.C w A0 (rd_L12 xs i).length (rd_L12 xs i) := by
  obtain ⟨ad, c, e, _, hK, hc0⟩ := Kd.C_get h ([] : List S54) i h0 h1
  have hc : ∀ j u, c[j]? = some u → w.cell? (ad.add (i.toNat * 1 + j)) = some u := hc0
  obtain ⟨A0, c0, rfl, l0, g0⟩ := hK
  exact ⟨ad, A0, c0, e, by have hq := hc 0 _ rfl; rwa [Nat.mul_one, Nat.add_zero] at hq, l0, g0⟩

end Go.Proofs.YtblpiceallbfjaaDoor.Pr
