/- fold.unmarked: what it answers of one rune (a table of 64 runes, gone through as a text), and that the code comes to it. -/
import Derived.Test.YtblpiceallbfjaaDoorFoldA
set_option linter.unusedVariables false
set_option linter.unusedSimpArgs false
namespace Go.Proofs.YtblpiceallbfjaaDoor.Pr
open Go.RowKit Go.Proofs.YtblpiceallbfjaaDoorW.PrintWords Go.Proofs.YtblpiceallbfjaaDoorW.PrintLast Go.Proofs.YtblpiceallbfjaaDoorW.PrintMore

def latinS : ByteArray := ⟨#[65, 65, 65, 65, 65, 65, 195, 134, 67, 69, 69, 69, 69, 73, 73, 73, 73, 195, 144, 78, 79, 79, 79, 79, 79, 195, 151, 79, 85, 85, 85, 85, 89, 195, 158, 195, 159, 97, 97, 97, 97, 97, 97, 195, 166, 99, 101, 101, 101, 101, 105, 105, 105, 105, 195, 176, 110, 111, 111, 111, 111, 111, 195, 183, 111, 117, 117, 117, 117, 121, 195, 190, 121]⟩
def latinT : List Int := [65, 65, 65, 65, 65, 65, 198, 67, 69, 69, 69, 69, 73, 73, 73, 73, 208, 78, 79, 79, 79, 79, 79, 215, 79, 85, 85, 85, 85, 89, 222, 223, 97, 97, 97, 97, 97, 97, 230, 99, 101, 101, 101, 101, 105, 105, 105, 105, 240, 110, 111, 111, 111, 111, 111, 247, 111, 117, 117, 117, 117, 121, 254, 121]
def latinP : List Nat := [0, 1, 2, 3, 4, 5, 6, 8, 9, 10, 11, 12, 13, 14, 15, 16, 17, 19, 20, 21, 22, 23, 24, 25, 27, 28, 29, 30, 31, 32, 33, 35, 37, 38, 39, 40, 41, 42, 43, 45, 46, 47, 48, 49, 50, 51, 52, 53, 54, 56, 57, 58, 59, 60, 61, 62, 64, 65, 66, 67, 68, 69, 70, 72, 73]
/-- A rune without its mark. -/
def unmarkedI (r : Int) : Int := if r < 192 ∨ 255 < r then r else latinT.getD (r - 192).toNat r

theorem latin_at : ∀ j, j < 64 → latinP.getD j 0 < latinS.size ∧ Utf8.decode latinS (latinP.getD j 0) = ((latinT.getD j 0).toNat, latinP.getD (j + 1) 0 - latinP.getD j 0) ∧ latinP.getD j 0 < latinP.getD (j + 1) 0 ∧ latinP.getD (j + 1) 0 ≤ 80 ∧ 0 ≤ latinT.getD j 0 ∧ latinT.getD j 0 = latinT.getD j (192 + j) := by decide +kernel

set_option maxHeartbeats 8000000 in
set_option maxRecDepth 100000 in
theorem fold_unmarked (r : Int) (w : World) : Calls Tryd.prog 72 #[.int .i32 r] w fun e w' => e = .returned (.int .i32 (unmarkedI r)) ∧ Below w.heap.size w w' := by
  by_cases h1 : r < 192
  · go_enter Tryd.func72, Tryd.ntmps72
    go_wp2
    go_ret
    exact ⟨ret_i32 (by unfold unmarkedI; rw [if_pos (.inl h1)]), Below.refl _ _⟩
  by_cases h2 : 255 < r
  · go_enter Tryd.func72, Tryd.ntmps72
    go_wp2
    go_ret
    exact ⟨ret_i32 (by unfold unmarkedI; rw [if_pos (.inr h2)]), Below.refl _ _⟩
  have h1' : 192 ≤ r := by omega
  have h2' : r ≤ 255 := by omega
  clear h1 h2
  go_enter Tryd.func72, Tryd.ntmps72
  go_wp2
  go_loopw [3] (fun v wr => ∃ j : Nat, v = .int .i32 (192 + j) ∧ (192 : Int) + j ≤ r ∧ wr.heap[w.heap.size]? = some (.stringIter latinS (latinP.getD j 0)) ∧ Below w.heap.size w wr) (fun _ wr => 100 - wr.iterPos w.heap.size)
  case atStart => exact ⟨0, rfl, by omega, World.iter_heap w _ 0, (Below.refl _ w).alloc (Nat.le_refl _) _⟩
  case round =>
    obtain ⟨j, rfl, hjr, hit, hbw⟩ := hrel
    have hj : j < 64 := by omega
    obtain ⟨hp, hd, hlt, hle, hp0, heq⟩ := latin_at j hj
    have hnx : ∀ ty, (Instr.next (.pointer (some ⟨w.heap.size, 0, none⟩)) true ty).run Tryd.prog wr = _ := fun ty => Lib.run_next_any_at wr w.heap.size latinS _ ty hit hp
    rw [hd] at hnx
    have hit2 := Lib.iterAt_heap wr w.heap.size latinS _ (latinP.getD (j + 1) 0) hit
    have hbw2 := Lib.below_iterAt hbw (k := w.heap.size) (by omega) latinS (latinP.getD (j + 1) 0)
    simp only [show latinP.getD j 0 + (latinP.getD (j + 1) 0 - latinP.getD j 0) = latinP.getD (j + 1) 0 from by omega, Int.toNat_of_nonneg hp0] at hnx
    have hm : wr.iterPos w.heap.size = latinP.getD j 0 := by simp only [World.iterPos, hit]
    generalize wr.iterAt w.heap.size latinS (latinP.getD (j + 1) 0) = W2 at hnx hit2 hbw2
    have hm2 : W2.iterPos w.heap.size = latinP.getD (j + 1) 0 := by simp only [World.iterPos, hit2]
    generalize hqq : latinP.getD (j + 1) 0 = q at *
    have HQ := Lib.hid hqq
    clear hqq
    generalize latinP.getD j 0 = p at *
    have HU : Hid (r = 192 + j → unmarkedI r = latinT.getD j 0) := Lib.hid (fun e => by
      subst e
      unfold unmarkedI
      rw [if_neg (by omega), heq]
      congr 1
      omega)
    clear heq hd hp0
    generalize latinT.getD j 0 = t at *
    by_cases he : r = 192 + j
    · have HE := Lib.hid he
      have hq : (((192 : Int) + (j : Int)) == r) = true := by rw [he]; simp
      clear he
      go_wp2
      go_ret
      exact ⟨ret_i32 (HU.out HE.out).symm, hbw2⟩
    · have hq : (((192 : Int) + (j : Int)) == r) = false := by simp; omega
      have HE := Lib.hid (show (192 : Int) + (j + 1 : Nat) ≤ r by omega)
      clear he
      go_wp2
      go_roundw
      case rel => exact ⟨j + 1, by go_num, HE.out, by rw [HQ.out]; exact hit2, hbw2⟩
      case measure => rw [hm2, hm]; omega
end Go.Proofs.YtblpiceallbfjaaDoor.Pr
