/- glyph.Cells: what it answers (the cells of a text, by the model's own decoding), and that the code comes to just that, under the two tables of unicode/utf8 as their initialisers lay them. -/
import Derived.Test.YtblpiceallbfjaaDoorPr0
import Derived.Test.YtblpiceallbfjaaDoorGlobals
import Derived.Test.YtblpiceallbfjaaDoorShelf
import Derived.Test.YtblpiceallbfjaaDoorUtf
import Derived.Lib.OthersKept
import Derived.Lib.Hide
set_option linter.unusedVariables false
namespace Go.Proofs.YtblpiceallbfjaaDoor.Pr
open Go.RowKit Go.Proofs.YtblpiceallbfjaaDoorW.PrintWords Go.Proofs.YtblpiceallbfjaaDoorW.PrintLast Go.Proofs.YtblpiceallbfjaaDoorW.PrintMore

/-- The cell at a place. -/
def cellAt (s : ByteArray) (pos : Nat) : S67 :=
  if Utf8.decode s pos = (65533, 1) then ⟨pos, 1, 65533, true, bt s pos⟩
  else ⟨pos, (Utf8.decode s pos).2, (Utf8.decode s pos).1, false, 0⟩
/-- The cells from a place on. -/
def cellsFrom (s : ByteArray) : Nat → Nat → List S67
  | 0, _ => []
  | fuel + 1, pos => if pos < s.size then cellAt s pos :: cellsFrom s fuel (pos + (Utf8.decode s pos).2) else []
def cells (s : ByteArray) : List S67 := cellsFrom s s.size 0
theorem cellsFrom_end (s : ByteArray) (fuel pos : Nat) (h : ¬ pos < s.size) : cellsFrom s fuel pos = [] := by
  cases fuel with
  | zero => rfl
  | succ f => simp [cellsFrom, h]
theorem cellsFrom_at (s : ByteArray) (f pos : Nat) (h : pos < s.size) : cellsFrom s (f + 1) pos = cellAt s pos :: cellsFrom s f (pos + (Utf8.decode s pos).2) := by
  simp [cellsFrom, h]
theorem cellAt_bad {s : ByteArray} {pos : Nat} (h : Utf8.decode s pos = (65533, 1)) : cellAt s pos = ⟨pos, 1, 65533, true, bt s pos⟩ := if_pos h
theorem cellAt_good {s : ByteArray} {pos : Nat} (h : Utf8.decode s pos ≠ (65533, 1)) : cellAt s pos = ⟨pos, (Utf8.decode s pos).2, (Utf8.decode s pos).1, false, 0⟩ := if_neg h

def glyph_Cells.f (a0 : ByteArray) : Option (List S67) := if a0.size ≤ 1099511627776 then some (cells a0) else none

/-- A row of cells stays while a text's iterator moves on. -/
theorem R_iterAt {w : World} {base k : Nat} {v : Value} {xs : List S67} {s : ByteArray} (h : Kd.R k67 67 w base (fun k_ => k_ ≠ k) v xs) (pos : Nat) : Kd.R k67 67 (w.iterAt k s pos) base (fun k_ => k_ ≠ k) v xs :=
  Kd.R_step h (fun j hj _ => Lib.iterAt_other w k j s pos hj)

set_option maxHeartbeats 4000000 in
set_option maxRecDepth 1000000 in
theorem glyph_Cells.calls (a0 : ByteArray) (r : List S67) (w : World) (hG : Gu w) (h : glyph_Cells.f a0 = some r) :
    Calls Tryd.prog 40 #[.string a0] w fun e w' => ∃ v0_ : Value, e = .returned (v0_) ∧ Kd.R k67 67 w' w.heap.size (fun _ => True) v0_ r ∧ Below w.heap.size w w' := by
  have hsz : a0.size ≤ 1099511627776 := by
    unfold glyph_Cells.f at h
    split at h
    · assumption
    · cases h
  obtain rfl : cells a0 = r := by
    unfold glyph_Cells.f at h
    rw [if_pos hsz] at h
    exact Option.some.inj h
  clear h
  have hu := Tryd.underlying67
  go_enter Tryd.func40, Tryd.ntmps40
  go_wp2
  go_loopw [3] (fun v wr => ∃ (pos fuel : Nat) (acc : List S67), Kd.R k67 67 wr w.heap.size (fun k_ => k_ ≠ w.heap.size) v acc ∧ wr.heap[w.heap.size]? = some (.stringIter a0 pos) ∧ Below w.heap.size w wr ∧ acc ++ cellsFrom a0 fuel pos = cells a0 ∧ a0.size ≤ pos + fuel ∧ acc.length ≤ pos) (fun _ wr => a0.size - wr.iterPos w.heap.size)
  case atStart =>
    refine ⟨0, a0.size, [], Kd.R_nil _ _ _ _ _, ?_, (Below.refl _ w).alloc (Nat.le_refl _) _, rfl, by omega, by simp⟩
    exact World.iter_heap w a0 0
  case round =>
    obtain ⟨pos, fuel, acc, hR, hit, hbw, hacc, hfu, hal⟩ := hrel
    have hszr : w.heap.size < wr.heap.size := (Array.getElem?_eq_some_iff.1 hit).1
    by_cases hp : pos < a0.size
    · have hnx : ∀ ty, (Instr.next (.pointer (some ⟨w.heap.size, 0, none⟩)) true ty).run Tryd.prog wr = _ := fun ty => Lib.run_next_any_at wr w.heap.size a0 pos ty hit hp
      have hwd := Utf.width_pos a0 pos hp
      have hd1 := decode_le a0 pos
      obtain ⟨f, rfl⟩ : ∃ f, fuel = f + 1 := ⟨fuel - 1, by omega⟩
      have hR2 := R_iterAt (s := a0) hR (pos + (Utf8.decode a0 pos).2)
      have hit2 := Lib.iterAt_heap wr w.heap.size a0 pos (pos + (Utf8.decode a0 pos).2) hit
      have hbw2 := Lib.below_iterAt hbw (k := w.heap.size) (by omega) a0 (pos + (Utf8.decode a0 pos).2)
      have hsz2 : w.heap.size < (wr.iterAt w.heap.size a0 (pos + (Utf8.decode a0 pos).2)).heap.size := by rw [Lib.iterAt_size]; omega
      have hm : wr.iterPos w.heap.size = pos := by simp only [World.iterPos, hit]
      rw [cellsFrom_at a0 f pos hp] at hacc
      generalize hW2 : wr.iterAt w.heap.size a0 (pos + (Utf8.decode a0 pos).2) = W2 at hnx hR2 hit2 hbw2 hsz2
      clear hW2 hR hit hbw hszr
      have hbad := fun h => @cellAt_bad a0 pos h
      have hgood := fun h => @cellAt_good a0 pos h
      have hrl := Utf.decode_runeLen a0 pos
      have hde := Utf.decode_extract a0 pos
      obtain ⟨⟨R, D⟩, hRD⟩ : ∃ x, Utf8.decode a0 pos = x := ⟨_, rfl⟩
      rw [hRD] at hnx hbad hgood hrl hde hwd hd1 hacc hit2
      clear hRD
      simp only at hnx hbad hgood hrl hwd hd1 hacc hit2
      have fin : ∀ (C : S67) (v1 : Value) (w1 W : World), C = cellAt a0 pos → Kd.R k67 67 w1 w.heap.size (fun k_ => k_ ≠ w.heap.size) v1 (acc ++ [C]) → Below w.heap.size w w1 → w1.heap[w.heap.size]? = some (.stringIter a0 (pos + D)) →
          (∃ (pos fuel : Nat) (acc : List S67), Kd.R k67 67 w1 w.heap.size (fun k_ => k_ ≠ w.heap.size) v1 acc ∧ w1.heap[w.heap.size]? = some (.stringIter a0 pos) ∧ Below w.heap.size w w1 ∧ acc ++ cellsFrom a0 fuel pos = cells a0 ∧ a0.size ≤ pos + fuel ∧ acc.length ≤ pos) ∧ a0.size - w1.iterPos w.heap.size < a0.size - wr.iterPos w.heap.size := by
        rintro C v1 w1 W rfl h1 h2 h3
        refine ⟨⟨pos + D, f, _, h1, h3, h2, ?_, by omega, by simp; omega⟩, ?_⟩
        · rw [← hacc]; simp
        · rw [hm]; simp only [World.iterPos, h3]; omega
      have FIN : Hid _ := Lib.hid fin
      clear fin hacc
      have hG2 := hG.below hbw2
      have hp2 : (pos : Int) < (a0.size : Int) := by omega
      have hp3 : (pos : Int) ≤ (a0.size : Int) := by omega
      by_cases hx : (R, D) = (65533, 1)
      · have hc := (hbad hx).symm
        obtain ⟨rfl, rfl⟩ := Prod.mk.inj hx
        clear hx hgood hrl hbad
        obtain ⟨b8, hb8⟩ : ∃ b : Nat, (a0[pos]'hp).toNat = b := ⟨_, rfl⟩
        rw [show bt a0 (pos : Int) = (b8 : Int) from by rw [← hb8]; exact (bt_at a0 (pos : Int) (by simpa using hp)).symm] at hc
        have HC := Lib.hid hc
        clear hc
        have hgo : (Lib.decodeGo (a0.extract pos a0.size)).2 = 1 := by
          unfold Lib.decodeGo
          rw [if_neg (by simp; omega), hde]
        clear hde
        go_wp2_with (first | (go_at_call 74; refine (Tryd.utf8_RuneLen _ _).mono ?_; rintro e w' ⟨rfl, rfl⟩) | (go_at_call 75; refine (Tryd.utf8_DecodeRuneInString _ _ hG2.tabs).mono ?_; rintro e w1 ⟨rfl, hb1⟩; rw [hgo]; have hs1 := hb1.size) | (at_builtin; refine Kd.R_append k67 (w0 := w) w.heap.size rfl (.tmp 40) (.tmp 42) 64 67 (.agg #[(.int .i64 0), (.int .i64 0), (.int .i32 0), (.bool false), (.int .u8 0)]) 24 rfl Tryd.underlying64 info67 rfl (by decide) (by omega) _ acc (⟨pos, 1, 65533, true, b8⟩ : S67) [.int .i64 pos, .int .i64 1, .int .i32 65533, .bool true, .int .u8 b8] (fun k_ => k_ ≠ w.heap.size) (fun _ => False) rfl (by go_simp; done) ?aP (fun _ hk => hk.elim) ?aF ?aO ?aB ?aS ?aL ?_))
        case aP => exact k67_mkM _ _ _ _
        case aF => intro k_ hk; simp at hk; omega
        case aO => exact Kd.R_alloc (Kd.R_below hR2 hb1) _
        case aB => exact (below_step hbw2 hb1).alloc (by omega) _
        case aS => simp; omega
        case aL => omega
        intro v1 w2 ho hb hg hat
        have hit3 : w2.heap[w.heap.size]? = some (.stringIter a0 (pos + 1)) := (hg.block _ (by simp; omega) (fun e => hR2.1 _ e.symm rfl)).trans ((Lib.alloc_old _ _ _ (by omega)).trans ((hb1.block _ (by omega)).trans hit2))
        clear hat hg
        go_wp2
        go_roundw
        case rel => exact (FIN.out _ _ _ wr (HC.out) ho hb hit3).1
        case measure => exact (FIN.out _ _ _ wr (HC.out) ho hb hit3).2
      · have hrl' := hrl hx
        have hc := (hgood hx).symm
        clear hrl hbad hgood
        have HC := Lib.hid hc
        clear hc
        by_cases h3 : R = 65533
        · subst h3
          have hD : D ≠ 1 := fun e => hx (by rw [e])
          have hgo : (Lib.decodeGo (a0.extract pos a0.size)).2 = D := by
            unfold Lib.decodeGo
            rw [if_neg (by simp; omega), hde]
          have hD1 : (((D : Nat) : Int) == 1) = false := by simp; omega
          have hrl2 : Lib.runeLen (65533 : Int) = (D : Int) := hrl'
          clear hx hde hrl'
          go_wp2_with (first | (go_at_call 74; refine (Tryd.utf8_RuneLen _ _).mono ?_; rintro e w' ⟨rfl, rfl⟩) | (go_at_call 75; refine (Tryd.utf8_DecodeRuneInString _ _ hG2.tabs).mono ?_; rintro e w1 ⟨rfl, hb1⟩; rw [hgo]; have hs1 := hb1.size) | (at_builtin; refine Kd.R_append k67 (w0 := w) w.heap.size rfl (.tmp 40) (.tmp 42) 64 67 (.agg #[(.int .i64 0), (.int .i64 0), (.int .i32 0), (.bool false), (.int .u8 0)]) 24 rfl Tryd.underlying64 info67 rfl (by decide) (by omega) _ acc (⟨pos, D, 65533, false, 0⟩ : S67) [.int .i64 pos, .int .i64 D, .int .i32 65533, .bool false, .int .u8 0] (fun k_ => k_ ≠ w.heap.size) (fun _ => False) rfl (by go_simp; done) ?aP (fun _ hk => hk.elim) ?aF ?aO ?aB ?aS ?aL ?_))
          case aP => exact k67_mkM _ _ _ _
          case aF => intro k_ hk; simp at hk; omega
          case aO => exact Kd.R_alloc (Kd.R_below hR2 hb1) _
          case aB => exact (below_step hbw2 hb1).alloc (by omega) _
          case aS => simp; omega
          case aL => omega
          intro v1 w2 ho hb hg hat
          have hit3 : w2.heap[w.heap.size]? = some (.stringIter a0 (pos + D)) := (hg.block _ (by simp; omega) (fun e => hR2.1 _ e.symm rfl)).trans ((Lib.alloc_old _ _ _ (by omega)).trans ((hb1.block _ (by omega)).trans hit2))
          clear hat hg
          go_wp2
          go_roundw
          case rel => exact (FIN.out _ _ _ wr (HC.out) ho hb hit3).1
          case measure => exact (FIN.out _ _ _ wr (HC.out) ho hb hit3).2
        · have hne : (((R : Nat) : Int) == 65533) = false := by simp; omega
          clear h3 hde hx
          go_wp2_with (first | (go_at_call 74; refine (Tryd.utf8_RuneLen _ _).mono ?_; rintro e w' ⟨rfl, rfl⟩) | (at_builtin; refine Kd.R_append k67 (w0 := w) w.heap.size rfl (.tmp 40) (.tmp 42) 64 67 (.agg #[(.int .i64 0), (.int .i64 0), (.int .i32 0), (.bool false), (.int .u8 0)]) 24 rfl Tryd.underlying64 info67 rfl (by decide) (by omega) _ acc (⟨pos, D, R, false, 0⟩ : S67) [.int .i64 pos, .int .i64 D, .int .i32 R, .bool false, .int .u8 0] (fun k_ => k_ ≠ w.heap.size) (fun _ => False) rfl (by go_simp; done) ?aP (fun _ hk => hk.elim) ?aF ?aO ?aB ?aS ?aL ?_))
          case aP => exact k67_mkM _ _ _ _
          case aF => intro k_ hk; simp at hk; omega
          case aO => exact Kd.R_alloc (hR2) _
          case aB => exact (hbw2).alloc (by omega) _
          case aS => simp; omega
          case aL => omega
          intro v1 w2 ho hb hg hat
          have hit3 : w2.heap[w.heap.size]? = some (.stringIter a0 (pos + D)) := (hg.block _ (by simp; omega) (fun e => hR2.1 _ e.symm rfl)).trans ((Lib.alloc_old _ _ _ (by omega)).trans (hit2))
          clear hat hg
          go_wp2
          go_roundw
          case rel => exact (FIN.out _ _ _ wr (HC.out) ho hb hit3).1
          case measure => exact (FIN.out _ _ _ wr (HC.out) ho hb hit3).2
    · have hnx : ∀ ty, (Instr.next (.pointer (some ⟨w.heap.size, 0, none⟩)) true ty).run Tryd.prog wr = _ := fun ty => Lib.run_next_end_at wr w.heap.size a0 pos ty hit hp
      go_wp2
      go_ret
      rw [cellsFrom_end a0 fuel pos hp, List.append_nil] at hacc
      subst hacc
      exact ⟨_, rfl, Kd.R_mono hR (fun _ _ => trivial), hbw⟩
end Go.Proofs.YtblpiceallbfjaaDoor.Pr
