/- Plain facts on decoding UTF-8, no program in sight: decoding a tail of a text, how long a decoded rune is. -/
import Derived.Shelf.Unicode.DecodeSlow
import Derived.Shelf.Small.Utf8
import Derived.Lib.RuneCountTail
namespace Go.Proofs.YtblpiceallbfjaaDoor.Utf
open Go

theorem decode_extract (s : ByteArray) (p : Nat) : Utf8.decode (s.extract p s.size) 0 = Utf8.decode s p := by
  rw [Lib.decode_at, Lib.decode_at]
  simp only [Lib.tail_get!, Nat.add_zero, Nat.zero_add, Nat.sub_zero]
  have : (s.extract p s.size).size = s.size - p := by simp
  rw [this]

theorem decodeN_runeLen (n b0 b1 b2 b3 : Nat) (h0 : b0 < 256) (h : Lib.decodeN n b0 b1 b2 b3 ≠ (65533, 1)) : Lib.runeLen ((Lib.decodeN n b0 b1 b2 b3).1 : Int) = (Lib.decodeN n b0 b1 b2 b3).2 := by
  unfold Lib.decodeN at h ⊢
  repeat' split
  all_goals first | (exfalso; simp_all; done) | (simp only [Lib.runeLen]; repeat' split) <;> first | omega | rfl | (simp; omega)

theorem decode_runeLen (s : ByteArray) (p : Nat) (h : Utf8.decode s p ≠ (65533, 1)) : Lib.runeLen ((Utf8.decode s p).1 : Int) = (Utf8.decode s p).2 := by
  rw [Lib.decode_at] at h ⊢
  exact decodeN_runeLen _ _ _ _ _ (by have := (s.get! p).toNat_lt; omega) h

theorem width_pos (s : ByteArray) (pos : Nat) (h : pos < s.size) : 1 ≤ (Utf8.decode s pos).2 := by
  by_cases ha : (s[pos]'h).toNat < 128
  · rw [decode_ascii s pos h ha]
    exact Nat.le_refl _
  · exact (decode_high s pos h (by omega)).2
end Go.Proofs.YtblpiceallbfjaaDoor.Utf
