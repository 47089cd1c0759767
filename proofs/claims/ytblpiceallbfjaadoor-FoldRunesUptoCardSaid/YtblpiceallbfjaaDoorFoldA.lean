/- fold.lower, fold.letter, fold.unmarked: what they answer of one rune, and that the code comes to it. -/
import Derived.Test.YtblpiceallbfjaaDoorPr0
import Derived.Test.YtblpiceallbfjaaDoorGlobals
import Derived.Test.YtblpiceallbfjaaDoorUtf
import Derived.Lib.OthersKept
import Derived.Lib.Hide
import Derived.Lib.QuoteBits
import Derived.Lib.RabinKarpLaws
set_option linter.unusedVariables false
set_option linter.unusedSimpArgs false
namespace Go.Proofs.YtblpiceallbfjaaDoor.Pr
open Go.RowKit Go.Proofs.YtblpiceallbfjaaDoorW.PrintWords Go.Proofs.YtblpiceallbfjaaDoorW.PrintLast Go.Proofs.YtblpiceallbfjaaDoorW.PrintMore

/-- A rune's small form. -/
def smallI (r : Int) : Int :=
  if (65 ≤ r ∧ r ≤ 90) ∨ (192 ≤ r ∧ r ≤ 222 ∧ r ≠ 215) ∨ (913 ≤ r ∧ r ≤ 937 ∧ r ≠ 930) ∨ (1040 ≤ r ∧ r ≤ 1071) then r + 32
  else if 1024 ≤ r ∧ r ≤ 1039 then r + 80
  else if r % 2 = 0 ∧ ((256 ≤ r ∧ r ≤ 311) ∨ (330 ≤ r ∧ r ≤ 375) ∨ (7680 ≤ r ∧ r ≤ 7829)) then r + 1
  else if ¬ r % 2 = 0 ∧ ((313 ≤ r ∧ r ≤ 328) ∨ (377 ≤ r ∧ r ≤ 382)) then r + 1
  else if r = 376 then 255
  else if r = 962 then 963
  else r
/-- u for v, i for j. -/
def letterI (r : Int) : Int := if r = 118 ∨ r = 86 ∨ r = 106 ∨ r = 74 then r - 1 else r

theorem wrap_i32_of (n : Int) (h0 : 0 ≤ n) (h1 : n < 2147483648) : IntKind.i32.wrap n = n := by
  obtain ⟨m, rfl⟩ := Int.eq_ofNat_of_zero_le h0
  exact Lib.wrap_i32_small m (by omega)
theorem two31 : (2 : Int) ^ 31 = 2147483648 := by decide
theorem and1 (r : Int) (h0 : 0 ≤ r) (h1 : r ≤ 2147483646) : Go.bits .and .i32 r 1 = r % 2 := by
  have h := bits_mask .i32 31 (by decide) (fun n h0 h1 => by rw [two31] at h1; exact wrap_i32_of n h0 h1) 1 (by decide) r h0 (by rw [two31]; omega)
  have e : ((2 : Int) ^ 1 - 1) = 1 := by decide
  rw [e] at h
  rw [h]
  omega
theorem or1 (r : Int) (h0 : 0 ≤ r) (h1 : r ≤ 2147483646) : Go.bits .or .i32 r 1 = r + 1 - r % 2 := by
  obtain ⟨n, rfl⟩ := Int.eq_ofNat_of_zero_le h0
  show IntKind.i32.wrap ((BitVec.ofInt 32 (n : Int) ||| BitVec.ofInt 32 ((1 : Nat) : Int)).toNat : Int) = _
  rw [BitVec.toNat_or, BitVec.ofInt_natCast, BitVec.ofInt_natCast, BitVec.toNat_ofNat, BitVec.toNat_ofNat, Nat.mod_eq_of_lt (by omega), Nat.mod_eq_of_lt (by omega), Lib.or_one_nat, Lib.wrap_i32_small _ (by omega)]
  omega

theorem ret_i32 {a b : Int} (h : a = b) : Ending.returned (.int .i32 a) = .returned (.int .i32 b) := by rw [h]
theorem smallCases (r : Int) : r < 65 ∨ (65 ≤ r ∧ r ≤ 90) ∨ (91 ≤ r ∧ r ≤ 191) ∨ (192 ≤ r ∧ r ≤ 214) ∨ r = 215 ∨ (216 ≤ r ∧ r ≤ 222) ∨ (223 ≤ r ∧ r ≤ 255) ∨ (256 ≤ r ∧ r ≤ 311) ∨ r = 312 ∨ (313 ≤ r ∧ r ≤ 328) ∨ r = 329 ∨ (330 ≤ r ∧ r ≤ 375) ∨ r = 376 ∨ (377 ≤ r ∧ r ≤ 382) ∨ (383 ≤ r ∧ r ≤ 912) ∨ (913 ≤ r ∧ r ≤ 929) ∨ r = 930 ∨ (931 ≤ r ∧ r ≤ 937) ∨ (938 ≤ r ∧ r ≤ 961) ∨ r = 962 ∨ (963 ≤ r ∧ r ≤ 1023) ∨ (1024 ≤ r ∧ r ≤ 1039) ∨ (1040 ≤ r ∧ r ≤ 1071) ∨ (1072 ≤ r ∧ r ≤ 7679) ∨ (7680 ≤ r ∧ r ≤ 7829) ∨ 7830 ≤ r := by omega

set_option maxHeartbeats 8000000 in
set_option maxRecDepth 100000 in
theorem fold_lower (r : Int) (w : World) : Calls Tryd.prog 71 #[.int .i32 r] w fun e w' => e = .returned (.int .i32 (smallI r)) ∧ Drawn0 w w' := by
  rcases smallCases r with h | ⟨h, h'⟩ | ⟨h, h'⟩ | ⟨h, h'⟩ | h | ⟨h, h'⟩ | ⟨h, h'⟩ | ⟨h, h'⟩ | h | ⟨h, h'⟩ | h | ⟨h, h'⟩ | h | ⟨h, h'⟩ | ⟨h, h'⟩ | ⟨h, h'⟩ | h | ⟨h, h'⟩ | ⟨h, h'⟩ | h | ⟨h, h'⟩ | ⟨h, h'⟩ | ⟨h, h'⟩ | ⟨h, h'⟩ | ⟨h, h'⟩ | h
  all_goals first
    | (subst h
       go_enter Tryd.func71, Tryd.ntmps71
       go_wp2
       go_ret
       exact ⟨ret_i32 (by decide), Drawn0.refl _⟩)
    | (have ha := fun p => and1 r p (by omega)
       have ho := fun p => or1 r p (by omega)
       first | (replace ha := ha (by omega); replace ho := ho (by omega)) | skip
       go_enter Tryd.func71, Tryd.ntmps71
       go_wp2
       go_ret
       refine ⟨ret_i32 ?_, Drawn0.refl _⟩
       unfold smallI
       repeat' split
       all_goals omega)
    | (go_enter Tryd.func71, Tryd.ntmps71
       go_wp2
       go_ret
       refine ⟨ret_i32 ?_, Drawn0.refl _⟩
       unfold smallI
       repeat' split
       all_goals omega)
end Go.Proofs.YtblpiceallbfjaaDoor.Pr
