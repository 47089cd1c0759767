/- The document's cells (byte by byte) are the model's own decoding. -/
import Derived.Test.YtblpiceallbfjaaDoorPr5
import Derived.Test.YtblpiceallbfjaaDoorPureUtf
set_option linter.unusedVariables false
set_option linter.unusedSimpArgs false
namespace Go.Proofs.YtblpiceallbfjaaDoor.Pr
open Go.RowKit Go.Proofs.YtblpiceallbfjaaDoorW.PrintWords Go.Proofs.YtblpiceallbfjaaDoorW.PrintLast Go.Proofs.YtblpiceallbfjaaDoorW.PrintMore

theorem or_i32 (x y n : Nat) (hy : y < 2 ^ n) (hx : x * 2 ^ n + y < 2147483648) : Go.bits .or .i32 ((x * 2 ^ n : Nat) : Int) (y : Int) = ((x * 2 ^ n + y : Nat) : Int) := by
  show IntKind.i32.wrap ((BitVec.ofInt 32 ((x * 2 ^ n : Nat) : Int) ||| BitVec.ofInt 32 (y : Int)).toNat : Int) = _
  rw [BitVec.toNat_or, BitVec.ofInt_natCast, BitVec.ofInt_natCast, BitVec.toNat_ofNat, BitVec.toNat_ofNat, Nat.mod_eq_of_lt (by omega), Nat.mod_eq_of_lt (by omega), ← Nat.shiftLeft_eq, ← Nat.shiftLeft_add_eq_or_of_lt hy, Nat.shiftLeft_eq, Lib.wrap_i32_small _ (by omega)]
theorem and31 : ∀ b : Fin 256, Go.bits .and .u8 (b.val : Int) 31 = ((b.val % 32 : Nat) : Int) := by decide +kernel
theorem and15 : ∀ b : Fin 256, Go.bits .and .u8 (b.val : Int) 15 = ((b.val % 16 : Nat) : Int) := by decide +kernel
theorem and7 : ∀ b : Fin 256, Go.bits .and .u8 (b.val : Int) 7 = ((b.val % 8 : Nat) : Int) := by decide +kernel
theorem and63 : ∀ b : Fin 256, Go.bits .and .u8 (b.val : Int) 63 = ((b.val % 64 : Nat) : Int) := by decide +kernel
theorem and31' (b : Nat) (h : b < 256) : Go.bits .and .u8 (b : Int) 31 = ((b % 32 : Nat) : Int) := and31 ⟨b, h⟩
theorem and15' (b : Nat) (h : b < 256) : Go.bits .and .u8 (b : Int) 15 = ((b % 16 : Nat) : Int) := and15 ⟨b, h⟩
theorem and7' (b : Nat) (h : b < 256) : Go.bits .and .u8 (b : Int) 7 = ((b % 8 : Nat) : Int) := and7 ⟨b, h⟩
theorem and63' (b : Nat) (h : b < 256) : Go.bits .and .u8 (b : Int) 63 = ((b % 64 : Nat) : Int) := and63 ⟨b, h⟩
theorem w32 (n : Nat) (h : n < 2147483648) : wrap32 (n : Int) = (n : Int) := by unfold wrap32; omega

theorem between_f (a b c : Int) : siglumref01_between.f a b c = some (decide (b ≤ a ∧ a ≤ c)) := by
  unfold siglumref01_between.f
  by_cases h : a ≥ b
  · rw [if_pos h]; congr 1; simp; omega
  · rw [if_neg h]; congr 1; simp; omega
def secP (a b : Int) : Prop := (if a = 224 then 160 else if a = 240 then 144 else 128) ≤ b ∧ b ≤ (if a = 237 then 159 else if a = 244 then 143 else 191)
instance (a b : Int) : Decidable (secP a b) := by unfold secP; exact inferInstance
theorem second_f (a b : Int) : siglumref01_second.f a b = some (decide (secP a b)) := by
  unfold siglumref01_second.f secP
  simp only [between_f, Option.bind_some]
  by_cases h1 : a = 224
  · subst h1; rfl
  by_cases h2 : a = 237
  · subst h2; rfl
  by_cases h3 : a = 240
  · subst h3; rfl
  by_cases h4 : a = 244
  · subst h4; rfl
  · simp only [if_neg h1, if_neg h2, if_neg h3, if_neg h4]
/-- How many bytes. -/
def wantN (b : Int) : Int := if b < 128 then 1 else if 194 ≤ b ∧ b ≤ 223 then 2 else if 224 ≤ b ∧ b ≤ 239 then 3 else if 240 ≤ b ∧ b ≤ 244 then 4 else 0
theorem wants_f (b : Int) : siglumref01_wants.f b = some (wantN b) := by
  unfold siglumref01_wants.f wantN
  simp only [between_f, Option.bind_some, decide_eq_true_eq]
  repeat' split
  all_goals first | rfl | (exfalso; omega)

section
variable (s : ByteArray) (pos : Nat) (hp : pos < s.size) (hs : s.size ≤ 1099511627776)
omit hs in
theorem fl_end (k : Nat) (n i : Int) (h : n ≤ i) : siglumref01_fits.l0 (k + 2) s (pos : Int) n i = some i := by
  simp only [siglumref01_fits.l0, siglumref01_fits.j1]
  rw [if_neg (by omega)]
  simp
include hp hs
theorem fl_1 (k : Nat) (n : Int) (h : 1 < n) : siglumref01_fits.l0 (k + 2) s (pos : Int) n 1 = if pos + 1 < s.size ∧ secP (bt s pos) (bt s ((pos + 1 : Nat) : Int)) then siglumref01_fits.l0 k s (pos : Int) n 2 else some 1 := by
  have e : wrap64 ((pos : Int) + 1) = ((pos + 1 : Nat) : Int) := by unfold wrap64; omega
  simp only [siglumref01_fits.l0, siglumref01_fits.j1, e, second_f, Option.bind_some]
  rw [if_pos h]
  by_cases c : pos + 1 < s.size
  · rw [if_pos (by simp; omega), if_pos (by omega), if_pos (by omega), if_pos trivial, if_pos (by omega), if_pos (by omega)]
    by_cases c2 : secP (bt s pos) (bt s ((pos + 1 : Nat) : Int))
    · rw [if_pos (by simpa using c2), if_neg (by omega), if_pos ⟨c, c2⟩, show wrap64 (1 + 1) = 2 by unfold wrap64; omega]
    · rw [if_neg (by simpa using c2), if_neg (fun h => c2 h.2)]
  · rw [if_neg (by simp; omega), if_neg (fun h => c h.1)]
theorem fl_i (k : Nat) (n : Int) (i : Nat) (h1 : 1 < i) (h2 : i < 4) (h : (i : Int) < n) : siglumref01_fits.l0 (k + 2) s (pos : Int) n (i : Int) = if pos + i < s.size ∧ 128 ≤ bt s ((pos + i : Nat) : Int) ∧ bt s ((pos + i : Nat) : Int) ≤ 191 then siglumref01_fits.l0 k s (pos : Int) n ((i + 1 : Nat) : Int) else some (i : Int) := by
  have e : wrap64 ((pos : Int) + (i : Int)) = ((pos + i : Nat) : Int) := by unfold wrap64; omega
  have e2 : wrap64 ((i : Int) + 1) = ((i + 1 : Nat) : Int) := by unfold wrap64; omega
  simp only [siglumref01_fits.l0, siglumref01_fits.j1, e, e2, between_f, Option.bind_some]
  rw [if_pos h]
  by_cases c : pos + i < s.size
  · rw [if_pos (by simp; omega), if_pos (by omega), if_pos (by omega), if_neg (by omega), if_pos (by omega)]
    by_cases c2 : 128 ≤ bt s ((pos + i : Nat) : Int) ∧ bt s ((pos + i : Nat) : Int) ≤ 191
    · rw [if_pos (by simpa using c2), if_pos ⟨c, c2⟩]
    · rw [if_neg (by simpa using c2), if_neg (fun h => c2 h.2)]
  · rw [if_neg (by simp; omega), if_neg (fun h => c h.1)]
end
theorem bt_get (s : ByteArray) (i : Nat) (h : i < s.size) : bt s (i : Int) = ((s.get! i).toNat : Int) := by
  have := bt_at s (i : Int) (by simpa using h)
  rw [← this]
  show _ = ((s.data[i]!).toNat : Int)
  rw [getElem!_pos s.data i h]
  rfl

theorem cell_bad (k : Nat) (s : ByteArray) (pos : Nat) (n : Int) (hp : pos < s.size) : siglumref01_cell.j0 (k + 1) s (pos : Int) n true = some ((pos : Int), 1, 65533, true, bt s pos) := by
  simp only [siglumref01_cell.j0, if_true]
  rw [if_pos (by omega), if_pos (by omega)]

theorem ref_cell (k : Nat) (s : ByteArray) (pos : Nat) (hp : pos < s.size) (hs : s.size ≤ 1099511627776) :
    siglumref01_cell.f (k + 12) s (pos : Int) = some ((cellAt s pos).f0, (cellAt s pos).f1, (cellAt s pos).f2, (cellAt s pos).f3, (cellAt s pos).f4) := by
  have hd := Lib.decode_at s pos
  have g0 := bt_get s pos hp
  have g1 := bt_get s (pos + 1)
  have g2 := bt_get s (pos + 2)
  have g3 := bt_get s (pos + 3)
  have l0 := (s.get! pos).toNat_lt
  have l1 := (s.get! (pos + 1)).toNat_lt
  have l2 := (s.get! (pos + 2)).toNat_lt
  have l3 := (s.get! (pos + 3)).toNat_lt
  have hbad : Utf8.decode s pos = (65533, 1) → some ((pos : Int), (1 : Int), (65533 : Int), true, bt s pos) = some ((cellAt s pos).f0, (cellAt s pos).f1, (cellAt s pos).f2, (cellAt s pos).f3, (cellAt s pos).f4) := by
    intro h
    rw [cellAt_bad h]
  have hgood : ∀ (r w : Nat), Utf8.decode s pos = (r, w) → ¬ (w = 1 ∧ r = 65533) → some ((pos : Int), (w : Int), (r : Int), false, (0 : Int)) = some ((cellAt s pos).f0, (cellAt s pos).f1, (cellAt s pos).f2, (cellAt s pos).f3, (cellAt s pos).f4) := by
    intro r w h hn
    rw [cellAt_good (by rw [h]; intro e; exact hn ⟨congrArg Prod.snd e, congrArg Prod.fst e⟩), h]
  have e1 : wrap64 ((pos : Int) + 1) = ((pos + 1 : Nat) : Int) := by unfold wrap64; omega
  have e2 : wrap64 ((pos : Int) + 2) = ((pos + 2 : Nat) : Int) := by unfold wrap64; omega
  have e3 : wrap64 ((pos : Int) + 3) = ((pos + 3 : Nat) : Int) := by unfold wrap64; omega
  generalize hb0 : (s.get! pos).toNat = b0 at *
  generalize hb1 : (s.get! (pos + 1)).toNat = b1 at *
  generalize hb2 : (s.get! (pos + 2)).toNat = b2 at *
  generalize hb3 : (s.get! (pos + 3)).toNat = b3 at *
  clear hb0 hb1 hb2 hb3
  generalize Utf8.decode s pos = D at *
  have hw : (wantN b0 = 0 ∧ ((128 ≤ b0 ∧ b0 < 194) ∨ 245 ≤ b0)) ∨ (wantN b0 = 1 ∧ b0 < 128) ∨ (wantN b0 = 2 ∧ 194 ≤ b0 ∧ b0 ≤ 223) ∨ (wantN b0 = 3 ∧ 224 ≤ b0 ∧ b0 ≤ 239) ∨ (wantN b0 = 4 ∧ 240 ≤ b0 ∧ b0 ≤ 244) := by
    unfold wantN
    repeat' split
    all_goals omega
  unfold siglumref01_cell.f siglumref01_fits.f
  rw [if_pos (by omega), if_pos (by omega), g0, wants_f]
  simp only [Option.bind_some]
  generalize wantN (b0 : Int) = n at *
  rcases hw with ⟨rfl, hw⟩ | ⟨rfl, hw⟩ | ⟨rfl, hw, hw'⟩ | ⟨rfl, hw, hw'⟩ | ⟨rfl, hw, hw'⟩
  · rw [if_pos rfl, cell_bad _ _ _ _ hp]
    refine hbad ?_
    rw [hd]
    unfold Lib.decodeN
    repeat' split
    all_goals first | rfl | (exfalso; omega)
  · rw [if_neg (by omega), if_pos (by omega), if_pos (by omega), if_neg (by omega), fl_end _ _ _ _ _ (by omega)]
    simp only [Option.bind_some]
    rw [show decide ((1 : Int) < 1) = false from rfl]
    simp only [siglumref01_cell.j0, Bool.false_eq_true, if_false]
    rw [if_pos (by omega), if_pos (by omega), if_neg (by omega), if_neg (by omega), if_neg (by omega), g0, w32 _ (by omega)]
    refine hgood b0 1 ?_ (by omega)
    rw [hd]
    unfold Lib.decodeN
    rw [if_pos hw]
  · rw [if_neg (by omega), if_pos (by omega), if_pos (by omega), if_neg (by omega), fl_1 _ _ hp hs _ _ (by omega), g0]
    by_cases c1 : pos + 1 < s.size ∧ secP (b0 : Int) (bt s ((pos + 1 : Nat) : Int))
    · rw [if_pos c1, fl_end _ _ _ _ _ (by omega)]
      simp only [Option.bind_some]
      rw [show decide ((2 : Int) < 2) = false from rfl]
      simp only [siglumref01_cell.j0, Bool.false_eq_true, if_false]
      obtain ⟨c1, c2⟩ := c1
      have g1 := g1 c1
      rw [g1] at c2
      rw [if_pos (by omega), if_pos (by omega), if_pos trivial, e1, if_pos (by omega), if_pos (by omega), g0, g1, and31' b0 l0, and63' b1 l1, w32 _ (by omega), w32 _ (by omega)]
      rw [show ((b0 % 32 : Nat) : Int) * 64 = ((b0 % 32 * 2 ^ 6 : Nat) : Int) by omega, w32 _ (by omega), or_i32 _ _ 6 (by omega) (by omega)]
      refine hgood _ 2 ?_ (by omega)
      rw [hd]
      unfold secP at c2
      rw [if_neg (by omega), if_neg (by omega), if_neg (by omega), if_neg (by omega)] at c2
      unfold Lib.decodeN
      rw [if_neg (by omega), if_pos ⟨by omega, by omega, by omega⟩, if_pos (by omega)]
    · rw [if_neg c1]
      simp only [Option.bind_some]
      rw [show decide ((1 : Int) < 2) = true from rfl, cell_bad _ _ _ _ hp]
      refine hbad ?_
      rw [hd]
      unfold Lib.decodeN
      have : ¬ (1 < s.size - pos ∧ b1 / 64 = 2) := by
        intro h
        refine c1 ⟨by omega, ?_⟩
        rw [g1 (by omega)]
        unfold secP
        rw [if_neg (by omega), if_neg (by omega), if_neg (by omega), if_neg (by omega)]
        omega
      repeat' split
      all_goals first | rfl | (exfalso; omega)
  · rw [if_neg (by omega), if_pos (by omega), if_pos (by omega), if_neg (by omega), fl_1 _ _ hp hs _ _ (by omega), g0]
    by_cases c1 : pos + 1 < s.size ∧ secP (b0 : Int) (bt s ((pos + 1 : Nat) : Int))
    · rw [if_pos c1, show (2 : Int) = ((2 : Nat) : Int) from rfl, fl_i _ _ hp hs _ _ 2 (by omega) (by omega) (by omega)]
      obtain ⟨c1, c2⟩ := c1
      have g1 := g1 c1
      rw [g1] at c2
      unfold secP at c2
      have c2' : b1 / 64 = 2 ∧ (b0 = 224 → 160 ≤ b1) ∧ (b0 = 237 → b1 ≤ 159) := by
        repeat' split at c2
        all_goals omega
      by_cases c3 : pos + 2 < s.size ∧ 128 ≤ bt s ((pos + 2 : Nat) : Int) ∧ bt s ((pos + 2 : Nat) : Int) ≤ 191
      · rw [if_pos c3, fl_end _ _ _ _ _ (by omega)]
        obtain ⟨c3, c4⟩ := c3
        have g2 := g2 c3
        rw [g2] at c4
        simp only [Option.bind_some]
        rw [show decide (((2 + 1 : Nat) : Int) < 3) = false from rfl]
        simp only [siglumref01_cell.j0, Bool.false_eq_true, if_false]
        rw [if_pos (by omega), if_pos (by omega), if_neg (by omega), if_pos trivial, e1, if_pos (by omega), if_pos (by omega), e2, if_pos (by omega), if_pos (by omega), g0, g1, g2, and15' b0 l0, and63' b1 l1, and63' b2 l2, w32 _ (by omega), w32 _ (by omega), w32 _ (by omega)]
        rw [show ((b0 % 16 : Nat) : Int) * 4096 = ((b0 % 16 * 64 * 2 ^ 6 : Nat) : Int) by omega, show ((b1 % 64 : Nat) : Int) * 64 = ((b1 % 64 * 64 : Nat) : Int) by omega, w32 _ (by omega), w32 _ (by omega), show b0 % 16 * 64 * 2 ^ 6 = b0 % 16 * 2 ^ 12 by omega, or_i32 _ _ 12 (by omega) (by omega), show b0 % 16 * 2 ^ 12 + b1 % 64 * 64 = (b0 % 16 * 64 + b1 % 64) * 2 ^ 6 by omega, or_i32 _ _ 6 (by omega) (by omega)]
        refine hgood _ 3 ?_ (by omega)
        rw [hd]
        unfold Lib.decodeN
        rw [if_neg (by omega), if_neg (by omega), if_pos ⟨by omega, ⟨by omega, by omega⟩, by omega, by omega⟩, if_pos (by omega)]
        congr 1
        omega
      · rw [if_neg c3]
        simp only [Option.bind_some]
        rw [show decide (((2 : Nat) : Int) < 3) = true from rfl, cell_bad _ _ _ _ hp]
        refine hbad ?_
        rw [hd]
        unfold Lib.decodeN
        have : ¬ (2 < s.size - pos ∧ b2 / 64 = 2) := by
          intro h
          have e := g2 (by omega)
          exact c3 ⟨by omega, by rw [e]; omega, by rw [e]; omega⟩
        repeat' split
        all_goals first | rfl | (exfalso; omega)
    · rw [if_neg c1]
      simp only [Option.bind_some]
      rw [show decide ((1 : Int) < 3) = true from rfl, cell_bad _ _ _ _ hp]
      refine hbad ?_
      rw [hd]
      unfold Lib.decodeN
      have : ¬ (1 < s.size - pos ∧ b1 / 64 = 2 ∧ (b0 = 224 → 160 ≤ b1) ∧ (b0 = 237 → b1 ≤ 159)) := by
        intro h
        refine c1 ⟨by omega, ?_⟩
        rw [g1 (by omega)]
        unfold secP
        repeat' split
        all_goals omega
      repeat' split
      all_goals first | rfl | (exfalso; omega)
  · rw [if_neg (by omega), if_pos (by omega), if_pos (by omega), if_neg (by omega), fl_1 _ _ hp hs _ _ (by omega), g0]
    by_cases c1 : pos + 1 < s.size ∧ secP (b0 : Int) (bt s ((pos + 1 : Nat) : Int))
    · rw [if_pos c1, show (2 : Int) = ((2 : Nat) : Int) from rfl, fl_i _ _ hp hs _ _ 2 (by omega) (by omega) (by omega)]
      obtain ⟨c1, c2⟩ := c1
      have g1 := g1 c1
      rw [g1] at c2
      unfold secP at c2
      have c2' : b1 / 64 = 2 ∧ (b0 = 240 → 144 ≤ b1) ∧ (b0 = 244 → b1 ≤ 143) := by
        repeat' split at c2
        all_goals omega
      by_cases c3 : pos + 2 < s.size ∧ 128 ≤ bt s ((pos + 2 : Nat) : Int) ∧ bt s ((pos + 2 : Nat) : Int) ≤ 191
      · rw [if_pos c3, fl_i _ _ hp hs _ _ 3 (by omega) (by omega) (by omega)]
        obtain ⟨c3, c4⟩ := c3
        have g2 := g2 c3
        rw [g2] at c4
        by_cases c5 : pos + 3 < s.size ∧ 128 ≤ bt s ((pos + 3 : Nat) : Int) ∧ bt s ((pos + 3 : Nat) : Int) ≤ 191
        · rw [if_pos c5, fl_end _ _ _ _ _ (by omega)]
          obtain ⟨c5, c6⟩ := c5
          have g3 := g3 c5
          rw [g3] at c6
          simp only [Option.bind_some]
          rw [show decide (((3 + 1 : Nat) : Int) < 4) = false from rfl]
          simp only [siglumref01_cell.j0, Bool.false_eq_true, if_false]
          rw [if_pos (by omega), if_pos (by omega), if_neg (by omega), if_neg (by omega), if_pos trivial, e1, if_pos (by omega), if_pos (by omega), e2, if_pos (by omega), if_pos (by omega), e3, if_pos (by omega), if_pos (by omega), g0, g1, g2, g3, and7' b0 l0, and63' b1 l1, and63' b2 l2, and63' b3 l3, w32 _ (by omega), w32 _ (by omega), w32 _ (by omega), w32 _ (by omega)]
          rw [show ((b0 % 8 : Nat) : Int) * 262144 = ((b0 % 8 * 2 ^ 18 : Nat) : Int) by omega, show ((b1 % 64 : Nat) : Int) * 4096 = ((b1 % 64 * 4096 : Nat) : Int) by omega, show ((b2 % 64 : Nat) : Int) * 64 = ((b2 % 64 * 64 : Nat) : Int) by omega, w32 _ (by omega), w32 _ (by omega), w32 _ (by omega), or_i32 _ _ 18 (by omega) (by omega), show b0 % 8 * 2 ^ 18 + b1 % 64 * 4096 = (b0 % 8 * 64 + b1 % 64) * 2 ^ 12 by omega, or_i32 _ _ 12 (by omega) (by omega), show (b0 % 8 * 64 + b1 % 64) * 2 ^ 12 + b2 % 64 * 64 = (b0 % 8 * 4096 + b1 % 64 * 64 + b2 % 64) * 2 ^ 6 by omega, or_i32 _ _ 6 (by omega) (by omega)]
          refine hgood _ 4 ?_ (by omega)
          rw [hd]
          unfold Lib.decodeN
          rw [if_neg (by omega), if_neg (by omega), if_neg (by omega), if_pos ⟨by omega, ⟨by omega, by omega⟩, ⟨by omega, by omega⟩, by omega, by omega⟩, if_pos (by omega)]
          congr 1
          omega
        · rw [if_neg c5]
          simp only [Option.bind_some]
          rw [show decide (((3 : Nat) : Int) < 4) = true from rfl, cell_bad _ _ _ _ hp]
          refine hbad ?_
          rw [hd]
          unfold Lib.decodeN
          have : ¬ (3 < s.size - pos ∧ b3 / 64 = 2) := by
            intro h
            have e := g3 (by omega)
            exact c5 ⟨by omega, by rw [e]; omega, by rw [e]; omega⟩
          repeat' split
          all_goals first | rfl | (exfalso; omega)
      · rw [if_neg c3]
        simp only [Option.bind_some]
        rw [show decide (((2 : Nat) : Int) < 4) = true from rfl, cell_bad _ _ _ _ hp]
        refine hbad ?_
        rw [hd]
        unfold Lib.decodeN
        have : ¬ (2 < s.size - pos ∧ b2 / 64 = 2) := by
          intro h
          have e := g2 (by omega)
          exact c3 ⟨by omega, by rw [e]; omega, by rw [e]; omega⟩
        repeat' split
        all_goals first | rfl | (exfalso; omega)
    · rw [if_neg c1]
      simp only [Option.bind_some]
      rw [show decide ((1 : Int) < 4) = true from rfl, cell_bad _ _ _ _ hp]
      refine hbad ?_
      rw [hd]
      unfold Lib.decodeN
      have : ¬ (1 < s.size - pos ∧ b1 / 64 = 2 ∧ (b0 = 240 → 144 ≤ b1) ∧ (b0 = 244 → b1 ≤ 143)) := by
        intro h
        refine c1 ⟨by omega, ?_⟩
        rw [g1 (by omega)]
        unfold secP
        repeat' split
        all_goals omega
      repeat' split
      all_goals first | rfl | (exfalso; omega)

theorem width_le (s : ByteArray) (pos : Nat) (h : pos < s.size) : pos + (Utf8.decode s pos).2 ≤ s.size := by
  rw [Lib.decode_at]
  unfold Lib.decodeN
  repeat' split
  all_goals (simp only; omega)
theorem refCells_l0 (s : ByteArray) (hs : s.size ≤ 1099511627776) : ∀ (fuel pos : Nat) (acc : List S67), s.size ≤ pos + fuel → pos ≤ s.size → acc.length ≤ pos → ∀ k, fuel + 13 ≤ k → siglumref01_Cells.l0 k s acc (pos : Int) = some (acc ++ cellsFrom s fuel pos) := by
  intro fuel
  induction fuel with
  | zero =>
    intro pos acc h1 h2 h3 k hk
    obtain ⟨k, rfl⟩ : ∃ k', k = k' + 1 := ⟨k - 1, by omega⟩
    simp only [siglumref01_Cells.l0]
    rw [if_neg (by omega)]
    simp [cellsFrom]
  | succ f ih =>
    intro pos acc h1 h2 h3 k hk
    obtain ⟨k, rfl⟩ : ∃ k', k = k' + 12 + 1 := ⟨k - 13, by omega⟩
    simp only [siglumref01_Cells.l0]
    by_cases hp : pos < s.size
    · rw [if_pos (by omega), ref_cell _ s pos hp hs]
      simp only [Option.bind_some]
      rw [if_pos (by omega)]
      have hw := Utf.width_pos s pos hp
      have hd1 := width_le s pos hp
      have e : (cellAt s pos).f1 = ((Utf8.decode s pos).2 : Int) := by
        by_cases hb : Utf8.decode s pos = (65533, 1)
        · rw [cellAt_bad hb, hb]; rfl
        · rw [cellAt_good hb]
      rw [cellsFrom_at _ _ _ hp, e, show wrap64 ((pos : Int) + ((Utf8.decode s pos).2 : Int)) = ((pos + (Utf8.decode s pos).2 : Nat) : Int) by unfold wrap64; omega]
      have e2 := ih (pos + (Utf8.decode s pos).2) (acc ++ [cellAt s pos]) (by omega) (by omega) (by simp; omega) (k + 12) (by omega)
      rw [← e]
      rw [List.append_assoc] at e2
      exact e2
    · rw [if_neg (by omega), cellsFrom_end _ _ _ hp, List.append_nil]
/-- The document's cells are the program's. -/
theorem refCells (s : ByteArray) (hs : s.size ≤ 1099511627776) (k : Nat) (hk : s.size + 13 ≤ k) : siglumref01_Cells.f k s = some (cells s) := by
  unfold siglumref01_Cells.f cells
  exact refCells_l0 s hs s.size 0 [] (by omega) (by omega) (by simp) k hk
theorem refCells_ends (s : ByteArray) (hb : s.size ≤ 1048576) : ∃ k, ∀ k', k ≤ k' → siglumref01_Cells.f k' s = some (cells s) := ⟨s.size + 13, fun k' h => refCells s (by omega) k' h⟩
end Go.Proofs.YtblpiceallbfjaaDoor.Pr
