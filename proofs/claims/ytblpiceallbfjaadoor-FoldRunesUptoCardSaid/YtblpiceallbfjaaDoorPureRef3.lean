/- The document's folding of a rune (steps over a list of runes) and of a text is the program's. -/
import Derived.Test.YtblpiceallbfjaaDoorPr10
import Derived.Test.YtblpiceallbfjaaDoorPureRef1
import Derived.Test.YtblpiceallbfjaaDoorPureFold
set_option linter.unusedVariables false
set_option linter.unusedSimpArgs false
namespace Go.Proofs.YtblpiceallbfjaaDoor.Pr
open Go.RowKit Go.Proofs.YtblpiceallbfjaaDoorW.PrintWords Go.Proofs.YtblpiceallbfjaaDoorW.PrintLast Go.Proofs.YtblpiceallbfjaaDoorW.PrintMore

/-! ### a rune's bytes -/
def encZ (x : Int) : List Int := (encI x).map fun b => (b.toNat : Int)
theorem two31' : (2 : Int) ^ 31 = 2147483648 := by decide
theorem and63i (r : Int) (h0 : 0 ≤ r) (h1 : r ≤ 2147483646) : Go.bits .and .i32 r 63 = r % 64 := by
  have h := bits_mask .i32 31 (by decide) (fun n h0 h1 => by rw [two31'] at h1; exact wrap_i32_of n h0 h1) 6 (by decide) r h0 (by rw [two31']; omega)
  have e : ((2 : Int) ^ 6 - 1) = 63 := by decide
  rw [e] at h
  rw [h]
  omega
theorem or192 : ∀ y : Fin 32, Go.bits .or .u8 192 (y.val : Int) = ((192 + y.val : Nat) : Int) := by decide +kernel
theorem or224 : ∀ y : Fin 16, Go.bits .or .u8 224 (y.val : Int) = ((224 + y.val : Nat) : Int) := by decide +kernel
theorem or240 : ∀ y : Fin 8, Go.bits .or .u8 240 (y.val : Int) = ((240 + y.val : Nat) : Int) := by decide +kernel
theorem or128 : ∀ y : Fin 64, Go.bits .or .u8 128 (y.val : Int) = ((128 + y.val : Nat) : Int) := by decide +kernel
theorem or192' (y : Int) (h0 : 0 ≤ y) (h1 : y < 32) : Go.bits .or .u8 192 y = 192 + y := by
  have := or192 ⟨y.toNat, by omega⟩; simp only at this; rw [show ((y.toNat : Nat) : Int) = y by omega] at this; rw [this]; omega
theorem or224' (y : Int) (h0 : 0 ≤ y) (h1 : y < 16) : Go.bits .or .u8 224 y = 224 + y := by
  have := or224 ⟨y.toNat, by omega⟩; simp only at this; rw [show ((y.toNat : Nat) : Int) = y by omega] at this; rw [this]; omega
theorem or240' (y : Int) (h0 : 0 ≤ y) (h1 : y < 8) : Go.bits .or .u8 240 y = 240 + y := by
  have := or240 ⟨y.toNat, by omega⟩; simp only at this; rw [show ((y.toNat : Nat) : Int) = y by omega] at this; rw [this]; omega
theorem or128' (y : Int) (h0 : 0 ≤ y) (h1 : y < 64) : Go.bits .or .u8 128 y = 128 + y := by
  have := or128 ⟨y.toNat, by omega⟩; simp only at this; rw [show ((y.toNat : Nat) : Int) = y by omega] at this; rw [this]; omega
theorem encI_bad (x : Int) (h : ¬ Scal x) : encI x = [239, 191, 189] := by
  have hv : Utf8.valid x = false := by
    unfold Scal at h
    unfold Utf8.valid
    simp only [Bool.or_eq_false_iff, Bool.and_eq_false_iff, decide_eq_false_iff_not]
    omega
  unfold encI Utf8.encode
  rw [hv]
  simp only [Bool.false_eq_true, if_false, Utf8.runeError]
  decide
theorem written_j1 (k : Nat) (x : Int) (h : Scal x) : siglumref01_written.j1 (k + 1) x = some (encZ x) := by
  obtain ⟨h0, h1, h2⟩ := id h
  simp only [siglumref01_written.j1]
  unfold encZ
  rcases encI_cases x h with ⟨c, e⟩ | ⟨c, c', e⟩ | ⟨c, c', e⟩ | ⟨c, e⟩
  · rw [if_pos (by omega), e]
    simp only [List.map_cons, List.map_nil]
    rw [toN _ (by omega)]
    congr 2
    omega
  · rw [if_neg (by omega), if_pos (by omega), e]
    simp only [List.map_cons, List.map_nil]
    rw [toN _ (by omega), toN _ (by omega), and63i _ (by omega) (by omega), or192' _ (by omega) (by omega), or128' _ (by omega) (by omega)]
    congr 2
    · omega
    · congr 1; omega
  · rw [if_neg (by omega), if_neg (by omega), if_pos (by omega), e]
    simp only [List.map_cons, List.map_nil]
    rw [toN _ (by omega), toN _ (by omega), toN _ (by omega), and63i _ (by omega) (by omega), and63i _ (by omega) (by omega), or224' _ (by omega) (by omega), or128' _ (by omega) (by omega), or128' _ (by omega) (by omega)]
    congr 2
    · omega
    · congr 1
      · omega
      · congr 1; omega
  · rw [if_neg (by omega), if_neg (by omega), if_neg (by omega), e]
    simp only [List.map_cons, List.map_nil]
    rw [toN _ (by omega), toN _ (by omega), toN _ (by omega), toN _ (by omega), and63i _ (by omega) (by omega), and63i _ (by omega) (by omega), and63i _ (by omega) (by omega), or240' _ (by omega) (by omega), or128' _ (by omega) (by omega), or128' _ (by omega) (by omega), or128' _ (by omega) (by omega)]
    congr 2
    · omega
    · congr 1
      · omega
      · congr 1
        · omega
        · congr 1; omega
theorem written_f (k : Nat) (x : Int) : siglumref01_written.f (k + 2) x = some (encZ x) := by
  have bad : ¬ Scal x → siglumref01_written.j1 (k + 1) 65533 = some (encZ x) := by
    intro h
    rw [written_j1 k 65533 (by decide)]
    unfold encZ
    rw [encI_bad x h, show encI 65533 = [239, 191, 189] by decide +kernel]
  unfold siglumref01_written.f
  by_cases h0 : x < 0
  · rw [if_pos h0]
    simp only [siglumref01_written.j0, if_true]
    exact bad (by unfold Scal; omega)
  rw [if_neg h0]
  by_cases h1 : x > 1114111
  · rw [if_pos h1]
    simp only [siglumref01_written.j0, if_true]
    exact bad (by unfold Scal; omega)
  rw [if_neg h1]
  by_cases h2 : x ≥ 55296
  · rw [if_pos h2]
    by_cases h3 : x ≤ 57343
    · simp only [siglumref01_written.j0, h3, decide_true, if_true]
      exact bad (by unfold Scal; omega)
    · simp only [siglumref01_written.j0, h3, decide_false, Bool.false_eq_true, if_false]
      exact written_j1 k x (by unfold Scal; omega)
  · rw [if_neg h2]
    simp only [siglumref01_written.j0, Bool.false_eq_true, if_false]
    exact written_j1 k x (by unfold Scal; omega)
theorem written_f' (k : Nat) (hk : 2 ≤ k) (x : Int) : siglumref01_written.f k x = some (encZ x) := by
  obtain ⟨k, rfl⟩ : ∃ k', k = k' + 2 := ⟨k - 2, by omega⟩
  exact written_f k x
theorem encZ_len (x : Int) : (encZ x).length ≤ 4 := by
  unfold encZ
  rw [List.length_map]
  by_cases h : Scal x
  · rcases encI_cases x h with ⟨_, e⟩ | ⟨_, _, e⟩ | ⟨_, _, e⟩ | ⟨_, e⟩ <;> rw [e] <;> simp
  · rw [encI_bad x h]; simp
theorem rdi (l : List Int) (i : Nat) (h : i < l.length) : rd l (i : Int) = l[i] := by simp [rd, List.getD_eq_getElem?_getD, h]

/-- A list of numbers as a text. -/
theorem back_l0 (l : List Int) (hl : l.length ≤ 1000) : ∀ (d i k : Nat) (acc : List Int), i + d = l.length → d + 2 < k → acc.length ≤ 4 * i → siglumref01_Back.l0 k l acc (i : Int) = some (strOfNums (acc ++ (l.drop i).flatMap encZ)) := by
  intro d
  induction d with
  | zero =>
    intro i k acc h hk ha
    obtain ⟨k, rfl⟩ : ∃ k', k = k' + 1 := ⟨k - 1, by omega⟩
    simp only [siglumref01_Back.l0]
    rw [if_neg (by omega), List.drop_of_length_le (by omega)]
    simp
  | succ d ih =>
    intro i k acc h hk ha
    obtain ⟨k, rfl⟩ : ∃ k', k = k' + 1 := ⟨k - 1, by omega⟩
    simp only [siglumref01_Back.l0]
    have hlen := encZ_len (l[i]'(by omega))
    rw [if_pos (by omega), if_pos (by omega), rdi l i (by omega), written_f' k (by omega)]
    simp only [Option.bind_some]
    rw [if_pos (by omega), show wrap64 ((i : Int) + 1) = ((i + 1 : Nat) : Int) by unfold wrap64; omega, ih (i + 1) k _ (by omega) (by omega) (by rw [List.length_append]; omega), List.drop_eq_getElem_cons (by omega : i < l.length), List.flatMap_cons, List.append_assoc]
theorem back_f (l : List Int) (hl : l.length ≤ 1000) (k : Nat) (hk : l.length + 2 < k) : siglumref01_Back.f k l = some (strOfNums (l.flatMap encZ)) := by
  unfold siglumref01_Back.f
  have := back_l0 l hl l.length 0 k [] (by omega) hk (by simp)
  simpa using this
theorem str_enc (bs : List UInt8) : strOfNums (bs.map fun b => (b.toNat : Int)) = ⟨bs.toArray⟩ := by
  unfold strOfNums
  congr 2
  rw [List.map_map]
  conv => rhs; rw [← List.map_id bs]
  congr 1
  funext b
  simp
theorem flat_encZ (l : List Int) : l.flatMap encZ = (l.flatMap encI).map fun b => (b.toNat : Int) := by
  rw [List.map_flatMap]
  rfl

/-! ### steps -/
theorem lig_f (r : Int) : siglumref03_lig.f r = some ⟨(ligB r).toArray⟩ := by
  by_cases h0 : r = 198
  · subst h0; rfl
  by_cases h1 : r = 230
  · subst h1; rfl
  by_cases h2 : r = 338
  · subst h2; rfl
  by_cases h3 : r = 339
  · subst h3; rfl
  by_cases h4 : r = 223
  · subst h4; rfl
  by_cases h5 : r = 383
  · subst h5; rfl
  by_cases h6 : r = 306
  · subst h6; rfl
  by_cases h7 : r = 307
  · subst h7; rfl
  by_cases h8 : r = 64256
  · subst h8; rfl
  by_cases h9 : r = 64257
  · subst h9; rfl
  by_cases h10 : r = 64258
  · subst h10; rfl
  by_cases h11 : r = 64259
  · subst h11; rfl
  by_cases h12 : r = 64260
  · subst h12; rfl
  by_cases h13 : r = 64261
  · subst h13; rfl
  by_cases h14 : r = 64262
  · subst h14; rfl
  simp only [siglumref03_lig.f, ligB, if_neg h0, if_neg h1, if_neg h2, if_neg h3, if_neg h4, if_neg h5, if_neg h6, if_neg h7, if_neg h8, if_neg h9, if_neg h10, if_neg h11, if_neg h12, if_neg h13, if_neg h14]
theorem plain_f (r : Int) : siglumref03_plain.f r = some (letterI r) := by
  unfold siglumref03_plain.f letterI
  by_cases h1 : r = 118
  · subst h1; rfl
  by_cases h2 : r = 106
  · subst h2; rfl
  by_cases h3 : r = 86
  · subst h3; rfl
  by_cases h4 : r = 74
  · subst h4; rfl
  rw [if_neg h1, if_neg h2, if_neg h3, if_neg h4, if_neg (by omega)]
theorem latin_cells : (cells latinS).length = 64 ∧ ∀ j : Fin 64, (rd_T67 (cells latinS) (j.val : Int)).f2 = latinT.getD j.val 0 := by decide +kernel
theorem latinT_len : latinT.length = 64 := by decide
theorem bare_f (r : Int) (k : Nat) (hk : 100 ≤ k) : siglumref03_bare.f k r = some (unmarkedI r) := by
  unfold siglumref03_bare.f unmarkedI
  by_cases h0 : r < 192
  · rw [if_pos h0, if_pos (.inl h0)]
  by_cases h1 : r > 255
  · rw [if_neg h0, if_pos h1, if_pos (.inr h1)]
  have hsz : latinS.size ≤ 80 := by decide
  have hc : siglumref01_Cells.f k (⟨#[65, 65, 65, 65, 65, 65, 195, 134, 67, 69, 69, 69, 69, 73, 73, 73, 73, 195, 144, 78, 79, 79, 79, 79, 79, 195, 151, 79, 85, 85, 85, 85, 89, 195, 158, 195, 159, 97, 97, 97, 97, 97, 97, 195, 166, 99, 101, 101, 101, 101, 105, 105, 105, 105, 195, 176, 110, 111, 111, 111, 111, 111, 195, 183, 111, 117, 117, 117, 117, 121, 195, 190, 121]⟩ : ByteArray) = some (cells latinS) := refCells latinS (by omega) k (by omega)
  rw [if_neg h0, if_neg h1, if_neg (by omega), hc]
  simp only [Option.bind_some]
  rw [latin_cells.1, show wrap32 (r - 192) = r - 192 by unfold wrap32; omega, if_pos (by omega), if_pos (by omega)]
  have := latin_cells.2 ⟨(r - 192).toNat, by omega⟩
  simp only at this
  rw [show (((r - 192).toNat : Nat) : Int) = r - 192 by omega] at this
  rw [this]
  have hl := latinT_len
  have hj : (r - 192).toNat < latinT.length := by omega
  simp [List.getD_eq_getElem?_getD, hj]

/-! ### lists of at most one rune, then of at most three -/
theorem drop_nil (k : Nat) (kd : Int) : siglumref03_drop.f (k + 1) [] kd = some [] := by
  simp [siglumref03_drop.f, siglumref03_drop.l0]
theorem drop_one (k : Nat) (r kd : Int) : siglumref03_drop.f (k + 2) [r] kd = some (if kindX r = kd then [] else [r]) := by
  have e : rd [r] 0 = r := rfl
  have e2 : wrap64 (0 + 1) = 1 := by unfold wrap64; omega
  simp only [siglumref03_drop.f, siglumref03_drop.l0, siglumref02_Of.f, Option.bind_some, e, e2, List.length_cons, List.length_nil]
  by_cases h : kindX r = kd
  · simp [h]
  · simp [h]
theorem ligs_nil (k : Nat) : siglumref03_ligs.f (k + 1) [] = some [] := by
  simp [siglumref03_ligs.f, siglumref03_ligs.l0]
theorem ligs_l1 (l : List Int) (s : ByteArray) (hs : s.size ≤ 3) (r : Int) : ∀ (d i k : Nat) (acc : List Int), i + d = s.size → acc.length ≤ i + 1 → siglumref03_ligs.l1 (k + d + 2) [r] acc 0 s (i : Int) = some (acc ++ (bytesOf s).drop i) := by
  intro d
  induction d with
  | zero =>
    intro i k acc h ha
    have e2 : wrap64 (0 + 1) = 1 := by unfold wrap64; omega
    simp only [siglumref03_ligs.l1, siglumref03_ligs.l0, e2]
    rw [if_neg (by omega), List.drop_of_length_le (by rw [bytesOf_length]; omega)]
    simp
  | succ d ih =>
    intro i k acc h ha
    have e := fun acc h => ih (i + 1) k acc (by omega) h
    rw [show k + (d + 1) + 2 = (k + d + 2) + 1 by omega]
    generalize k + d + 2 = K at *
    simp only [siglumref03_ligs.l1]
    have hb := bt_range s i
    rw [if_pos (by omega), if_pos (by omega), if_pos (by omega), show wrap64 ((i : Int) + 1) = ((i + 1 : Nat) : Int) by unfold wrap64; omega, e _ (by simp; omega), show wrap32 (bt s i) = bt s i by unfold wrap32; omega, List.append_assoc]
    have hlt : i < (bytesOf s).length := by rw [bytesOf_length]; omega
    rw [List.drop_eq_getElem_cons hlt, ← rd_bytesOf, rdi _ _ hlt]
    rfl
theorem ligs_one (k : Nat) (r : Int) : siglumref03_ligs.f (k + 10) [r] = some (if ligB r ≠ [] then (ligB r).map (fun b => (b.toNat : Int)) else [r]) := by
  have e : rd [r] 0 = r := rfl
  have hl := lig_len r
  have hsz : (⟨(ligB r).toArray⟩ : ByteArray).size = (ligB r).length := by simp [ByteArray.size]
  simp only [siglumref03_ligs.f, siglumref03_ligs.l0, e, lig_f, Option.bind_some, List.length_cons, List.length_nil]
  rw [if_pos (by omega), if_pos (by omega)]
  by_cases h : ligB r = []
  · rw [if_pos (by simpa using h), if_pos (by simp)]
    simp only [siglumref03_ligs.j1]
    have := ligs_l1 [r] ⟨(ligB r).toArray⟩ (by omega) r 0 0 (k + 6) [r] (by rw [hsz, h]; rfl) (by simp)
    simp only [Int.natCast_zero] at this
    rw [show k + 6 + 0 + 2 = k + 8 by omega] at this
    refine this.trans ?_
    congr 1
    simp [bytesOf, h]
  · rw [if_neg (by simpa using h)]
    simp only [siglumref03_ligs.j1]
    have := ligs_l1 [r] ⟨(ligB r).toArray⟩ (by omega) r (ligB r).length 0 (k + 6 - (ligB r).length) [] (by rw [hsz]; omega) (by simp)
    simp only [Int.natCast_zero] at this
    rw [show k + 6 - (ligB r).length + (ligB r).length + 2 = k + 8 by omega] at this
    refine this.trans ?_
    rw [if_pos h]
    rfl

theorem tm2 (opt c : Int) (h0 : 0 ≤ opt) (h1 : opt ≤ 31) (hc : 0 < c) : Int.tmod (wrap64 (Int.tdiv opt c)) 2 = opt / c % 2 := by
  have h2 : 0 ≤ opt / c := Int.ediv_nonneg h0 (by omega)
  have h3 : opt / c ≤ opt := Int.ediv_le_self c h0
  rw [Int.tdiv_eq_ediv_of_nonneg h0, show wrap64 (opt / c) = opt / c by unfold wrap64; omega, Int.tmod_eq_emod_of_nonneg h2]
theorem tm1 (opt : Int) (h0 : 0 ≤ opt) : Int.tmod opt 2 = opt % 2 := Int.tmod_eq_emod_of_nonneg h0
theorem rd_app (a t : List Int) (x : Int) (i : Int) (h : i = (a.length : Int)) : rd (a ++ x :: t) i = x := by
  subst h
  rw [rdi _ _ (by simp)]
  simp
theorem set_app (a t : List Int) (x y : Int) (i : Int) (h : i = (a.length : Int)) : (a ++ x :: t).set i.toNat y = a ++ y :: t := by
  subst h
  simp
section
variable (opt : Int) (h0 : 0 ≤ opt) (h1 : opt ≤ 31)
include h0 h1
theorem rune_j5 (k : Nat) (hk : 100 ≤ k) (a t : List Int) (x : Int) (i : Nat) (hi : i = a.length) (hl : i ≤ 1000) :
    siglumref03_Rune.j5 (k + 1) opt (a ++ x :: t) (i : Int) = siglumref03_Rune.l0 k opt (a ++ (fun y => if decide (opt / 8 % 2 = 1) = true then letterI y else y) (if decide (opt / 2 % 2 = 1) = true then unmarkedI x else x) :: t) ((i + 1 : Nat) : Int) := by
  have hw : wrap64 ((i : Int) + 1) = ((i + 1 : Nat) : Int) := by unfold wrap64; omega
  have hia : (i : Int) = (a.length : Int) := by omega
  have hlen : (i : Int) < ((a ++ x :: t).length : Int) := by simp; omega
  simp only [siglumref03_Rune.j5, tm2 opt _ h0 h1 (by decide : (0 : Int) < 2), tm2 opt _ h0 h1 (by decide : (0 : Int) < 8), hw, rd_app a t _ _ hia, set_app a t _ _ _ hia, bare_f _ k hk, plain_f, Option.bind_some]
  by_cases u : opt / 2 % 2 = 1
  · rw [if_pos u, if_pos (by omega), if_pos hlen]
    by_cases l : opt / 8 % 2 = 1
    · rw [if_pos l]; simp [u, l]
    · rw [if_neg l]; simp [u, l]
  · rw [if_neg u]
    by_cases l : opt / 8 % 2 = 1
    · rw [if_pos l, if_pos (by omega), if_pos hlen]; simp [u, l]
    · rw [if_neg l]; simp [u, l]
theorem rune_step (k : Nat) (hk : 100 ≤ k) (a t : List Int) (x : Int) (i : Nat) (hi : i = a.length) (hl : i ≤ 1000) :
    siglumref03_Rune.l0 (k + 2) opt (a ++ x :: t) (i : Int) = siglumref03_Rune.l0 k opt (a ++ st (decide (opt % 2 = 1)) (decide (opt / 2 % 2 = 1)) (decide (opt / 8 % 2 = 1)) x :: t) ((i + 1 : Nat) : Int) := by
  have hia : (i : Int) = (a.length : Int) := by omega
  have hlen : (i : Int) < ((a ++ x :: t).length : Int) := by simp; omega
  simp only [siglumref03_Rune.l0, tm1 opt h0, rd_app a t _ _ hia, set_app a t _ _ _ hia, siglumref03_small.f, Option.bind_some]
  rw [if_pos hlen]
  by_cases l : opt % 2 = 1
  · rw [if_pos l, if_pos (by omega), rune_j5 opt h0 h1 k hk a t _ i hi hl]
    simp [st, l]
  · rw [if_neg l, rune_j5 opt h0 h1 k hk a t _ i hi hl]
    simp [st, l]
theorem rune_l0 : ∀ (t a : List Int) (k : Nat), 2 * t.length + 1100 ≤ k → a.length + t.length ≤ 900 →
    siglumref03_Rune.l0 k opt (a ++ t) (a.length : Int) = some (⟨((a ++ t.map (st (decide (opt % 2 = 1)) (decide (opt / 2 % 2 = 1)) (decide (opt / 8 % 2 = 1)))).flatMap encI).toArray⟩, 0) := by
  intro t
  induction t with
  | nil =>
    intro a k hk hl
    obtain ⟨k, rfl⟩ : ∃ k', k = k' + 1 := ⟨k - 1, by omega⟩
    simp only [List.length_nil] at hk hl
    simp only [siglumref03_Rune.l0, List.append_nil, List.map_nil]
    rw [if_neg (by omega), back_f a (by omega) k (by omega), flat_encZ, str_enc]
    rfl
  | cons x t ih =>
    intro a k hk hl
    simp only [List.length_cons] at hk hl
    obtain ⟨k, rfl⟩ : ∃ k', k = k' + 2 := ⟨k - 2, by omega⟩
    rw [rune_step opt h0 h1 k (by omega) a t x a.length rfl (by omega)]
    have := ih (a ++ [st (decide (opt % 2 = 1)) (decide (opt / 2 % 2 = 1)) (decide (opt / 8 % 2 = 1)) x]) k (by omega) (by simp; omega)
    simp only [List.append_assoc, List.cons_append, List.nil_append, List.length_append, List.length_cons, List.length_nil] at this
    rw [List.map_cons]
    exact this
theorem rune_ref (r : Int) (k : Nat) (hk : 1200 ≤ k) : siglumref03_Rune.f k r opt = some (⟨(foldR (kindI r) r opt).toArray⟩, 0) := by
  obtain ⟨k, rfl⟩ : ∃ k', k = k' + 1110 + 4 := ⟨k - 1114, by omega⟩
  unfold siglumref03_Rune.f
  rw [if_neg (by omega), show decide (opt > 31) = false by simp; omega]
  have t2 := tm2 opt 2 h0 h1 (by decide)
  have t4 := tm2 opt 4 h0 h1 (by decide)
  have t16 := tm2 opt 16 h0 h1 (by decide)
  have sJ : ∀ K : List Int → Option (ByteArray × Int), (if (Int.tmod (wrap64 (Int.tdiv opt 16)) 2) = 1 then ((siglumref03_drop.f (k + 1110 + 3) [r] 4).bind fun t => K t) else K [r]) = K (if (decide (opt / 16 % 2 = 1) && kindI r == 4) = true then [] else [r]) := by
    intro K
    rw [t16]
    by_cases b : opt / 16 % 2 = 1
    · rw [if_pos b, drop_one]
      by_cases c : kindX r = 4
      · simp [b, c]
      · simp [b, c]
    · rw [if_neg b]
      simp [b]
  have sU : ∀ (K : List Int → Option (ByteArray × Int)) (d : Bool), (if (Int.tmod (wrap64 (Int.tdiv opt 2)) 2) = 1 then ((siglumref03_drop.f (k + 1110 + 2) (if d = true then [] else [r]) 2).bind fun t => K t) else K (if d = true then [] else [r])) = K (if (d || (decide (opt / 2 % 2 = 1) && kindI r == 2)) = true then [] else [r]) := by
    intro K d
    rw [t2]
    by_cases b : opt / 2 % 2 = 1
    · rw [if_pos b]
      cases d with
      | true => rw [if_pos rfl, drop_nil]; simp
      | false =>
        rw [if_neg (by decide), drop_one]
        by_cases c : kindX r = 2
        · simp [b, c]
        · simp [b, c]
    · rw [if_neg b]
      cases d <;> simp [b]
  have sG : ∀ (K : List Int → Option (ByteArray × Int)) (d : Bool), (if (Int.tmod (wrap64 (Int.tdiv opt 4)) 2) = 1 then ((siglumref03_ligs.f (k + 1110 + 1) (if d = true then [] else [r])).bind fun t => K t) else K (if d = true then [] else [r])) = K (if d = true then [] else if decide (opt / 4 % 2 = 1) = true ∧ ligB r ≠ [] then (ligB r).map (fun b => (b.toNat : Int)) else [r]) := by
    intro K d
    rw [t4]
    by_cases b : opt / 4 % 2 = 1
    · rw [if_pos b]
      cases d with
      | true => rw [if_pos rfl, ligs_nil]; simp
      | false =>
        rw [if_neg (by decide), show k + 1110 + 1 = (k + 1101) + 10 by omega, ligs_one]
        by_cases c : ligB r = []
        · simp [b, c]
        · simp [b, c]
    · rw [if_neg b]
      cases d <;> simp [b]
  simp only [siglumref03_Rune.j0, Bool.false_eq_true, if_false, Option.bind_some]
  rw [sJ (fun l => siglumref03_Rune.j1 (k + 1110 + 3) opt l)]
  simp only [siglumref03_Rune.j1]
  rw [sU (fun l => siglumref03_Rune.j2 (k + 1110 + 2) opt l)]
  simp only [siglumref03_Rune.j2]
  rw [sG (fun l => siglumref03_Rune.j3 (k + 1110 + 1) opt l)]
  simp only [siglumref03_Rune.j3]
  rw [foldR_out]
  have hlg := lig_len r
  have fin : ∀ l : List Int, l.length ≤ 3 → siglumref03_Rune.l0 (k + 1110) opt l 0 = some (⟨((l.map (st (decide (opt % 2 = 1)) (decide (opt / 2 % 2 = 1)) (decide (opt / 8 % 2 = 1)))).flatMap encI).toArray⟩, 0) := by
    intro l hl
    have := rune_l0 opt h0 h1 l [] (k + 1110) (by omega) (by simp; omega)
    simpa using this
  rw [fin _ (by repeat' split
                all_goals simp
                omega)]
  congr 4
  unfold outO out
  generalize ((decide (opt / 16 % 2 = 1) && kindI r == 4) || (decide (opt / 2 % 2 = 1) && kindI r == 2)) = D
  cases D with
  | true => rfl
  | false =>
    simp only [Bool.false_eq_true, if_false]
    by_cases c : decide (opt / 4 % 2 = 1) = true ∧ ligB r ≠ []
    · rw [if_pos c, if_pos c, List.map_map]; rfl
    · rw [if_neg c, if_neg c]; rfl
end
theorem rune_refbad (opt : Int) (h : opt < 0 ∨ 31 < opt) (r : Int) (k : Nat) (hk : 1 ≤ k) : siglumref03_Rune.f k r opt = some (⟨#[]⟩, 2) := by
  obtain ⟨k, rfl⟩ : ∃ k', k = k' + 1 := ⟨k - 1, by omega⟩
  unfold siglumref03_Rune.f
  by_cases h0 : opt < 0
  · rw [if_pos h0]; rfl
  · rw [if_neg h0, show decide (opt > 31) = true by simp; omega]; rfl
end Go.Proofs.YtblpiceallbfjaaDoor.Pr
