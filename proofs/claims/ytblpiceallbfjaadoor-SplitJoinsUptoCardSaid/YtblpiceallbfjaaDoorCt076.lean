/- Texts of this claim, one behind the other, of each what the row uses: ExtScan, Pr16, Pr17, ExtJoin. -/
import Derived.Test.YtblpiceallbfjaaDoorCt072
import Derived.Test.YtblpiceallbfjaaDoorCt075
import Derived.Lib.OthersKept
import Derived.Lib.Hide
/- scan.tokens: a text's tokens: what it answers (a plain walk over the cells' kinds), and that the code, with its four labels, comes to it. -/
set_option linter.unusedVariables false
set_option linter.unusedSimpArgs false
namespace Go.Proofs.YtblpiceallbfjaaDoor.Pr
open Go.RowKit Go.Proofs.YtblpiceallbfjaaDoorW.PrintWords Go.Proofs.YtblpiceallbfjaaDoorW.PrintLast Go.Proofs.YtblpiceallbfjaaDoorW.PrintMore
/-- A cell's kind. -/
def kOf (c : S67) : Int := if c.f3 = true then 1 else kindX c.f2
/-- The kinds of a text's cells, and -1 behind them. -/
def kindsL (cs : List S67) : List Int := cs.map kOf ++ [-1]
def wordyI (k : Int) : Bool := k == 1 || k == 2 || k == 3
theorem wordy_f (k : Int) : scan_wordy.f k = some (wordyI k) := by
  unfold scan_wordy.f wordyI
  by_cases h1 : k = 1
  · subst h1; rfl
  by_cases h2 : k = 2
  · subst h2; rfl
  rw [if_neg h1, if_neg h2]
  simp [h1, h2]
theorem kcell_f (c : S67) : kind_Cell.f c.f0 c.f1 c.f2 c.f3 c.f4 = some (kOf c) := by
  unfold kind_Cell.f kOf kind_Of.f
  cases c.f3 <;> rfl
/-- Where the word ends that goes on at i. -/
def wordEnd (K : List Int) : Nat → Nat → Nat
  | 0, i => i
  | f + 1, i => if wordyI (K.getD i 0) = true then wordEnd K f (i + 1) else if K.getD i 0 = 4 ∧ wordyI (K.getD (i + 1) 0) = true then wordEnd K f (i + 1) else i
def blankEnd (K : List Int) : Nat → Nat → Nat
  | 0, i => i
  | f + 1, i => if K.getD i 0 = 5 then blankEnd K f (i + 1) else i
/-- The token at i: its kind, and where it ends. -/
def tokAt (cs : List S67) (i : Nat) : Int × Nat :=
  if wordyI ((kindsL cs).getD i 0) = true then (1, wordEnd (kindsL cs) cs.length i)
  else if (kindsL cs).getD i 0 = 5 then (2, blankEnd (kindsL cs) cs.length i)
  else if (kindsL cs).getD i 0 = 6 then (3, if (rd_T67 cs (i : Int)).f2 = 13 ∧ i + 1 < cs.length ∧ (rd_T67 cs ((i + 1 : Nat) : Int)).f2 = 10 then i + 2 else i + 1)
  else if (kindsL cs).getD i 0 = 7 ∨ (kindsL cs).getD i 0 = 4 then (4, i + 1)
  else (5, i + 1)
/-- Where the cell's first byte stands; behind the last one: the text's length. -/
def placeOf (s : ByteArray) (cs : List S67) (i : Nat) : Int := if i < cs.length then (rd_T67 cs (i : Int)).f0 else (s.size : Int)
def mkTok (s : ByteArray) (base : Int) (cs : List S67) (i : Nat) (k : Int) (j : Nat) : S125 :=
  ⟨k, base + placeOf s cs i, s.extract (placeOf s cs i).toNat (placeOf s cs j).toNat⟩
def toksL (s : ByteArray) (base : Int) (cs : List S67) : Nat → Nat → List S125
  | 0, _ => []
  | f + 1, i => if i < cs.length then mkTok s base cs i (tokAt cs i).1 (tokAt cs i).2 :: toksL s base cs f (tokAt cs i).2 else []
theorem kinds_end (cs : List S67) : (kindsL cs).getD cs.length 0 = -1 := by unfold kindsL; simp [List.getD_eq_getElem?_getD]
theorem wordEnd_bounds (cs : List S67) : ∀ f i, i ≤ cs.length → i ≤ wordEnd (kindsL cs) f i ∧ wordEnd (kindsL cs) f i ≤ cs.length := by
  intro f
  induction f with
  | zero => intro i h; exact ⟨Nat.le_refl _, h⟩
  | succ f ih =>
    intro i h
    simp only [wordEnd]
    by_cases hn : i = cs.length
    · subst hn
      rw [kinds_end]
      simp [wordyI]
    · have := ih (i + 1) (by omega)
      repeat' split
      all_goals omega
theorem wordEnd_fuel (cs : List S67) : ∀ f f' i, i ≤ cs.length → cs.length ≤ i + f → cs.length ≤ i + f' → wordEnd (kindsL cs) f i = wordEnd (kindsL cs) f' i := by
  intro f
  induction f with
  | zero =>
    intro f' i h h1 h2
    have e : i = cs.length := by omega
    subst e
    cases f' with
    | zero => rfl
    | succ f' => simp only [wordEnd]; rw [kinds_end]; simp [wordyI]
  | succ f ih =>
    intro f' i h h1 h2
    cases f' with
    | zero =>
      have e : i = cs.length := by omega
      subst e
      simp only [wordEnd]; rw [kinds_end]; simp [wordyI]
    | succ f' =>
      simp only [wordEnd]
      by_cases hn : i = cs.length
      · subst hn
        rw [kinds_end]
        simp [wordyI]
      · rw [ih f' (i + 1) (by omega) (by omega) (by omega)]
theorem blankEnd_bounds (cs : List S67) : ∀ f i, i ≤ cs.length → i ≤ blankEnd (kindsL cs) f i ∧ blankEnd (kindsL cs) f i ≤ cs.length := by
  intro f
  induction f with
  | zero => intro i h; exact ⟨Nat.le_refl _, h⟩
  | succ f ih =>
    intro i h
    simp only [blankEnd]
    by_cases hn : i = cs.length
    · subst hn
      rw [kinds_end]
      simp
    · have := ih (i + 1) (by omega)
      repeat' split
      all_goals omega
theorem tokAt_bounds (cs : List S67) (i : Nat) (h : i < cs.length) : i < (tokAt cs i).2 ∧ (tokAt cs i).2 ≤ cs.length := by
  have h1 := wordEnd_bounds cs
  have h2 := blankEnd_bounds cs
  unfold tokAt
  split
  · rename_i hw
    obtain ⟨m, hm⟩ : ∃ m, cs.length = m + 1 := ⟨cs.length - 1, by omega⟩
    have e : wordEnd (kindsL cs) cs.length i = wordEnd (kindsL cs) m (i + 1) := by rw [hm]; simp only [wordEnd]; rw [if_pos hw]
    have := h1 m (i + 1) (by omega)
    simp only
    omega
  · split
    · rename_i hw
      obtain ⟨m, hm⟩ : ∃ m, cs.length = m + 1 := ⟨cs.length - 1, by omega⟩
      have e : blankEnd (kindsL cs) cs.length i = blankEnd (kindsL cs) m (i + 1) := by rw [hm]; simp only [blankEnd]; rw [if_pos hw]
      have := h2 m (i + 1) (by omega)
      simp only
      omega
    · split
      · simp only
        split <;> omega
      · split <;> (simp only; omega)
theorem toksL_fuel (s : ByteArray) (base : Int) (cs : List S67) : ∀ f f' i, cs.length ≤ i + f → cs.length ≤ i + f' → toksL s base cs f i = toksL s base cs f' i := by
  intro f
  induction f with
  | zero =>
    intro f' i h1 h2
    cases f' with
    | zero => rfl
    | succ f' => simp only [toksL]; rw [if_neg (by omega)]
  | succ f ih =>
    intro f' i h1 h2
    cases f' with
    | zero => simp only [toksL]; rw [if_neg (by omega)]
    | succ f' =>
      simp only [toksL]
      by_cases hn : i < cs.length
      · have hb := tokAt_bounds cs i hn
        rw [if_pos hn, if_pos hn, ih f' _ (by omega) (by omega)]
      · rw [if_neg hn, if_neg hn]
theorem toksL_at (s : ByteArray) (base : Int) (cs : List S67) (i : Nat) (h : i < cs.length) : toksL s base cs cs.length i = mkTok s base cs i (tokAt cs i).1 (tokAt cs i).2 :: toksL s base cs cs.length (tokAt cs i).2 := by
  have hb := tokAt_bounds cs i h
  rw [toksL_fuel s base cs cs.length (cs.length + 1) i (by omega) (by omega)]
  simp only [toksL]
  rw [if_pos h]
theorem wordEnd_go (cs : List S67) (j : Nat) (h : j < cs.length) (hw : wordyI ((kindsL cs).getD j 0) = true ∨ ((kindsL cs).getD j 0 = 4 ∧ wordyI ((kindsL cs).getD (j + 1) 0) = true)) : wordEnd (kindsL cs) cs.length j = wordEnd (kindsL cs) cs.length (j + 1) := by
  obtain ⟨m, hm⟩ : ∃ m, cs.length = m + 1 := ⟨cs.length - 1, by omega⟩
  rw [← wordEnd_fuel cs m cs.length (j + 1) (by omega) (by omega) (by omega), hm]
  simp only [wordEnd]
  rcases hw with hw | hw
  · rw [if_pos hw]
  · by_cases h1 : wordyI ((kindsL cs).getD j 0) = true
    · rw [if_pos h1]
    · rw [if_neg h1, if_pos hw]
theorem wordEnd_stop (cs : List S67) (j f : Nat) (h : ¬ wordyI ((kindsL cs).getD j 0) = true) (h2 : ¬ ((kindsL cs).getD j 0 = 4 ∧ wordyI ((kindsL cs).getD (j + 1) 0) = true)) : wordEnd (kindsL cs) f j = j := by
  cases f with
  | zero => rfl
  | succ f => simp only [wordEnd]; rw [if_neg h, if_neg h2]
theorem blankEnd_fuel (cs : List S67) : ∀ f f' i, i ≤ cs.length → cs.length ≤ i + f → cs.length ≤ i + f' → blankEnd (kindsL cs) f i = blankEnd (kindsL cs) f' i := by
  intro f
  induction f with
  | zero =>
    intro f' i h h1 h2
    have e : i = cs.length := by omega
    subst e
    cases f' with
    | zero => rfl
    | succ f' => simp only [blankEnd]; rw [kinds_end]; simp
  | succ f ih =>
    intro f' i h h1 h2
    cases f' with
    | zero =>
      have e : i = cs.length := by omega
      subst e
      simp only [blankEnd]; rw [kinds_end]; simp
    | succ f' =>
      simp only [blankEnd]
      by_cases hn : i = cs.length
      · subst hn
        rw [kinds_end]
        simp
      · rw [ih f' (i + 1) (by omega) (by omega) (by omega)]
theorem blankEnd_go (cs : List S67) (j : Nat) (h : j < cs.length) (hw : (kindsL cs).getD j 0 = 5) : blankEnd (kindsL cs) cs.length j = blankEnd (kindsL cs) cs.length (j + 1) := by
  obtain ⟨m, hm⟩ : ∃ m, cs.length = m + 1 := ⟨cs.length - 1, by omega⟩
  rw [← blankEnd_fuel cs m cs.length (j + 1) (by omega) (by omega) (by omega), hm]
  simp only [blankEnd]
  rw [if_pos hw]
theorem blankEnd_stop (cs : List S67) (j f : Nat) (h : ¬ (kindsL cs).getD j 0 = 5) : blankEnd (kindsL cs) f j = j := by
  cases f with
  | zero => rfl
  | succ f => simp only [blankEnd]; rw [if_neg h]
theorem cellsFrom_place (s : ByteArray) : ∀ fuel pos, (∀ c ∈ cellsFrom s fuel pos, (pos : Int) ≤ c.f0 ∧ c.f0 < s.size) ∧ (cellsFrom s fuel pos).Pairwise (fun a b => a.f0 < b.f0) := by
  intro fuel
  induction fuel with
  | zero => intro pos; simp [cellsFrom]
  | succ f ih =>
    intro pos
    by_cases hp : pos < s.size
    · rw [cellsFrom_at s f pos hp]
      obtain ⟨h1, h2⟩ := ih (pos + (Utf8.decode s pos).2)
      have hw := Utf.width_pos s pos hp
      have h0 : (cellAt s pos).f0 = (pos : Int) := by unfold cellAt; split <;> rfl
      refine ⟨fun c hc => ?_, ?_⟩
      · rcases List.mem_cons.1 hc with rfl | hc
        · rw [h0]; omega
        · have := h1 c hc; omega
      · rw [List.pairwise_cons]
        refine ⟨fun c hc => ?_, h2⟩
        have := h1 c hc
        rw [h0]; omega
    · rw [cellsFrom_end s (f + 1) pos hp]; simp
theorem placeOf_mono (s : ByteArray) (i j : Nat) (h : i ≤ j) (_hj : j ≤ (cells s).length) : 0 ≤ placeOf s (cells s) i ∧ placeOf s (cells s) i ≤ placeOf s (cells s) j ∧ placeOf s (cells s) j ≤ s.size := by
  obtain ⟨h1, h2⟩ := cellsFrom_place s s.size 0
  change (∀ c ∈ cells s, _) at h1
  change (cells s).Pairwise _ at h2
  have hg : ∀ k, (hk : k < (cells s).length) → placeOf s (cells s) k = (cells s)[k].f0 := by
    intro k hk
    unfold placeOf
    rw [if_pos hk]
    simp [rd_T67, List.getD_eq_getElem?_getD, hk]
  have he : ∀ k, ¬ k < (cells s).length → placeOf s (cells s) k = s.size := by
    intro k hk
    unfold placeOf
    rw [if_neg hk]
  have hb : ∀ k, 0 ≤ placeOf s (cells s) k ∧ placeOf s (cells s) k ≤ s.size := by
    intro k
    by_cases hk : k < (cells s).length
    · rw [hg k hk]
      have := h1 _ (List.getElem_mem hk)
      omega
    · rw [he k hk]; omega
  refine ⟨(hb i).1, ?_, (hb j).2⟩
  by_cases hji : j < (cells s).length
  · rw [hg i (by omega), hg j hji]
    by_cases e : i = j
    · subst e; exact Int.le_refl _
    · exact Int.le_of_lt (List.pairwise_iff_getElem.1 h2 i j (by omega) hji (by omega))
  · rw [he j hji]
    exact (hb i).2
def scan_tokens.f (a0 : ByteArray) (a1 : Int) : Option (List S125) :=
  if a0.size ≤ 1099511627776 ∧ 0 ≤ a1 ∧ a1 ≤ 1099511627776 then some (toksL a0 a1 (cells a0) (cells a0).length 0) else none
/-- A frame at a label. -/
def Fr (a0 : ByteArray) (a1 : Int) (CA : Option Addr) (n CC g KC : Nat) (vo : Value) (i fr : Nat) (wh : Int) (a : Act) : Prop :=
  ∃ u : Nat → Value, a = { tmps := #[.string a0, .int .i64 a1, u 2, u 3, u 4, .slice CA n CC, .slice (some ⟨g, 0, none⟩) (n + 1) KC, u 7, u 8, vo, .int .i64 (i : Int), .int .i64 (fr : Int), .int .i64 wh, u 13, u 14, u 15, u 16, u 17, u 18, u 19, u 20, u 21, u 22, u 23, u 24, u 25, u 26, u 27, u 28, u 29, u 30, u 31, u 32, u 33, u 34, u 35, u 36, u 37, u 38, u 39, u 40, u 41, u 42, u 43, u 44, u 45, u 46, u 47, u 48, u 49, u 50, u 51, u 52, u 53, u 54, u 55, u 56, u 57, u 58, u 59, u 60, u 61, u 62, u 63, u 64, u 65, u 66, u 67, u 68, u 69, u 70, u 71, u 72, u 73, u 74, u 75, u 76, u 77, u 78, u 79, u 80, u 81, u 82, u 83, u 84, u 85, u 86, u 87, u 88, u 89, u 90, u 91, u 92, u 93, u 94, u 95, u 96, u 97, u 98, u 99, u 100, u 101, u 102, u 103, u 104, u 105, u 106, u 107, u 108, u 109, u 110, u 111, u 112, u 113, u 114, u 115, u 116, u 117, u 118, u 119, u 120, u 121, u 122, u 123, u 124, u 125, u 126, u 127, u 128, u 129, u 130, u 131, u 132, u 133, u 134, u 135, u 136, u 137, u 138, u 139, u 140, u 141, u 142, u 143, u 144, u 145, u 146, u 147, u 148, u 149, u 150, u 151, u 152, u 153, u 154, u 155], defers := [] }
theorem Fr.mk {a0 : ByteArray} {a1 : Int} {CA : Option Addr} {n CC g KC : Nat} {vo : Value} {i fr : Nat} {wh : Int} (a : Act) (h : a = { tmps := #[.string a0, .int .i64 a1, a.tmps.getD 2 undef, a.tmps.getD 3 undef, a.tmps.getD 4 undef, .slice CA n CC, .slice (some ⟨g, 0, none⟩) (n + 1) KC, a.tmps.getD 7 undef, a.tmps.getD 8 undef, vo, .int .i64 (i : Int), .int .i64 (fr : Int), .int .i64 wh, a.tmps.getD 13 undef, a.tmps.getD 14 undef, a.tmps.getD 15 undef, a.tmps.getD 16 undef, a.tmps.getD 17 undef, a.tmps.getD 18 undef, a.tmps.getD 19 undef, a.tmps.getD 20 undef, a.tmps.getD 21 undef, a.tmps.getD 22 undef, a.tmps.getD 23 undef, a.tmps.getD 24 undef, a.tmps.getD 25 undef, a.tmps.getD 26 undef, a.tmps.getD 27 undef, a.tmps.getD 28 undef, a.tmps.getD 29 undef, a.tmps.getD 30 undef, a.tmps.getD 31 undef, a.tmps.getD 32 undef, a.tmps.getD 33 undef, a.tmps.getD 34 undef, a.tmps.getD 35 undef, a.tmps.getD 36 undef, a.tmps.getD 37 undef, a.tmps.getD 38 undef, a.tmps.getD 39 undef, a.tmps.getD 40 undef, a.tmps.getD 41 undef, a.tmps.getD 42 undef, a.tmps.getD 43 undef, a.tmps.getD 44 undef, a.tmps.getD 45 undef, a.tmps.getD 46 undef, a.tmps.getD 47 undef, a.tmps.getD 48 undef, a.tmps.getD 49 undef, a.tmps.getD 50 undef, a.tmps.getD 51 undef, a.tmps.getD 52 undef, a.tmps.getD 53 undef, a.tmps.getD 54 undef, a.tmps.getD 55 undef, a.tmps.getD 56 undef, a.tmps.getD 57 undef, a.tmps.getD 58 undef, a.tmps.getD 59 undef, a.tmps.getD 60 undef, a.tmps.getD 61 undef, a.tmps.getD 62 undef, a.tmps.getD 63 undef, a.tmps.getD 64 undef, a.tmps.getD 65 undef, a.tmps.getD 66 undef, a.tmps.getD 67 undef, a.tmps.getD 68 undef, a.tmps.getD 69 undef, a.tmps.getD 70 undef, a.tmps.getD 71 undef, a.tmps.getD 72 undef, a.tmps.getD 73 undef, a.tmps.getD 74 undef, a.tmps.getD 75 undef, a.tmps.getD 76 undef, a.tmps.getD 77 undef, a.tmps.getD 78 undef, a.tmps.getD 79 undef, a.tmps.getD 80 undef, a.tmps.getD 81 undef, a.tmps.getD 82 undef, a.tmps.getD 83 undef, a.tmps.getD 84 undef, a.tmps.getD 85 undef, a.tmps.getD 86 undef, a.tmps.getD 87 undef, a.tmps.getD 88 undef, a.tmps.getD 89 undef, a.tmps.getD 90 undef, a.tmps.getD 91 undef, a.tmps.getD 92 undef, a.tmps.getD 93 undef, a.tmps.getD 94 undef, a.tmps.getD 95 undef, a.tmps.getD 96 undef, a.tmps.getD 97 undef, a.tmps.getD 98 undef, a.tmps.getD 99 undef, a.tmps.getD 100 undef, a.tmps.getD 101 undef, a.tmps.getD 102 undef, a.tmps.getD 103 undef, a.tmps.getD 104 undef, a.tmps.getD 105 undef, a.tmps.getD 106 undef, a.tmps.getD 107 undef, a.tmps.getD 108 undef, a.tmps.getD 109 undef, a.tmps.getD 110 undef, a.tmps.getD 111 undef, a.tmps.getD 112 undef, a.tmps.getD 113 undef, a.tmps.getD 114 undef, a.tmps.getD 115 undef, a.tmps.getD 116 undef, a.tmps.getD 117 undef, a.tmps.getD 118 undef, a.tmps.getD 119 undef, a.tmps.getD 120 undef, a.tmps.getD 121 undef, a.tmps.getD 122 undef, a.tmps.getD 123 undef, a.tmps.getD 124 undef, a.tmps.getD 125 undef, a.tmps.getD 126 undef, a.tmps.getD 127 undef, a.tmps.getD 128 undef, a.tmps.getD 129 undef, a.tmps.getD 130 undef, a.tmps.getD 131 undef, a.tmps.getD 132 undef, a.tmps.getD 133 undef, a.tmps.getD 134 undef, a.tmps.getD 135 undef, a.tmps.getD 136 undef, a.tmps.getD 137 undef, a.tmps.getD 138 undef, a.tmps.getD 139 undef, a.tmps.getD 140 undef, a.tmps.getD 141 undef, a.tmps.getD 142 undef, a.tmps.getD 143 undef, a.tmps.getD 144 undef, a.tmps.getD 145 undef, a.tmps.getD 146 undef, a.tmps.getD 147 undef, a.tmps.getD 148 undef, a.tmps.getD 149 undef, a.tmps.getD 150 undef, a.tmps.getD 151 undef, a.tmps.getD 152 undef, a.tmps.getD 153 undef, a.tmps.getD 154 undef, a.tmps.getD 155 undef], defers := [] }) : Fr a0 a1 CA n CC g KC vo i fr wh a := ⟨fun k => a.tmps.getD k undef, h⟩
/-- What holds at the labels: the tokens so far, and what is still to come. -/
def Jt (s : ByteArray) (base : Int) (cs : List S67) (CA : Option Addr) (CC g KC : Nat) (w0 wf : World) (l : Nat) (a : Act) (w : World) : Prop :=
  ∃ (vo : Value) (out : List S125) (i fr : Nat) (wh : Int), Fr s base CA cs.length CC g KC vo i fr wh a ∧ Kd.R k125 125 w wf.heap.size (fun _ => True) vo out ∧ Below wf.heap.size wf w ∧ out.length ≤ i ∧
    ((l = 0 ∧ i ≤ cs.length ∧ out ++ toksL s base cs cs.length i = toksL s base cs cs.length 0) ∨
     (l = 1 ∧ out.length ≤ fr ∧ fr ≤ i ∧ i ≤ cs.length ∧ fr < cs.length ∧ wh = 1 ∧ (i = fr → wordyI ((kindsL cs).getD i 0) = true) ∧ out ++ mkTok s base cs fr 1 (wordEnd (kindsL cs) cs.length i) :: toksL s base cs cs.length (wordEnd (kindsL cs) cs.length i) = toksL s base cs cs.length 0) ∨
     (l = 2 ∧ out.length ≤ fr ∧ fr = i ∧ i < cs.length ∧ wh = 2 ∧ (kindsL cs).getD i 0 = 5 ∧ out ++ mkTok s base cs fr 2 (blankEnd (kindsL cs) cs.length i) :: toksL s base cs cs.length (blankEnd (kindsL cs) cs.length i) = toksL s base cs cs.length 0) ∨
     (l = 3 ∧ out.length ≤ fr ∧ fr < i ∧ i ≤ cs.length ∧ out ++ mkTok s base cs fr wh i :: toksL s base cs cs.length i = toksL s base cs cs.length 0))
theorem cell_at {w : World} {b : Nat} {cs : Array Value} {T : TypeId} {fz : Nat × Nat} (h : w.heap[b]? = some (.cells cs T fz)) (i : Nat) : w.cell? ⟨b, i, none⟩ = cs[i]? := by
  unfold World.cell?
  rw [h]
  rfl
theorem frozen_at {w : World} {b : Nat} {cs : Array Value} {T : TypeId} (h : w.heap[b]? = some (.cells cs T (0, 0))) (i : Nat) : w.frozen? ⟨b, i, none⟩ = false := by
  simp [World.frozen?, h]
theorem infoInt : (Tryd.prog.info? 3).map (fun i => (i.zero, i.size, i.bytes)) = some (some (.int .i64 0), 1, 8) := by kernel_rfl
def mu (n l : Nat) (i fr : Nat) : Nat := match l with
  | 0 => (n - i) * (2 * n + 6) + (2 * n + 5)
  | 3 => (n - fr) * (2 * n + 6)
  | _ => (n - fr) * (2 * n + 6) + n + 1 + (n - i)
def muA (n l : Nat) (a : Act) : Nat := mu n l (intOf (a.tmps.getD 10 undef)).toNat (intOf (a.tmps.getD 11 undef)).toNat
/-- What stands behind the kinds' loop, once for all. -/
def Wf (cs : List S67) (CA : Option Addr) (g : Nat) (w0 wf : World) : Prop :=
  Below w0.heap.size w0 wf ∧ Kd.C k67 wf CA cs.length cs ∧ ∀ j, j ≤ cs.length → wf.cell? ⟨g, j, none⟩ = some (.int .i64 ((kindsL cs).getD j 0))
set_option maxHeartbeats 4000000 in
set_option maxRecDepth 1000000 in
theorem scan_tokens.calls (a0 : ByteArray) (a1 : Int) (r : List S125) (w : World) (hG : Gu w) (h : scan_tokens.f a0 a1 = some r) :
    Calls Tryd.prog 101 #[.string a0, .int .i64 a1] w fun e w' => ∃ v0_ : Value, e = .returned (v0_) ∧ Kd.R k125 125 w' w.heap.size (fun _ => True) v0_ r ∧ Below w.heap.size w w' := by
  have hsz : a0.size ≤ 1099511627776 ∧ 0 ≤ a1 ∧ a1 ≤ 1099511627776 := by
    unfold scan_tokens.f at h
    split at h
    · assumption
    · cases h
  obtain rfl : toksL a0 a1 (cells a0) (cells a0).length 0 = r := by
    unfold scan_tokens.f at h
    rw [if_pos hsz] at h
    exact Option.some.inj h
  clear h
  obtain ⟨hsz, hb0, hb1⟩ := hsz
  have hcl := cells_len a0
  have CC := glyph_Cells.calls a0 (cells a0) w hG (by unfold glyph_Cells.f; rw [if_pos hsz])
  have PL := Lib.hid (placeOf_mono a0)
  generalize hcs : cells a0 = cs at *
  have hmk : ∀ W : World, (Instr.makeSlice 123 (.int .i64 ((cs.length : Int) + 1)) (.int .i64 ((cs.length : Int) + 1))).run Tryd.prog W = .ok (.slice (some ⟨W.heap.size, 0, none⟩) (cs.length + 1) (cs.length + 1)) (W.alloc (.cells (madeCells #[.int .i64 0] (cs.length + 1)) 3)) := by
    intro W
    obtain ⟨i0, hi, hzz⟩ := Option.map_eq_some_iff.1 infoInt
    simp only [Prod.mk.injEq] at hzz
    obtain ⟨hz0, hz1, hz2⟩ := hzz
    have hr := run_make (P := Tryd.prog) W 123 3 i0 (.int .i64 0) Tryd.underlying123 hi hz0 .i64 .i64 ((cs.length : Int) + 1) ((cs.length : Int) + 1) (by omega) (by omega) (by rw [hz2]; omega) (by omega)
    rw [hz1, Nat.mul_one, show ((cs.length : Int) + 1).toNat = cs.length + 1 by omega] at hr
    exact hr
  go_enter Tryd.func101, Tryd.ntmps101
  go_wp2
  refine wp_scope_four (fun l a W => ∃ CA CCp g KC wf, Wf cs CA g w wf ∧ Jt a0 a1 cs CA CCp g KC w wf l a W) (fun l a _ => muA cs.length l a) (fun l a W h => ?_) _ _ _ _ (by rfl) (by rfl) (by rfl) (by rfl) ?_ ?_ ?_ ?_ ?_
  · obtain ⟨_, _, _, _, _, _, _, _, _, _, _, _, _, _, _, h⟩ := h
    omega
  · intro NEXT
    go_wp2_with (go_at_call 40; refine CC.mono ?_; rintro e w3 ⟨v3, rfl, hR, hb3⟩; obtain ⟨A3, c3, hv3⟩ := Kd.R_slice hR; subst hv3; have HRC := Lib.hid hR; clear hR)
    have hsz3 := hb3.size
    go_wp2
    go_loopw [23] (fun v wr => ∃ (i : Nat) (cur : Array Value), v = .int .i64 i ∧ i ≤ cs.length ∧ wr.heap[w3.heap.size]? = some (.cells cur 3 (0, 0)) ∧ cur.size = cs.length + 1 ∧ (∀ j, j < i → cur[j]? = some (.int .i64 ((kindsL cs).getD j 0))) ∧ Aside0 (Below w3.heap.size w3 wr)) (fun v _ => cs.length - (intOf v).toNat)
    case atStart => exact ⟨0, _, rfl, Nat.zero_le _, (show (w3.heap.push (.cells (madeCells #[.int .i64 0] (cs.length + 1)) 3 (0, 0)))[w3.heap.size]? = some (.cells (madeCells #[.int .i64 0] (cs.length + 1)) 3 (0, 0)) by simp), size_madeCells _ _, fun j hj => absurd hj (by omega), ⟨(Below.refl _ w3).alloc (Nat.le_refl _) _⟩⟩
    case round =>
      obtain ⟨i, cur, rfl, hi, hblk, hcz, hkn, HBr⟩ := hrel
      by_cases hlt : i < cs.length
      · have hlt2 : (i : Int) < (cs.length : Int) := by omega
        obtain ⟨ad, e3, x0, x1, x2, x3, x4⟩ := at_T67 (Kd.R_reads' HRC.out).2.2 (i : Int) (by omega) hlt2
        cases e3
        have hrd : rd_T67 cs (i : Int) = cs[i] := by simp [rd_T67, List.getD_eq_getElem?_getD, hlt]
        rw [hrd] at x0 x1 x2 x3 x4
        simp only [Int.toNat_natCast] at x0 x1 x2 x3 x4
        replace x0 := (HBr.out.cell (World.block_lt_of_cell? w3 _ x0)).trans x0
        replace x1 := (HBr.out.cell (World.block_lt_of_cell? w3 _ x1)).trans x1
        replace x2 := (HBr.out.cell (World.block_lt_of_cell? w3 _ x2)).trans x2
        replace x3 := (HBr.out.cell (World.block_lt_of_cell? w3 _ x3)).trans x3
        replace x4 := (HBr.out.cell (World.block_lt_of_cell? w3 _ x4)).trans x4
        have hkv : (kindsL cs).getD i 0 = kOf cs[i] := by
          unfold kindsL
          simp [List.getD_eq_getElem?_getD, List.getElem?_append, hlt]
        have HK := Lib.hid hkv
        have KC := fun W => kind_Cell.calls _ _ _ _ _ _ W (kcell_f cs[i])
        generalize cs[i] = cc at *
        obtain ⟨f0, f1, f2, f3, f4⟩ := cc
        simp only at x0 x1 x2 x3 x4 KC
        have hltg : w3.heap.size < wr.heap.size := (Array.getElem?_eq_some_iff.1 hblk).1
        go_wp2_with (go_at_call 112; refine (KC _).mono ?_; rintro e w5 ⟨rfl, b5⟩; have hw5 := (b5.block w3.heap.size (by rw [World.size_alloc]; omega)).trans ((Lib.alloc_old wr _ w3.heap.size hltg).trans hblk); have c5 := (cell_at hw5 i).trans (Array.getElem?_eq_getElem (by omega : i < cur.size)); have f5 := frozen_at hw5 i; have B5 := Lib.hid (((HBr.out.alloc (Nat.le_of_lt hltg) _)).trans (b5.mono (by rw [World.size_alloc]; omega))))
        refine ⟨⟨i + 1, cur.setIfInBounds i (.int .i64 (kOf ⟨f0, f1, f2, f3, f4⟩)), by simp, hlt, ?_, by simp [hcz], fun j hj => ?_, ⟨B5.out.setCell (p := ⟨w3.heap.size, i, none⟩) (Nat.le_refl _) _⟩⟩, by simp [intOf]; omega⟩
        · rw [setCell_eq_setRow w5 w3.heap.size i cur 3 (0, 0) _ hw5]
          exact setRow_heap w5 w3.heap.size cur _ 3 _ hw5
        · by_cases e : i = j
          · subst e
            rw [HK.out]
            rw [Array.getElem?_setIfInBounds_self_of_lt (by omega)]
          · rw [Array.getElem?_setIfInBounds_ne e]
            exact hkn j (by omega)
      · have hi' : i = cs.length := by omega
        subst hi'
        have c5 := (cell_at hblk cs.length).trans (Array.getElem?_eq_getElem (by omega : cs.length < cur.size))
        have f5 := frozen_at hblk cs.length
        go_wp2
        go_step3
        simp only [Exit.then]
        rename_i _ hnext
        refine hnext _ _ (NEXT _ _ ?_)
        have hst := setCell_eq_setRow wr w3.heap.size cs.length cur 3 (0, 0) (.int .i64 (-1)) hblk
        have hbl := setRow_heap wr w3.heap.size cur (cur.setIfInBounds cs.length (.int .i64 (-1))) 3 _ hblk
        rw [← hst] at hbl
        have hbw : Below w3.heap.size w3 (wr.setCell ⟨w3.heap.size, cs.length, none⟩ (.int .i64 (-1))) := HBr.out.setCell (p := ⟨w3.heap.size, cs.length, none⟩) (Nat.le_refl _) _
        refine ⟨A3, c3, w3.heap.size, cs.length + 1, _, ⟨hb3.trans (hbw.mono hsz3), Kd.C_below (Kd.R_reads' HRC.out).2.2 hbw, fun j hj => ?_⟩, .slice none 0 0, [], 0, 0, 0, Fr.mk _ rfl, Kd.R_nil _ _ _ _ _, Below.refl _ _, by simp, .inl ⟨rfl, Nat.zero_le _, by simp⟩⟩
        rw [cell_at hbl]
        by_cases e : j = cs.length
        · subst e
          rw [Array.getElem?_setIfInBounds_self_of_lt (by omega)]
          unfold kindsL
          simp [List.getD_eq_getElem?_getD]
        · rw [Array.getElem?_setIfInBounds_ne (fun h => e h.symm)]
          exact hkn j (by omega)
  · rintro a W ⟨CA, CC', g, KC, wf, ⟨hf1, hf2, hf3⟩, vo, out, i, fr, wh, ⟨u, rfl⟩, hR, hB, hol, hJ⟩
    obtain ⟨_, hi, hout⟩ | ⟨h, _⟩ | ⟨h, _⟩ | ⟨h, _⟩ := hJ
    · have HR := Lib.hid hR
      have HB := Lib.hid hB
      have HF := Lib.hid hf3
      clear hR hB hf3 CC hmk hG
      by_cases hn : i = cs.length
      · subst hn
        go_wp2
        simp only [jumps]
        go_ret
        have ho : out = toksL a0 a1 cs cs.length 0 := by
          have e : toksL a0 a1 cs cs.length cs.length = [] := by
            cases hcl2 : cs.length with
            | zero => rfl
            | succ m => rw [toksL, if_neg (by omega)]
          rw [e, List.append_nil] at hout
          exact hout
        rw [← ho]
        exact ⟨_, rfl, Kd.R_lower HR.out hf1.size, hf1.trans (HB.out.mono hf1.size)⟩
      · have hlt : i < cs.length := by omega
        have hn2 : ¬ ((i : Int) = (cs.length : Int)) := by omega
        have htk := toksL_at a0 a1 cs i hlt
        have k0 := HF.out i hi
        replace k0 := (HB.out.cell (World.block_lt_of_cell? wf _ k0)).trans k0
        have hi2 : (i : Int) < (cs.length : Int) + 1 := by omega
        have HT := Lib.hid htk
        clear htk
        obtain ⟨q, hq⟩ : ∃ q, (kindsL cs).getD i 0 = q := ⟨_, rfl⟩
        rw [hq] at k0
        have HQ := Lib.hid hq
        clear hq
        have hxb : (i : Int) ≤ 1099511627776 := by omega
        by_cases hw1 : wordyI q = true
        · have WC := fun W => scan_wordy.calls _ _ W ((wordy_f q).trans (congrArg some hw1))
          have HW := Lib.hid hw1
          clear hw1
          go_wp2_with (go_at_call 113; refine (WC _).mono ?_; rintro e w5 ⟨rfl, ⟨nd, rfl⟩⟩)
          go_step3
          refine ⟨⟨CA, CC', g, KC, wf, ⟨hf1, hf2, HF.out⟩, vo, out, i, i, 1, Fr.mk _ rfl, Kd.R_drewN HR.out _, pw_below_drewN HB.out _, hol, .inr (.inl ⟨rfl, hol, Nat.le_refl _, hi, hlt, rfl, fun _ => by rw [HQ.out]; exact HW.out, ?_⟩)⟩, ?_⟩
          · have htk := HT.out
            unfold tokAt at htk
            rw [if_pos (by rw [HQ.out]; exact HW.out)] at htk
            rw [← htk]
            exact hout
          · simp [muA, mu, intOf] <;> omega
        · have hw0 : wordyI q = false := by simpa using hw1
          clear hw1
          have WC := fun W => scan_wordy.calls _ _ W ((wordy_f q).trans (congrArg some hw0))
          have HW := Lib.hid hw0
          clear hw0
          have PUT : ∀ (k : Int) (j : Nat) (a' : Act) (nd : Nat), tokAt cs i = (k, j) → Fr a0 a1 CA cs.length CC' g KC vo j i k a' → ∃ CA CCp g KC wf, Wf cs CA g w wf ∧ Jt a0 a1 cs CA CCp g KC w wf 3 a' (W.drewN nd) := by
            intro k j a' nd hk hfr
            have hb := tokAt_bounds cs i hlt
            have htk := HT.out
            rw [hk] at hb htk
            refine ⟨CA, CC', g, KC, wf, ⟨hf1, hf2, HF.out⟩, vo, out, j, i, k, hfr, Kd.R_drewN HR.out _, pw_below_drewN HB.out _, by have := hb.1; simp only at this; omega, .inr (.inr (.inr ⟨rfl, hol, hb.1, hb.2, ?_⟩))⟩
            rw [← htk]
            exact hout
          have PUTH := Lib.hid PUT
          clear PUT
          by_cases h5 : q = 5
          · subst h5
            go_wp2_with (go_at_call 113; refine (WC _).mono ?_; rintro e w5 ⟨rfl, ⟨nd, rfl⟩⟩)
            go_step3
            refine ⟨⟨CA, CC', g, KC, wf, ⟨hf1, hf2, HF.out⟩, vo, out, i, i, 2, Fr.mk _ rfl, Kd.R_drewN HR.out _, pw_below_drewN HB.out _, hol, .inr (.inr (.inl ⟨rfl, hol, rfl, hlt, rfl, HQ.out, ?_⟩))⟩, ?_⟩
            · have htk := HT.out
              unfold tokAt at htk
              rw [if_neg (by rw [HQ.out, HW.out]; simp), if_pos HQ.out] at htk
              rw [← htk]
              exact hout
            · simp [muA, mu, intOf] <;> omega
          · have h5' : (q == 5) = false := by simpa using h5
            have h50 : ¬ (kindsL cs).getD i 0 = 5 := by rw [HQ.out]; exact h5
            have hnw : ¬ wordyI ((kindsL cs).getD i 0) = true := by rw [HQ.out, HW.out]; simp
            have HN := Lib.hid (And.intro hnw h50)
            clear h5 h50 hnw
            by_cases h6 : q = 6
            · subst h6
              obtain ⟨A, e3, _, _, x2, _, _⟩ := at_T67 hf2 (i : Int) (by omega) (by omega)
              simp only [Int.toNat_natCast] at x2
              replace x2 := (HB.out.cell (World.block_lt_of_cell? wf _ x2)).trans x2
              have HF2 := Lib.hid hf2
              have hu := Tryd.underlying67
              cases e3
              obtain ⟨r, hr⟩ : ∃ r, (rd_T67 cs (i : Int)).f2 = r := ⟨_, rfl⟩
              rw [hr] at x2
              have HR0 := Lib.hid hr
              clear hr hf2
              have LINE : ∀ (b : Prop) [Decidable b], (b ↔ (rd_T67 cs (i : Int)).f2 = 13 ∧ i + 1 < cs.length ∧ (rd_T67 cs ((i + 1 : Nat) : Int)).f2 = 10) → tokAt cs i = (3, if b then i + 2 else i + 1) := by
                intro b _ hb
                unfold tokAt
                rw [if_neg HN.out.1, if_neg HN.out.2, if_pos HQ.out]
                simp only [hb]
              have LINEH := Lib.hid LINE
              clear LINE
              by_cases h13 : r = 13
              · subst h13
                by_cases hl : i + 1 < cs.length
                · have hl2 : decide ((i : Int) + 1 < (cs.length : Int)) = true := by simp; omega
                  obtain ⟨A', e4, _, _, y2, _, _⟩ := at_T67 HF2.out ((i + 1 : Nat) : Int) (by omega) (by omega)
                  cases e4
                  simp only [Int.toNat_natCast] at y2
                  replace y2 := (HB.out.cell (World.block_lt_of_cell? wf _ y2)).trans y2
                  obtain ⟨r, hr⟩ : ∃ r, (rd_T67 cs ((i + 1 : Nat) : Int)).f2 = r := ⟨_, rfl⟩
                  rw [hr] at y2
                  have HR1 := Lib.hid hr
                  clear hr
                  by_cases h10 : r = 10
                  · subst h10
                    go_wp2_with (go_at_call 113; refine (WC _).mono ?_; rintro e w5 ⟨rfl, ⟨nd, rfl⟩⟩)
                    go_step3
                    refine ⟨PUTH.out 3 (i + 2) _ _ ?_ (Fr.mk _ rfl), ?_⟩
                    · rw [LINEH.out True ⟨fun _ => ⟨HR0.out, hl, HR1.out⟩, fun _ => trivial⟩]
                      rfl
                    · simp [muA, mu, intOf] <;> omega
                  · have h10' : (r == 10) = false := by simpa using h10
                    go_wp2_with (go_at_call 113; refine (WC _).mono ?_; rintro e w5 ⟨rfl, ⟨nd, rfl⟩⟩)
                    go_step3
                    refine ⟨PUTH.out 3 (i + 1) _ _ ?_ (Fr.mk _ rfl), ?_⟩
                    · rw [LINEH.out False ⟨fun h => h.elim, fun h => h10 (HR1.out.symm.trans h.2.2)⟩]
                      rfl
                    · simp [muA, mu, intOf] <;> omega
                · have hl2 : decide ((i : Int) + 1 < (cs.length : Int)) = false := by simp; omega
                  go_wp2_with (go_at_call 113; refine (WC _).mono ?_; rintro e w5 ⟨rfl, ⟨nd, rfl⟩⟩)
                  go_step3
                  refine ⟨PUTH.out 3 (i + 1) _ _ ?_ (Fr.mk _ rfl), ?_⟩
                  · rw [LINEH.out False ⟨fun h => h.elim, fun h => hl h.2.1⟩]
                    rfl
                  · simp [muA, mu, intOf] <;> omega
              · have h13' : (r == 13) = false := by simpa using h13
                go_wp2_with (go_at_call 113; refine (WC _).mono ?_; rintro e w5 ⟨rfl, ⟨nd, rfl⟩⟩)
                go_step3
                refine ⟨PUTH.out 3 (i + 1) _ _ ?_ (Fr.mk _ rfl), ?_⟩
                · rw [LINEH.out False ⟨fun h => h.elim, fun h => h13 (HR0.out.symm.trans h.1)⟩]
                  rfl
                · simp [muA, mu, intOf] <;> omega
            · have h6' : (q == 6) = false := by simpa using h6
              have h60 : ¬ (kindsL cs).getD i 0 = 6 := by rw [HQ.out]; exact h6
              have HN6 := Lib.hid h60
              clear h6 h60
              by_cases h7 : q = 7
              · subst h7
                go_wp2_with (go_at_call 113; refine (WC _).mono ?_; rintro e w5 ⟨rfl, ⟨nd, rfl⟩⟩)
                go_step3
                refine ⟨PUTH.out 4 (i + 1) _ _ ?_ (Fr.mk _ rfl), ?_⟩
                · unfold tokAt
                  rw [if_neg HN.out.1, if_neg HN.out.2, if_neg HN6.out, if_pos (.inl HQ.out)]
                · simp [muA, mu, intOf] <;> omega
              · have h7' : (q == 7) = false := by simpa using h7
                have h70 : ¬ (kindsL cs).getD i 0 = 7 := by rw [HQ.out]; exact h7
                have HN7 := Lib.hid h70
                clear h7 h70
                by_cases h4 : q = 4
                · subst h4
                  go_wp2_with (go_at_call 113; refine (WC _).mono ?_; rintro e w5 ⟨rfl, ⟨nd, rfl⟩⟩)
                  go_step3
                  refine ⟨PUTH.out 4 (i + 1) _ _ ?_ (Fr.mk _ rfl), ?_⟩
                  · unfold tokAt
                    rw [if_neg HN.out.1, if_neg HN.out.2, if_neg HN6.out, if_pos (.inr HQ.out)]
                  · simp [muA, mu, intOf] <;> omega
                · have h4' : (q == 4) = false := by simpa using h4
                  have h40 : ¬ (kindsL cs).getD i 0 = 4 := by rw [HQ.out]; exact h4
                  have HN4 := Lib.hid h40
                  clear h4 h40
                  go_wp2_with (go_at_call 113; refine (WC _).mono ?_; rintro e w5 ⟨rfl, ⟨nd, rfl⟩⟩)
                  go_step3
                  refine ⟨PUTH.out 5 (i + 1) _ _ ?_ (Fr.mk _ rfl), ?_⟩
                  · unfold tokAt
                    rw [if_neg HN.out.1, if_neg HN.out.2, if_neg HN6.out, if_neg (fun h => h.elim HN7.out HN4.out)]
                  · simp [muA, mu, intOf] <;> omega
    · omega
    · omega
    · omega
  · rintro a W ⟨CA, CC', g, KC, wf, ⟨hf1, hf2, hf3⟩, vo, out, i, fr, wh, ⟨u, rfl⟩, hR, hB, hol, hJ⟩
    obtain ⟨h, _⟩ | ⟨_, hof, hfi, hi, hfl, rfl, hww, hout⟩ | ⟨h, _⟩ | ⟨h, _⟩ := hJ
    · omega
    · have HR := Lib.hid hR
      have HB := Lib.hid hB
      have HF := Lib.hid hf3
      have HO := Lib.hid hout
      have HWW := Lib.hid hww
      clear hR hB hf3 CC hmk hG hout hww hcs
      go_wp2
      go_loopw [10] (fun v wr => ∃ j : Nat, v = .int .i64 j ∧ i ≤ j ∧ j ≤ cs.length ∧ Aside0 (wordEnd (kindsL cs) cs.length i = wordEnd (kindsL cs) cs.length j) ∧ Aside0 (j = fr → wordyI ((kindsL cs).getD j 0) = true) ∧ Aside0 (Below wf.heap.size wf wr) ∧ Aside0 (Kd.R k125 125 wr wf.heap.size (fun _ => True) vo out)) (fun v _ => cs.length - (intOf v).toNat)
      case atStart => exact ⟨i, rfl, Nat.le_refl _, hi, ⟨rfl⟩, ⟨HWW.out⟩, ⟨HB.out⟩, ⟨HR.out⟩⟩
      case round =>
        obtain ⟨j, rfl, hij, hj, HWE, HJF, HBr, HRr⟩ := hrel
        have k0 := HF.out j hj
        replace k0 := (HBr.out.cell (World.block_lt_of_cell? wf _ k0)).trans k0
        have hj2 : (j : Int) < (cs.length : Int) + 1 := by omega
        have hxb : (j : Int) ≤ 1099511627776 := by omega
        obtain ⟨q, hq⟩ : ∃ q, (kindsL cs).getD j 0 = q := ⟨_, rfl⟩
        rw [hq] at k0
        have HQ := Lib.hid hq
        clear hq
        by_cases hw1 : wordyI q = true
        · have WC := fun W => scan_wordy.calls _ _ W ((wordy_f q).trans (congrArg some hw1))
          have hjn : j < cs.length := by
            rcases Nat.lt_or_ge j cs.length with h | h
            · exact h
            · exfalso
              have e : j = cs.length := by omega
              subst e
              have := HQ.out
              rw [kinds_end] at this
              subst this
              simp [wordyI] at hw1
          have HW := Lib.hid hw1
          clear hw1
          go_wp2_with (go_at_call 113; refine (WC _).mono ?_; rintro e w5 ⟨rfl, ⟨nd, rfl⟩⟩)
          go_roundw
          case rel =>
            exact ⟨j + 1, by go_num, by omega, hjn, ⟨HWE.out.trans (wordEnd_go cs j hjn (.inl (by rw [HQ.out]; exact HW.out)))⟩, ⟨fun h => absurd h (by omega)⟩, ⟨pw_below_drewN HBr.out _⟩, ⟨Kd.R_drewN HRr.out _⟩⟩
          case measure => simp [intOf]; omega
        · have hw0 : wordyI q = false := by simpa using hw1
          clear hw1
          have WC := fun W => scan_wordy.calls _ _ W ((wordy_f q).trans (congrArg some hw0))
          have HW := Lib.hid hw0
          clear hw0
          have hnw : ¬ wordyI ((kindsL cs).getD j 0) = true := by rw [HQ.out, HW.out]; simp
          have hfj : fr < j := by
            rcases Nat.lt_or_ge fr j with h | h
            · exact h
            · exact absurd (HJF.out (by omega)) hnw
          have PUT : ∀ (a' : Act) (W' : World) (nd : Nat), W' = wr.drewN nd → ¬ ((kindsL cs).getD j 0 = 4 ∧ wordyI ((kindsL cs).getD (j + 1) 0) = true) → Fr a0 a1 CA cs.length CC' g KC vo j fr 1 a' → ∃ CA CCp g KC wf, Wf cs CA g w wf ∧ Jt a0 a1 cs CA CCp g KC w wf 3 a' W' := by
            rintro a' W' nd rfl hns hfr
            have hwe := HWE.out.trans (wordEnd_stop cs j cs.length hnw hns)
            refine ⟨CA, CC', g, KC, wf, ⟨hf1, hf2, HF.out⟩, vo, out, j, fr, 1, hfr, Kd.R_drewN HRr.out _, pw_below_drewN HBr.out _, by omega, .inr (.inr (.inr ⟨rfl, hof, hfj, hj, ?_⟩))⟩
            rw [← hwe]
            exact HO.out
          have PUTH := Lib.hid PUT
          have HNW := Lib.hid hnw
          clear PUT hnw
          by_cases h4 : q = 4
          · subst h4
            have hjn : j < cs.length := by
              rcases Nat.lt_or_ge j cs.length with h | h
              · exact h
              · exfalso
                have e : j = cs.length := by omega
                subst e
                have := HQ.out
                rw [kinds_end] at this
                exact absurd this (by decide)
            have k1 := HF.out (j + 1) hjn
            replace k1 := (HBr.out.cell (World.block_lt_of_cell? wf _ k1)).trans k1
            have hj3 : (j : Int) + 1 < (cs.length : Int) + 1 := by omega
            obtain ⟨q2, hq2⟩ : ∃ q, (kindsL cs).getD (j + 1) 0 = q := ⟨_, rfl⟩
            rw [hq2] at k1
            have HQ2 := Lib.hid hq2
            clear hq2
            by_cases hw2 : wordyI q2 = true
            · have WC2 := fun W => scan_wordy.calls _ _ W ((wordy_f q2).trans (congrArg some hw2))
              have HW2 := Lib.hid hw2
              clear hw2
              go_wp2_with (first | (go_at_call 113; (with_reducible refine (WC _).mono ?_); rintro e w5 ⟨rfl, ⟨nd, rfl⟩⟩) | (go_at_call 113; (with_reducible refine (WC2 _).mono ?_); rintro e w5 ⟨rfl, ⟨nd2, rfl⟩⟩))
              go_step3
              refine ⟨⟨CA, CC', g, KC, wf, ⟨hf1, hf2, HF.out⟩, vo, out, j + 1, fr, 1, Fr.mk _ rfl, Kd.R_drewN HRr.out _, pw_below_drewN HBr.out _, by omega, .inr (.inl ⟨rfl, hof, by omega, hjn, hfl, rfl, fun h => absurd h (by omega), ?_⟩)⟩, ?_⟩
              · rw [← HWE.out.trans (wordEnd_go cs j hjn (.inr ⟨HQ.out, by rw [HQ2.out]; exact HW2.out⟩))]
                exact HO.out
              · simp [muA, mu, intOf] <;> omega
            · have hw20 : wordyI q2 = false := by simpa using hw2
              clear hw2
              have WC2 := fun W => scan_wordy.calls _ _ W ((wordy_f q2).trans (congrArg some hw20))
              have HW2 := Lib.hid hw20
              clear hw20
              go_wp2_with (first | (go_at_call 113; (with_reducible refine (WC _).mono ?_); rintro e w5 ⟨rfl, ⟨nd, rfl⟩⟩) | (go_at_call 113; (with_reducible refine (WC2 _).mono ?_); rintro e w5 ⟨rfl, ⟨nd2, rfl⟩⟩))
              go_step3
              refine ⟨PUTH.out _ _ _ rfl (fun h => by have h2 := h.2; rw [HQ2.out, HW2.out] at h2; exact absurd h2 (by simp)) (Fr.mk _ rfl), ?_⟩
              simp [muA, mu, intOf] <;> omega
          · have h4' : (q == 4) = false := by simpa using h4
            have h40 : ¬ (kindsL cs).getD j 0 = 4 := by rw [HQ.out]; exact h4
            have HN4 := Lib.hid h40
            clear h4 h40
            go_wp2_with (go_at_call 113; refine (WC _).mono ?_; rintro e w5 ⟨rfl, ⟨nd, rfl⟩⟩)
            go_step3
            refine ⟨PUTH.out _ _ _ rfl (fun h => HN4.out h.1) (Fr.mk _ rfl), ?_⟩
            simp [muA, mu, intOf] <;> omega
    · omega
    · omega
  · intro NEXT
    rintro a W ⟨CA, CC', g, KC, wf, ⟨hf1, hf2, hf3⟩, vo, out, i, fr, wh, ⟨u, rfl⟩, hR, hB, hol, hJ⟩
    obtain ⟨h, _⟩ | ⟨h, _⟩ | ⟨_, hof, rfl, hi, rfl, hbb, hout⟩ | ⟨h, _⟩ := hJ
    · omega
    · omega
    · have HR := Lib.hid hR
      have HB := Lib.hid hB
      have HF := Lib.hid hf3
      have HO := Lib.hid hout
      have HBB := Lib.hid hbb
      clear hR hB hf3 CC hmk hG hout hbb hcs
      go_wp2
      go_loopw [10] (fun v wr => ∃ j : Nat, v = .int .i64 j ∧ fr ≤ j ∧ j ≤ cs.length ∧ Aside0 (blankEnd (kindsL cs) cs.length fr = blankEnd (kindsL cs) cs.length j) ∧ Aside0 (j = fr → (kindsL cs).getD j 0 = 5) ∧ Aside0 (Below wf.heap.size wf wr) ∧ Aside0 (Kd.R k125 125 wr wf.heap.size (fun _ => True) vo out)) (fun v _ => cs.length - (intOf v).toNat)
      case atStart => exact ⟨fr, rfl, Nat.le_refl _, Nat.le_of_lt hi, ⟨rfl⟩, ⟨fun _ => HBB.out⟩, ⟨HB.out⟩, ⟨HR.out⟩⟩
      case round =>
        obtain ⟨j, rfl, hij, hj, HWE, HJF, HBr, HRr⟩ := hrel
        have k0 := HF.out j hj
        replace k0 := (HBr.out.cell (World.block_lt_of_cell? wf _ k0)).trans k0
        have hj2 : (j : Int) < (cs.length : Int) + 1 := by omega
        have hxb : (j : Int) ≤ 1099511627776 := by omega
        obtain ⟨q, hq⟩ : ∃ q, (kindsL cs).getD j 0 = q := ⟨_, rfl⟩
        rw [hq] at k0
        have HQ := Lib.hid hq
        clear hq
        by_cases hw1 : q = 5
        · subst hw1
          have hjn : j < cs.length := by
            rcases Nat.lt_or_ge j cs.length with h | h
            · exact h
            · exfalso
              have e : j = cs.length := by omega
              subst e
              have := HQ.out
              rw [kinds_end] at this
              exact absurd this (by decide)
          go_wp2
          go_roundw
          case rel =>
            exact ⟨j + 1, by go_num, by omega, hjn, ⟨HWE.out.trans (blankEnd_go cs j hjn HQ.out)⟩, ⟨fun h => absurd h (by omega)⟩, ⟨HBr.out⟩, ⟨HRr.out⟩⟩
          case measure => simp [intOf]; omega
        · have h5' : (q == 5) = false := by simpa using hw1
          have hnw : ¬ (kindsL cs).getD j 0 = 5 := by rw [HQ.out]; exact hw1
          have hfj : fr < j := by
            rcases Nat.lt_or_ge fr j with h | h
            · exact h
            · exact absurd (HJF.out (by omega)) hnw
          have HNW := Lib.hid hnw
          clear hnw hw1
          go_wp2
          go_step3
          simp only [Exit.then]
          rename_i _ hnext
          refine hnext _ _ (NEXT _ _ _ ⟨CA, CC', g, KC, wf, ⟨hf1, hf2, HF.out⟩, vo, out, j, fr, 2, Fr.mk _ rfl, HRr.out, HBr.out, by omega, .inr (.inr (.inr ⟨rfl, hof, hfj, hj, ?_⟩))⟩ ?_)
          · rw [← HWE.out.trans (blankEnd_stop cs j cs.length HNW.out)]
            exact HO.out
          · simp [muA, mu, intOf] <;> omega
    · omega
  · rintro a W ⟨CA, CC', g, KC, wf, ⟨hf1, hf2, hf3⟩, vo, out, i, fr, wh, ⟨u, rfl⟩, hR, hB, hol, hJ⟩
    obtain ⟨h, _⟩ | ⟨h, _⟩ | ⟨h, _⟩ | ⟨_, hof, hfi, hi, hout⟩ := hJ
    · omega
    · omega
    · omega
    · have HR := Lib.hid hR
      have HB := Lib.hid hB
      have HF := Lib.hid hf3
      have HO := Lib.hid hout
      have hu := Tryd.underlying67
      have hu2 := Tryd.underlying125
      obtain ⟨hp0, hp1, hp2⟩ := PL.out fr i (Nat.le_of_lt hfi) hi
      have hfn : fr < cs.length := by omega
      have hpf : (rd_T67 cs (fr : Int)).f0 = placeOf a0 cs fr := by unfold placeOf; rw [if_pos hfn]
      obtain ⟨A, e3, x0, _, _, _, _⟩ := at_T67 hf2 (fr : Int) (by omega) (by omega)
      have HF2 := Lib.hid hf2
      cases e3
      rw [hpf] at x0
      simp only [Int.toNat_natCast] at x0
      replace x0 := (HB.out.cell (World.block_lt_of_cell? wf _ x0)).trans x0
      have htk : mkTok a0 a1 cs fr wh i = ⟨wh, a1 + placeOf a0 cs fr, a0.extract (placeOf a0 cs fr).toNat (placeOf a0 cs i).toNat⟩ := rfl
      have hpi : ¬ i < cs.length → placeOf a0 cs i = (a0.size : Int) := fun h => by unfold placeOf; rw [if_neg h]
      have hpi2 : i < cs.length → (rd_T67 cs (i : Int)).f0 = placeOf a0 cs i := fun h => by unfold placeOf; rw [if_pos h]
      generalize placeOf a0 cs fr = pa at *
      generalize placeOf a0 cs i = pb at *
      have HT := Lib.hid htk
      have hpa : pa ≤ 1099511627776 := by omega
      have hol2 : (out.length + 1) * 32 ≤ 140737488355328 := by omega
      have hbz := HB.out.size
      clear hR hB hf3 CC hmk hG hout hcs hpf hf2 htk
      have FIN : ∀ (a' : Act) (v1 : Value) (w1 : World) (T : S125), T = mkTok a0 a1 cs fr wh i → Fr a0 a1 (some A) cs.length CC' g KC v1 i fr wh a' → Kd.R k125 125 w1 wf.heap.size (fun _ => True) v1 (out ++ [T]) → Below wf.heap.size wf w1 → ∃ CA CCp g KC wf, Wf cs CA g w wf ∧ Jt a0 a1 cs CA CCp g KC w wf 0 a' w1 := by
        rintro a' v1 w1 T rfl hfr h1 h2
        refine ⟨some A, CC', g, KC, wf, ⟨hf1, HF2.out, HF.out⟩, v1, _, i, fr, wh, hfr, h1, h2, by rw [List.length_append]; simp; omega, .inl ⟨rfl, hi, ?_⟩⟩
        rw [← HO.out]
        simp
      have FINH := Lib.hid FIN
      have hmul : (cs.length - i) * (2 * cs.length + 6) + (2 * cs.length + 6) ≤ (cs.length - fr) * (2 * cs.length + 6) := by
        have := Nat.mul_le_mul_right (2 * cs.length + 6) (by omega : cs.length - i + 1 ≤ cs.length - fr)
        rw [Nat.add_mul, Nat.one_mul] at this
        exact this
      have HM := Lib.hid hmul
      clear FIN hmul
      by_cases hlt : i < cs.length
      · have hlt2 : decide ((i : Int) < (cs.length : Int)) = true := by simp; omega
        obtain ⟨A', e4, y0, _, _, _, _⟩ := at_T67 HF2.out (i : Int) (by omega) (by omega)
        cases e4
        rw [hpi2 hlt] at y0
        simp only [Int.toNat_natCast] at y0
        replace y0 := (HB.out.cell (World.block_lt_of_cell? wf _ y0)).trans y0
        clear hpi hpi2
        go_wp2_with (at_builtin; refine Kd.R_append k125 (w0 := wf) wf.heap.size rfl (.tmp 144) (.tmp 154) 120 125 (.agg #[(.int .i64 0), (.int .i64 0), (.string ⟨#[]⟩)]) 32 rfl Tryd.underlying120 info125 rfl (by decide) (by omega) _ out (⟨wh, a1 + pa, a0.extract pa.toNat pb.toNat⟩ : S125) [.int .i64 wh, .int .i64 (a1 + pa), .string (a0.extract pa.toNat pb.toNat)] (fun _ => True) (fun _ => False) rfl (by go_simp; done) ?aP (fun _ hk => hk.elim) ?aF ?aO ?aB ?aS ?aL ?_)
        case aP => exact k125_mkM _ _ _ _
        case aO => exact HR.out
        case aB => exact HB.out
        intro v1 w1 ho hb hg hat
        clear hat hg
        go_wp2
        go_step3
        refine ⟨FINH.out _ v1 w1 _ (HT.out).symm (Fr.mk _ rfl) ho hb, ?_⟩
        have hm := HM.out
        simp [muA, mu, intOf]
        omega
      · have hlt2 : decide ((i : Int) < (cs.length : Int)) = false := by simp; omega
        obtain rfl := hpi hlt
        clear hpi hpi2
        go_wp2_with (at_builtin; refine Kd.R_append k125 (w0 := wf) wf.heap.size rfl (.tmp 144) (.tmp 154) 120 125 (.agg #[(.int .i64 0), (.int .i64 0), (.string ⟨#[]⟩)]) 32 rfl Tryd.underlying120 info125 rfl (by decide) (by omega) _ out (⟨wh, a1 + pa, a0.extract pa.toNat a0.size⟩ : S125) [.int .i64 wh, .int .i64 (a1 + pa), .string (a0.extract pa.toNat a0.size)] (fun _ => True) (fun _ => False) rfl (by go_simp; done) ?aP (fun _ hk => hk.elim) ?aF ?aO ?aB ?aS ?aL ?_)
        case aP => exact k125_mkM _ _ _ _
        case aO => exact HR.out
        case aB => exact HB.out
        intro v1 w1 ho hb hg hat
        clear hat hg
        go_wp2
        go_step3
        refine ⟨FINH.out _ v1 w1 _ (HT.out).symm (Fr.mk _ rfl) ho hb, ?_⟩
        have hm := HM.out
        simp [muA, mu, intOf]
        omega
end Go.Proofs.YtblpiceallbfjaaDoor.Pr
namespace Go.Proofs.YtblpiceallbfjaaDoor.Pr
open Go.RowKit Go.Proofs.YtblpiceallbfjaaDoorW.PrintWords Go.Proofs.YtblpiceallbfjaaDoorW.PrintLast Go.Proofs.YtblpiceallbfjaaDoorW.PrintMore
attribute [local go_sem] max2_int min2_int max_two min_two max_three min_three max_four min_four   -- for this text's walks alone
set_option linter.unusedVariables false
set_option linter.unusedSimpArgs false
def scan_Tokens.f (a0 : ByteArray) : Option ((List (S125)) × Int) := if (a0.size : Int) > 65536 then (some (([] : List (S125)), 1)) else ((scan_tokens.f a0 0).bind fun t241 => (some (t241, 0)))
set_option maxHeartbeats 8000000 in
set_option maxRecDepth 100000 in
theorem scan_Tokens.calls (a0 : ByteArray) (r1 : List (S125)) (r2 : Int) (w : World) (hG : Gu w) (h : scan_Tokens.f a0 = some (r1, r2)) :
    Calls Tryd.prog 82 #[.string a0] w fun e w' => ∃ v0_ : Value, e = .returned (.tuple #[v0_, .int .i64 r2]) ∧ Kd.R k125 125 w' w.heap.size (fun _ => True) v0_ r1 ∧ Below w.heap.size w w' := by
  have HB := Aside0.mk (Below.refl w.heap.size w)
  have HG := Aside0.mk hG
  clear hG
  have H : (if (a0.size : Int) > 65536 then (some (([] : List (S125)), 1)) else ((scan_tokens.f a0 0).bind fun t241 => (some (t241, 0)))) = some (r1, r2) := h
  clear h
  by_cases c2 : (a0.size : Int) > 65536
  · rw [if_pos c2] at H
    have c2b0 : decide (65536 < (a0.size : Int)) = true := decide_eq_true c2
    have c2b1 : decide (65536 < a0.size) = true := decide_eq_true (by omega)
    clear c2
    simp only [Option.some.injEq, Prod.mk.injEq] at H
    obtain ⟨rfl, rfl⟩ := H
    go_enter Tryd.func82, Tryd.ntmps82
    go_wp2
    go_ret2
    exact ⟨_, by first | rfl | (simp [errW_none, errW_some] <;> rfl) | (simp [*, errW_none, errW_some] <;> rfl), by first | exact Kd.R_nil _ _ _ _ _ | exact Kd.N_nil _ _ _ _ _ | exact Kd.V_nil _ _ _ _ _ | exact Kd.Q_nil _ _ _ _ _ | exact Kd.S_nil _ _ _ _ _, by repeat (first | (with_reducible first | exact HB.out | apply below_alloc | apply pw_below_drewN | apply below_drew1) | exact HB.out)⟩
  · rw [if_neg c2] at H
    have c2b0 : decide (65536 < (a0.size : Int)) = false := decide_eq_false c2
    have c2b1 : decide (65536 < a0.size) = false := decide_eq_false (by omega)
    clear c2
    replace H := Option.bind_eq_some_iff.mp H
    obtain ⟨t241, A30, H⟩ := H
    replace H : (some (t241, 0)) = some (r1, r2) := H
    have A3 := Aside0.mk A30
    clear A30
    simp only [Option.some.injEq, Prod.mk.injEq] at H
    obtain ⟨rfl, rfl⟩ := H
    go_enter Tryd.func82, Tryd.ntmps82
    go_wp2_with (first | ((with_reducible refine gate_callee (f := 101) rfl ?_); refine goesL_ (some 8) rfl rfl Tryd.func101 (by kernel_rfl) rfl #[.string a0, .int .i64 0] rfl (by (try simp only [List.map_toArray, List.map_cons, List.map_nil]); first | done | rfl | (simp only [List.length_drop, List.length_take]; rfl)) ?_; (with_reducible refine (scan_tokens.calls a0 0 t241 _ ?side1 A3.out).mono ?_); (case side1 => exact Gu.below HG.out (by repeat (first | (with_reducible first | exact HB.out | apply below_alloc | apply pw_below_drewN | apply below_drew1) | exact HB.out))); rintro e w4 ⟨v242, rfl, ho0, hb⟩; refine ⟨_, rfl, ?_⟩; have n0_ := Aside0.mk (Kd.R_lower ho0 (below_size (by repeat (first | (with_reducible first | exact HB.out | apply below_alloc | apply pw_below_drewN | apply below_drew1) | exact HB.out)))); have n1_ := Aside0.mk (below_step (by repeat (first | (with_reducible first | exact HB.out | apply below_alloc | apply pw_below_drewN | apply below_drew1) | exact HB.out)) hb); clear HB; have HO243 := n0_; have HB := n1_; clear n0_ n1_; (try clear hb); (try clear hb2); (try clear hk); (try clear hi); (try clear ho0)))
    go_ret2
    exact ⟨_, by first | rfl | (simp [errW_none, errW_some] <;> rfl) | (simp [*, errW_none, errW_some] <;> rfl), by (with_reducible repeat (first | apply Kd.R_alloc | apply Kd.R_drewN | apply Kd.R_drew)); exact HO243.out, by repeat (first | (with_reducible first | exact HB.out | apply below_alloc | apply pw_below_drewN | apply below_drew1) | exact HB.out)⟩
end Go.Proofs.YtblpiceallbfjaaDoor.Pr
namespace Go.Proofs.YtblpiceallbfjaaDoor.Pr
open Go.RowKit Go.Proofs.YtblpiceallbfjaaDoorW.PrintWords Go.Proofs.YtblpiceallbfjaaDoorW.PrintLast Go.Proofs.YtblpiceallbfjaaDoorW.PrintMore
attribute [local go_sem] max2_int min2_int max_two min_two max_three min_three max_four min_four   -- for this text's walks alone
set_option linter.unusedVariables false
set_option linter.unusedSimpArgs false
mutual
def split_Words.l0 : Nat → ByteArray → List Int → List Int → List (S125) → Int → Int → Option (ByteArray × (List (S87)) × Int)
  | 0, _, _, _, _, _, _ => none
  | k + 1, x0, x7, x8, x21, x22, x23 => if x23 < x22 then (if 0 ≤ x23 then (if x23 < (x21.length : Int) then (if ((rd_T125 x21 x23).f0) = 1 then (if x7.length < 17592186044416 then (if x8.length < 17592186044416 then (split_Words.l0 k x0 (x7 ++ [(rd_T125 x21 x23).f1]) (x8 ++ [wrap64 (((rd_T125 x21 x23).f1) + (((rd_T125 x21 x23).f2).size : Int))]) x21 x22 (wrap64 (x23 + 1))) else (none)) else (none)) else (split_Words.l0 k x0 x7 x8 x21 x22 (wrap64 (x23 + 1)))) else (none)) else (none)) else (if (x7.length : Int) > 1024 then (some ((⟨#[]⟩ : ByteArray), ([] : List (S87)), 1)) else (if x7.length < 17592186044416 then (if 0 ≤ (x8.length : Int) then (if ((x8.length : Int) : Int).toNat ≤ 8796093022208 then ((some (List.replicate ((x8.length : Int) : Int).toNat z87 : List (S87))).bind fun y259 => (split_Words.l1 k x0 (x7 ++ [(x0.size : Int)]) x8 y259 (y259.length : Int) 0)) else (none)) else (none)) else (none)))
def split_Words.l1 : Nat → ByteArray → List Int → List Int → List (S87) → Int → Int → Option (ByteArray × (List (S87)) × Int)
  | 0, _, _, _, _, _, _ => none
  | k + 1, x0, x7, x8, x11, x57, x58 => if x58 < x57 then (if 0 ≤ x58 then (if x58 < (x7.length : Int) then (if x58 < (x8.length : Int) then (if 0 ≤ (rd x7 x58) then (if (rd x7 x58) ≤ (rd x8 x58) then (if (rd x8 x58) ≤ (x0.size : Int) then (if 0 ≤ (wrap64 (x58 + 1)) then (if (wrap64 (x58 + 1)) < (x7.length : Int) then (if 0 ≤ (rd x8 x58) then (if (rd x8 x58) ≤ (rd x7 (wrap64 (x58 + 1))) then (if (rd x7 (wrap64 (x58 + 1))) ≤ (x0.size : Int) then (if x58 < (x11.length : Int) then (split_Words.l1 k x0 x7 x8 (x11.set (x58 : Int).toNat (⟨x0.extract ((rd x7 x58) : Int).toNat ((rd x8 x58) : Int).toNat, x0.extract ((rd x8 x58) : Int).toNat ((rd x7 (wrap64 (x58 + 1))) : Int).toNat⟩ : S87)) x57 (wrap64 (x58 + 1))) else (none)) else (none)) else (none)) else (none)) else (none)) else (none)) else (none)) else (none)) else (none)) else (none)) else (none)) else (none)) else (if 0 < (x7.length : Int) then (if 0 ≤ (rd x7 0) then (if (rd x7 0) ≤ (x0.size : Int) then (some (x0.extract 0 ((rd x7 0) : Int).toNat, x11, 0)) else (none)) else (none)) else (none))
end
def split_Words.f (k : Nat) (a0 : ByteArray) : Option (ByteArray × (List (S87)) × Int) := (scan_Tokens.f a0).bind fun bt244 => (if bt244.2 = 0 then (split_Words.l0 k a0 ([] : List Int) ([] : List Int) bt244.1 (bt244.1.length : Int) 0) else (some ((⟨#[]⟩ : ByteArray), ([] : List (S87)), bt244.2)))
theorem split_Words.mono_l : ∀ k, (∀ y0 y1 y2 y3 y4 y5, LeO (split_Words.l0 k y0 y1 y2 y3 y4 y5) (split_Words.l0 (k + 1) y0 y1 y2 y3 y4 y5)) ∧ (∀ y0 y1 y2 y3 y4 y5, LeO (split_Words.l1 k y0 y1 y2 y3 y4 y5) (split_Words.l1 (k + 1) y0 y1 y2 y3 y4 y5))
  | 0 => ⟨fun _ _ _ _ _ _ r h => by simp [split_Words.l0] at h, fun _ _ _ _ _ _ r h => by simp [split_Words.l1] at h⟩
  | k + 1 => by
    obtain ⟨ih0, ih1⟩ := split_Words.mono_l k
    refine ⟨?_, ?_⟩
    · intro y0 y1 y2 y3 y4 y5
      unfold split_Words.l0
      repeat' first
      | (with_reducible exact ih0 _ _ _ _ _ _)
      | (with_reducible exact ih1 _ _ _ _ _ _)
      | (with_reducible exact LeO.refl _)
      | (with_reducible exact LeO.none _)
      | (with_reducible refine LeO.ite ?_ ?_)
      | (with_reducible refine LeO.bind ?_ (fun _ => ?_))
      | exact ih0 _ _ _ _ _ _
      | exact ih1 _ _ _ _ _ _
      | exact LeO.none _
      | refine LeO.ite ?_ ?_
      | refine LeO.bind ?_ (fun _ => ?_)
    · intro y0 y1 y2 y3 y4 y5
      unfold split_Words.l1
      repeat' first
      | (with_reducible exact ih0 _ _ _ _ _ _)
      | (with_reducible exact ih1 _ _ _ _ _ _)
      | (with_reducible exact LeO.refl _)
      | (with_reducible exact LeO.none _)
      | (with_reducible refine LeO.ite ?_ ?_)
      | (with_reducible refine LeO.bind ?_ (fun _ => ?_))
      | exact ih0 _ _ _ _ _ _
      | exact ih1 _ _ _ _ _ _
      | exact LeO.none _
      | refine LeO.ite ?_ ?_
      | refine LeO.bind ?_ (fun _ => ?_)
theorem split_Words.mono : ∀ a0 k, LeO (split_Words.f k a0) (split_Words.f (k + 1) a0) := by
  intro a0 k
  obtain ⟨ih0, ih1⟩ := split_Words.mono_l k
  unfold split_Words.f
  repeat' first
      | (with_reducible exact ih0 _ _ _ _ _ _)
      | (with_reducible exact ih1 _ _ _ _ _ _)
      | (with_reducible exact LeO.refl _)
      | (with_reducible exact LeO.none _)
      | (with_reducible refine LeO.ite ?_ ?_)
      | (with_reducible refine LeO.bind ?_ (fun _ => ?_))
      | exact ih0 _ _ _ _ _ _
      | exact ih1 _ _ _ _ _ _
      | exact LeO.none _
      | refine LeO.ite ?_ ?_
      | refine LeO.bind ?_ (fun _ => ?_)
def split_Words.T20 : Bool × List (List Nat × List Nat) := (true, [([], []), ([], []), ([], []), ([], []), ([], []), ([3, 4], [3, 4]), ([5], [5]), ([], []), ([], []), ([7, 8], [7, 8]), ([9], [9]), ([2, 6, 10], [2, 6, 10]), ([], []), ([], []), ([], []), ([13, 14], [13, 14]), ([15], [15]), ([], []), ([], []), ([18], [18]), ([17, 19], [17, 19]), ([20], [20]), ([12, 16, 21], [12, 16, 21]), ([11, 22], [11, 22]), ([0, 1, 0, 1, 2, 3, 4, 5, 6, 7, 8, 9, 10, 11, 12, 13, 14, 15, 16, 17, 18, 19, 20, 21, 22, 23], [0, 1]), ([24, 23, 0, 1, 2, 3, 4, 5, 6, 7, 8, 9, 10, 11, 12, 13, 14, 15, 16, 17, 18, 19, 20, 21, 22, 23], [23, 24])])
def split_Words.B20 : List Nat := [0, 0, 0, 0, 0, 24, 56, 0, 0, 384, 896, 2044, 0, 0, 0, 24576, 57344, 0, 0, 262144, 917504, 1966080, 4190208, 8388604, 16777215, 33554431]
theorem split_Words.tab20 : rtab .any (opsOf Tryd.f50 20) = split_Words.T20 := by kernel_rfl
theorem split_Words.bits20 : waitsOk split_Words.T20.2 split_Words.B20 = true := by kernel_rfl
set_option maxHeartbeats 8000000 in
set_option maxRecDepth 100000 in
theorem split_Words.calls (k : Nat) (a0 : ByteArray) (r1 : ByteArray) (r2 : List (S87)) (r3 : Int) (w : World) (hG : Gu w) (h : split_Words.f k a0 = some (r1, r2, r3)) :
    Calls Tryd.prog 50 #[.string a0] w fun e w' => ∃ v1_ : Value, e = .returned (.tuple #[.string r1, v1_, .int .i64 r3]) ∧ Kd.R k87 87 w' w.heap.size (fun _ => True) v1_ r2 ∧ Below w.heap.size w w' := by
  have hu125 := Tryd.underlying125
  have hu87 := Tryd.underlying87
  have HB := Aside0.mk (Below.refl w.heap.size w)
  have HG := Aside0.mk hG
  clear hG
  have H : ((scan_Tokens.f a0).bind fun bt244 => (if bt244.2 = 0 then (split_Words.l0 k a0 ([] : List Int) ([] : List Int) bt244.1 (bt244.1.length : Int) 0) else (some ((⟨#[]⟩ : ByteArray), ([] : List (S87)), bt244.2)))) = some (r1, r2, r3) := h
  clear h
  replace H := Option.bind_eq_some_iff.mp H
  obtain ⟨⟨t244, t245⟩, A20, H⟩ := H
  replace H : (if t245 = 0 then (split_Words.l0 k a0 ([] : List Int) ([] : List Int) t244 (t244.length : Int) 0) else (some ((⟨#[]⟩ : ByteArray), ([] : List (S87)), t245))) = some (r1, r2, r3) := H
  have A2 := Aside0.mk A20
  clear A20
  by_cases c3 : t245 = 0
  · rw [if_pos c3] at H
    have c3b0 : (t245 == 0) = true := beq_iff_eq.mpr c3
    have c3b1 : (t245 != 0) = false := bne_eq_false_iff_eq.mpr c3
    clear c3
    have H' := Aside0.mk H
    clear H
    go_enter Tryd.func50, Tryd.ntmps50
    go_wp2_with (first | ((with_reducible refine gate_callee (f := 82) rfl ?_); refine goesL_ (some 15) rfl rfl Tryd.func82 (by kernel_rfl) rfl #[.string a0] rfl (by (try simp only [List.map_toArray, List.map_cons, List.map_nil]); first | done | rfl | (simp only [List.length_drop, List.length_take]; rfl)) ?_; (with_reducible refine (scan_Tokens.calls a0 t244 t245 _ ?side1 A2.out).mono ?_); (case side1 => exact Gu.below HG.out (by repeat (first | (with_reducible first | exact HB.out | apply below_alloc | apply pw_below_drewN | apply below_drew1) | exact HB.out))); rintro e w4 ⟨v246, rfl, ho0, hb⟩; refine ⟨_, rfl, ?_⟩; have n0_ := Aside0.mk (Kd.R_lower ho0 (below_size (by repeat (first | (with_reducible first | exact HB.out | apply below_alloc | apply pw_below_drewN | apply below_drew1) | exact HB.out)))); have n1_ := Aside0.mk (below_step (by repeat (first | (with_reducible first | exact HB.out | apply below_alloc | apply pw_below_drewN | apply below_drew1) | exact HB.out)) hb); clear HB; have HO247 := n0_; have HB := n1_; clear n0_ n1_; (try clear hb); (try clear hb2); (try clear hk); (try clear hi); (try clear ho0); obtain ⟨Ao5, co5, eo5⟩ := Kd.R_slice HO247.out; subst eo5))
    go_loopg [7, 8, 23] k (fun kq v7 v8 v23 w' => ∃ (x7_1 : List Int) (x8_1 : List Int) (x23_1 : Int), v23 = .int .i64 x23_1 ∧ Aside0 (split_Words.l0 kq a0 x7_1 x8_1 t244 (t244.length : Int) x23_1 = some (r1, r2, r3)) ∧ Aside0 (kq ≤ k) ∧ Aside0 (Kd.R (Kd.int .i64) 3 w' w.heap.size (fun k_ => some k_ ≠ (v8 : Value).ownBlock) v7 x7_1) ∧ Aside0 (Kd.R (Kd.int .i64) 3 w' w.heap.size (fun k_ => some k_ ≠ (v7 : Value).ownBlock) v8 x8_1) ∧ Aside0 (Kd.R k125 125 w' w.heap.size (fun _ => True) (.slice Ao5 t244.length co5) t244) ∧ Aside0 (Below w.heap.size w w'))
    case atStart => exact ⟨(([] : List Int)), (([] : List Int)), (0), (by first | rfl | (simp; done) | (simp [*]; done)), H', ⟨Nat.le_refl _⟩, ⟨by first | exact Kd.R_nil _ _ _ _ _ | exact Kd.N_nil _ _ _ _ _ | exact Kd.V_nil _ _ _ _ _ | exact Kd.Q_nil _ _ _ _ _ | exact Kd.S_nil _ _ _ _ _⟩, ⟨by first | exact Kd.R_nil _ _ _ _ _ | exact Kd.N_nil _ _ _ _ _ | exact Kd.V_nil _ _ _ _ _ | exact Kd.Q_nil _ _ _ _ _ | exact Kd.S_nil _ _ _ _ _⟩, ⟨by (with_reducible repeat (first | apply Kd.R_alloc | apply Kd.R_drewN | apply Kd.R_drew)); exact HO247.out⟩, ⟨by repeat (first | (with_reducible first | exact HB.out | apply below_alloc | apply pw_below_drewN | apply below_drew1) | exact HB.out)⟩⟩
    case round =>
      clear H'
      try clear p2
      try clear c3
      try clear c3b0
      try clear c3b1
      try clear c5
      obtain ⟨x7_1, x8_1, x23_1, rfl, HA, HK1, HO_7, HO_8, HO_21, HB⟩ := hrel
      cases gk with
      | zero => exact absurd HA.out (by simp [split_Words.l0])
      | succ k1 =>
        have H := HA.out
        clear HA
        simp only [split_Words.l0] at H
        by_cases c6 : x23_1 < (t244.length : Int)
        · rw [if_pos c6] at H
          have c6b0 : decide (x23_1 < (t244.length : Int)) = true := decide_eq_true c6
          clear c6
          by_cases c7 : 0 ≤ x23_1
          · rw [if_pos c7] at H
            have c7b0 : decide (0 ≤ x23_1) = true := decide_eq_true c7
            clear c7
            by_cases c8 : x23_1 < (t244.length : Int)
            · rw [if_pos c8] at H
              have c8b0 : decide (x23_1 < (t244.length : Int)) = true := decide_eq_true c8
              clear c8
              by_cases c9 : ((rd_T125 t244 x23_1).f0) = 1
              · rw [if_pos c9] at H
                have c9b0 : (((rd_T125 t244 x23_1).f0) == 1) = true := beq_iff_eq.mpr c9
                have c9b1 : (((rd_T125 t244 x23_1).f0) != 1) = false := bne_eq_false_iff_eq.mpr c9
                clear c9
                by_cases c10 : x7_1.length < 17592186044416
                · rw [if_pos c10] at H
                  have LMc10 := Aside0.mk c10
                  clear c10
                  obtain ⟨y250, hy250⟩ : ∃ y_ : List Int, y_ = (x7_1 ++ [(rd_T125 t244 x23_1).f1]) := ⟨_, rfl⟩
                  replace H : (if x8_1.length < 17592186044416 then (split_Words.l0 k1 a0 y250 (x8_1 ++ [wrap64 (((rd_T125 t244 x23_1).f1) + (((rd_T125 t244 x23_1).f2).size : Int))]) t244 (t244.length : Int) (wrap64 (x23_1 + 1))) else (none)) = some (r1, r2, r3) := by first | (rw [hy250]; with_reducible exact H) | (have H2_ := (Option.bind_some _ _).symm.trans H; rw [hy250]; with_reducible exact H2_) | (have H2_ := (Option.bind_some _ _).symm.trans H; with_reducible exact H2_) | with_reducible exact H | (rw [hy250]; exact H) | exact H
                  have Ny250 := Aside0.mk hy250
                  clear hy250
                  by_cases c11 : x8_1.length < 17592186044416
                  · rw [if_pos c11] at H
                    have LMc11 := Aside0.mk c11
                    clear c11
                    obtain ⟨y253, hy253⟩ : ∃ y_ : List Int, y_ = (x8_1 ++ [wrap64 (((rd_T125 t244 x23_1).f1) + (((rd_T125 t244 x23_1).f2).size : Int))]) := ⟨_, rfl⟩
                    replace H : (split_Words.l0 k1 a0 y250 y253 t244 (t244.length : Int) (wrap64 (x23_1 + 1))) = some (r1, r2, r3) := by first | (rw [hy253]; with_reducible exact H) | (have H2_ := (Option.bind_some _ _).symm.trans H; rw [hy253]; with_reducible exact H2_) | (have H2_ := (Option.bind_some _ _).symm.trans H; with_reducible exact H2_) | with_reducible exact H | (rw [hy253]; exact H) | exact H
                    have Ny253 := Aside0.mk hy253
                    clear hy253
                    have H' := Aside0.mk H
                    clear H
                    have p248 : 0 ≤ (x23_1 : Int) := of_decide_eq_true (by first | (with_reducible assumption) | assumption)
                    have q248 : x23_1 < (t244.length : Int) := of_decide_eq_true (by first | (with_reducible assumption) | assumption)
                    obtain ⟨ad248, e248, hx248_0, hx248_1, hx248_2⟩ := at_T125 (Kd.R_reads' HO_21.out).2.2 x23_1 p248 q248
                    cases e248
                    replace p248 := eq_true p248
                    replace q248 := eq_true q248
                    go_wp2_with (first | ((with_reducible refine gate_dst (N := 10) rfl ?_); refine box_event ?hg (N := 10) ?hd (cs := #[.int .i64 0, .int .i64 0, .string (⟨#[]⟩ : ByteArray)]) (t := 125) ?hr ?_; (case hd => rfl); (case hg => rfl); (case hr => first | (go_simp; done) | (go_simp; rfl)); intro gb249 hg w12 hbox hb; have n0_ := Aside0.mk (Kd.R_below (by (with_reducible repeat (first | apply Kd.R_alloc | apply Kd.R_drewN | apply Kd.R_drew)); exact HO_7.out) hb); have n1_ := Aside0.mk (Kd.R_below (by (with_reducible repeat (first | apply Kd.R_alloc | apply Kd.R_drewN | apply Kd.R_drew)); exact HO_8.out) hb); have n2_ := Aside0.mk (Kd.R_below (Kd.R_elderB (by (with_reducible repeat (first | apply Kd.R_alloc | apply Kd.R_drewN | apply Kd.R_drew)); exact HO_21.out) gb249 (Nat.le_of_eq hg.symm)) hb); have n3_ := Aside0.mk (below_step (by repeat (first | (with_reducible first | exact HB.out | apply below_alloc | apply pw_below_drewN | apply below_drew1) | exact HB.out)) hb); have n4_ := Aside0.mk (hbox); have n5_ := Aside0.mk ((by rw [hg]; exact (below_size (by repeat (first | (with_reducible first | exact HB.out | apply below_alloc | apply pw_below_drewN | apply below_drew1) | exact HB.out))) : w.heap.size ≤ gb249)); have n6_ := Aside0.mk ((by rw [hg]; exact (below_size (by repeat (first | (with_reducible first | exact HB.out | apply below_alloc | apply pw_below_drewN | apply below_drew1) | exact HB.out))) : w.heap.size ≤ gb249)); clear HO_7; clear HO_8; clear HO_21; clear HB; have HO_7 := n0_; have HO_8 := n1_; have HO_21 := n2_; have HB := n3_; have BK249 := n4_; have GW249 := n5_; have GE249 := n6_; clear n0_ n1_ n2_ n3_ n4_ n5_ n6_; clear hb hbox hg; have hcz13_0 : w12.cell? ⟨gb249, 0, none⟩ = some (.int .i64 0) := (blk_cell BK249.out 0).trans rfl; have hcz13_1 : w12.cell? ⟨gb249, 1, none⟩ = some (.int .i64 0) := (blk_cell BK249.out 1).trans rfl; have hcz13_2 : w12.cell? ⟨gb249, 2, none⟩ = some (.string (⟨#[]⟩ : ByteArray)) := (blk_cell BK249.out 2).trans rfl; have hfz13_0 := blk_frozen BK249.out 0; have hfz13_1 := blk_frozen BK249.out 1; have hfz13_2 := blk_frozen BK249.out 2) | ((with_reducible refine gate_builtin (b := .append) (xs := #[.tmp 30, .tmp 33]) rfl ?_); at_builtin; refine Kd.R_append (Kd.int .i64) (w0 := w) w.heap.size rfl (.tmp 30) (.tmp 33) 123 3 (.int .i64 0) 8 rfl Tryd.underlying123 info3 rfl (by decide) (by omega) u7 x7_1 ((rd_T125 t244 x23_1).f1) [.int .i64 ((rd_T125 t244 x23_1).f1)] (fun k_ => some k_ ≠ (u8 : Value).ownBlock) (fun _ => False) rfl (by first | (go_simp; done) | (go_simp; rfl)) ?aP (fun _ hk => hk.elim) ?aF ?aO ?aB ?aS ?aL ?_; (case aP => exact rfl); (case aB => exact (by repeat (first | (with_reducible first | exact HB.out | apply below_alloc | apply pw_below_drewN | apply below_drew1 | refine below_set ?_ GE249.out) | exact HB.out))); (case aF => exact (fun k_ hk => Kd.fresh' (Kd.R_lt (by (with_reducible repeat (first | apply Kd.R_alloc | apply Kd.R_drewN | apply Kd.R_drew)); exact (Kd.R_mono (Kd.R_far (p := ⟨gb249, 2, none⟩) (Kd.R_far (p := ⟨gb249, 1, none⟩) (Kd.R_far (p := ⟨gb249, 0, none⟩) (Kd.R_types HO_8.out BK249.out (by decide)) (fun _ hk => hk.2) (.int .i64 ((rd_T125 t244 x23_1).f0))) (fun _ hk => hk.2) (.int .i64 ((rd_T125 t244 x23_1).f1))) (fun _ hk => hk.2) (.string ((rd_T125 t244 x23_1).f2))) (fun _ h_ => h_.1)))) k_ hk)); (case aO => exact (by (with_reducible repeat (first | apply Kd.R_alloc | apply Kd.R_drewN | apply Kd.R_drew)); exact Kd.R_mono (Kd.R_far (p := ⟨gb249, 2, none⟩) (Kd.R_far (p := ⟨gb249, 1, none⟩) (Kd.R_far (p := ⟨gb249, 0, none⟩) (Kd.R_types HO_7.out BK249.out (by decide)) (fun _ hk => hk.2) (.int .i64 ((rd_T125 t244 x23_1).f0))) (fun _ hk => hk.2) (.int .i64 ((rd_T125 t244 x23_1).f1))) (fun _ hk => hk.2) (.string ((rd_T125 t244 x23_1).f2))) (fun _ hk => hk.1))); (case aS => exact (below_size (by repeat (first | (with_reducible first | exact HB.out | apply below_alloc | apply pw_below_drewN | apply below_drew1 | refine below_set ?_ GE249.out) | exact HB.out)))); (case aL => have := LMc10.out; omega); intro v251 w14 ho hb hg hat; rw [← Ny250.out] at ho; have n0_ := Aside0.mk (Kd.R_after (ok := (fun _ => True)) (by (with_reducible repeat (first | apply Kd.R_alloc | apply Kd.R_drewN | apply Kd.R_drew)); exact Kd.R_mono (Kd.R_far (p := ⟨gb249, 2, none⟩) (Kd.R_far (p := ⟨gb249, 1, none⟩) (Kd.R_far (p := ⟨gb249, 0, none⟩) (Kd.R_types HO_8.out BK249.out (by decide)) (fun _ hk => hk.2) (.int .i64 ((rd_T125 t244 x23_1).f0))) (fun _ hk => hk.2) (.int .i64 ((rd_T125 t244 x23_1).f1))) (fun _ hk => hk.2) (.string ((rd_T125 t244 x23_1).f2))) (fun _ hk => ⟨trivial, hk.1⟩)) hg hat); have n1_ := Aside0.mk (Kd.R_over' (by (with_reducible repeat (first | apply Kd.R_alloc | apply Kd.R_drewN | apply Kd.R_drew)); exact (Kd.R_mono (Kd.R_far (p := ⟨gb249, 2, none⟩) (Kd.R_far (p := ⟨gb249, 1, none⟩) (Kd.R_far (p := ⟨gb249, 0, none⟩) (Kd.R_mono HO_21.out (fun k_ hk => (⟨hk, hk.2⟩ : _ ∧ k_ ≠ gb249))) (fun _ hk => hk.2) (.int .i64 ((rd_T125 t244 x23_1).f0))) (fun _ hk => hk.2) (.int .i64 ((rd_T125 t244 x23_1).f1))) (fun _ hk => hk.2) (.string ((rd_T125 t244 x23_1).f2))) (fun _ h_ => h_.1))) (Kd.R_typed (by (with_reducible repeat (first | apply Kd.R_alloc | apply Kd.R_drewN | apply Kd.R_drew)); exact (Kd.R_mono (Kd.R_far (p := ⟨gb249, 2, none⟩) (Kd.R_far (p := ⟨gb249, 1, none⟩) (Kd.R_far (p := ⟨gb249, 0, none⟩) (Kd.R_types HO_7.out BK249.out (by decide)) (fun _ hk => hk.2) (.int .i64 ((rd_T125 t244 x23_1).f0))) (fun _ hk => hk.2) (.int .i64 ((rd_T125 t244 x23_1).f1))) (fun _ hk => hk.2) (.string ((rd_T125 t244 x23_1).f2))) (fun _ h_ => h_.1)))) (by decide) hg); have n2_ := Aside0.mk (blk_grown (g := gb249) (o := .cells #[.int .i64 ((rd_T125 t244 x23_1).f0), .int .i64 ((rd_T125 t244 x23_1).f1), .string ((rd_T125 t244 x23_1).f2)] 125 (0, 0)) (by (with_reducible repeat (first | refine blk_drewN ?_ _ | refine blk_drew ?_ | refine blk_alloc ?_ _)); refine blk_put (cs := #[.int .i64 ((rd_T125 t244 x23_1).f0), .int .i64 ((rd_T125 t244 x23_1).f1), .string (⟨#[]⟩ : ByteArray)]) ?_ 2 _ rfl; (with_reducible repeat (first | refine blk_drewN ?_ _ | refine blk_drew ?_ | refine blk_alloc ?_ _)); refine blk_put (cs := #[.int .i64 ((rd_T125 t244 x23_1).f0), .int .i64 0, .string (⟨#[]⟩ : ByteArray)]) ?_ 1 _ rfl; (with_reducible repeat (first | refine blk_drewN ?_ _ | refine blk_drew ?_ | refine blk_alloc ?_ _)); refine blk_put (cs := #[.int .i64 0, .int .i64 0, .string (⟨#[]⟩ : ByteArray)]) ?_ 0 _ rfl; (with_reducible repeat (first | refine blk_drewN ?_ _ | refine blk_drew ?_ | refine blk_alloc ?_ _)); exact BK249.out) hg (Kd.R_ne HO_7.out BK249.out (by decide))); have n3_ := Aside0.mk (hb); have n4_ := Aside0.mk (ho); clear HO_8; clear HO_21; clear BK249; clear HB; clear HO_7; have HO_8 := n0_; have HO_21 := n1_; have BK249 := n2_; have HB := n3_; have HO252 := n4_; clear n0_ n1_ n2_ n3_ n4_; clear ho hb hg hat; have hcz15_0 : w14.cell? ⟨gb249, 0, none⟩ = some (.int .i64 ((rd_T125 t244 x23_1).f0)) := (blk_cell BK249.out 0).trans rfl; have hcz15_1 : w14.cell? ⟨gb249, 1, none⟩ = some (.int .i64 ((rd_T125 t244 x23_1).f1)) := (blk_cell BK249.out 1).trans rfl; have hcz15_2 : w14.cell? ⟨gb249, 2, none⟩ = some (.string ((rd_T125 t244 x23_1).f2)) := (blk_cell BK249.out 2).trans rfl; have hfz15_0 := blk_frozen BK249.out 0; have hfz15_1 := blk_frozen BK249.out 1; have hfz15_2 := blk_frozen BK249.out 2) | ((with_reducible refine gate_builtin (b := .append) (xs := #[.tmp 35, .tmp 42]) rfl ?_); at_builtin; refine Kd.R_append (Kd.int .i64) (w0 := w) w.heap.size rfl (.tmp 35) (.tmp 42) 123 3 (.int .i64 0) 8 rfl Tryd.underlying123 info3 rfl (by decide) (by omega) u8 x8_1 (wrap64 (((rd_T125 t244 x23_1).f1) + (((rd_T125 t244 x23_1).f2).size : Int))) [.int .i64 (wrap64 (((rd_T125 t244 x23_1).f1) + (((rd_T125 t244 x23_1).f2).size : Int)))] (fun k_ => some k_ ≠ (v251 : Value).ownBlock) (fun _ => False) rfl rfl ?aP (fun _ hk => hk.elim) ?aF ?aO ?aB ?aS ?aL ?_; (case aP => exact rfl); (case aB => exact (by repeat (first | (with_reducible first | exact HB.out | apply below_alloc | apply pw_below_drewN | apply below_drew1 | refine below_set ?_ GE249.out) | exact HB.out))); (case aF => exact (fun k_ hk => Kd.fresh' (Kd.R_lt (by (with_reducible repeat (first | apply Kd.R_alloc | apply Kd.R_drewN | apply Kd.R_drew)); exact HO252.out)) k_ hk)); (case aO => exact (by (with_reducible repeat (first | apply Kd.R_alloc | apply Kd.R_drewN | apply Kd.R_drew)); exact Kd.R_mono HO_8.out (fun _ hk => hk.2))); (case aS => exact (below_size (by repeat (first | (with_reducible first | exact HB.out | apply below_alloc | apply pw_below_drewN | apply below_drew1 | refine below_set ?_ GE249.out) | exact HB.out)))); (case aL => have := LMc11.out; omega); intro v254 w16 ho hb hg hat; rw [← Ny253.out] at ho; have n0_ := Aside0.mk (Kd.R_over' (by (with_reducible repeat (first | apply Kd.R_alloc | apply Kd.R_drewN | apply Kd.R_drew)); exact HO_21.out) (Kd.R_typed (by (with_reducible repeat (first | apply Kd.R_alloc | apply Kd.R_drewN | apply Kd.R_drew)); exact HO_8.out)) (by decide) hg); have n1_ := Aside0.mk (blk_grown (g := gb249) (o := .cells #[.int .i64 ((rd_T125 t244 x23_1).f0), .int .i64 ((rd_T125 t244 x23_1).f1), .string ((rd_T125 t244 x23_1).f2)] 125 (0, 0)) (by (with_reducible repeat (first | refine blk_drewN ?_ _ | refine blk_drew ?_ | refine blk_alloc ?_ _)); exact BK249.out) hg (Kd.R_ne HO_8.out BK249.out (by decide))); have n2_ := Aside0.mk (Kd.R_after (ok := (fun _ => True)) (by (with_reducible repeat (first | apply Kd.R_alloc | apply Kd.R_drewN | apply Kd.R_drew)); exact Kd.R_mono HO252.out (fun _ hk => ⟨trivial, hk⟩)) hg hat); have n3_ := Aside0.mk (hb); have n4_ := Aside0.mk (ho); clear HO_21; clear BK249; clear HO252; clear HB; clear HO_8; have HO_21 := n0_; have BK249 := n1_; have HO252 := n2_; have HB := n3_; have HO255 := n4_; clear n0_ n1_ n2_ n3_ n4_; clear ho hb hg hat))
                    go_roundg k1
                    case measure => have := HK1.out; omega
                    case rel => exact ⟨(y250), (y253), (wrap64 (x23_1 + 1)), (by first | rfl | (simp; done) | (simp [*]; done)), H', ⟨by have := HK1.out; omega⟩, ⟨by (with_reducible repeat (first | apply Kd.R_alloc | apply Kd.R_drewN | apply Kd.R_drew)); exact Kd.R_mono HO252.out (fun _ hk => hk.2)⟩, ⟨by (with_reducible repeat (first | apply Kd.R_alloc | apply Kd.R_drewN | apply Kd.R_drew)); exact HO255.out⟩, ⟨by (with_reducible repeat (first | apply Kd.R_alloc | apply Kd.R_drewN | apply Kd.R_drew)); exact Kd.R_mono HO_21.out (fun _ hk => trivial)⟩, ⟨by repeat (first | (with_reducible first | exact HB.out | apply below_alloc | apply pw_below_drewN | apply below_drew1 | refine below_set ?_ GE249.out) | exact HB.out)⟩⟩
                  · rw [if_neg c11] at H
                    exact absurd H (by simp)
                · rw [if_neg c10] at H
                  exact absurd H (by simp)
              · rw [if_neg c9] at H
                have c9b0 : (((rd_T125 t244 x23_1).f0) == 1) = false := beq_eq_false_iff_ne.mpr c9
                have c9b1 : (((rd_T125 t244 x23_1).f0) != 1) = true := bne_iff_ne.mpr c9
                have H' := Aside0.mk H
                clear H
                have p248 : 0 ≤ (x23_1 : Int) := of_decide_eq_true (by first | (with_reducible assumption) | assumption)
                have q248 : x23_1 < (t244.length : Int) := of_decide_eq_true (by first | (with_reducible assumption) | assumption)
                obtain ⟨ad248, e248, hx248_0, hx248_1, hx248_2⟩ := at_T125 (Kd.R_reads' HO_21.out).2.2 x23_1 p248 q248
                cases e248
                replace p248 := eq_true p248
                replace q248 := eq_true q248
                go_wp2_with (first | ((with_reducible refine gate_dst (N := 10) rfl ?_); refine box_event ?hg (N := 10) ?hd (cs := #[.int .i64 0, .int .i64 0, .string (⟨#[]⟩ : ByteArray)]) (t := 125) ?hr ?_; (case hd => rfl); (case hg => rfl); (case hr => first | (go_simp; done) | (go_simp; rfl)); intro gb249 hg w17 hbox hb; have n0_ := Aside0.mk (Kd.R_below (by (with_reducible repeat (first | apply Kd.R_alloc | apply Kd.R_drewN | apply Kd.R_drew)); exact HO_7.out) hb); have n1_ := Aside0.mk (Kd.R_below (by (with_reducible repeat (first | apply Kd.R_alloc | apply Kd.R_drewN | apply Kd.R_drew)); exact HO_8.out) hb); have n2_ := Aside0.mk (Kd.R_below (Kd.R_elderB (by (with_reducible repeat (first | apply Kd.R_alloc | apply Kd.R_drewN | apply Kd.R_drew)); exact HO_21.out) gb249 (Nat.le_of_eq hg.symm)) hb); have n3_ := Aside0.mk (below_step (by repeat (first | (with_reducible first | exact HB.out | apply below_alloc | apply pw_below_drewN | apply below_drew1) | exact HB.out)) hb); have n4_ := Aside0.mk (hbox); have n5_ := Aside0.mk ((by rw [hg]; exact (below_size (by repeat (first | (with_reducible first | exact HB.out | apply below_alloc | apply pw_below_drewN | apply below_drew1) | exact HB.out))) : w.heap.size ≤ gb249)); have n6_ := Aside0.mk ((by rw [hg]; exact (below_size (by repeat (first | (with_reducible first | exact HB.out | apply below_alloc | apply pw_below_drewN | apply below_drew1) | exact HB.out))) : w.heap.size ≤ gb249)); clear HO_7; clear HO_8; clear HO_21; clear HB; have HO_7 := n0_; have HO_8 := n1_; have HO_21 := n2_; have HB := n3_; have BK249 := n4_; have GW249 := n5_; have GE249 := n6_; clear n0_ n1_ n2_ n3_ n4_ n5_ n6_; clear hb hbox hg; have hcz18_0 : w17.cell? ⟨gb249, 0, none⟩ = some (.int .i64 0) := (blk_cell BK249.out 0).trans rfl; have hcz18_1 : w17.cell? ⟨gb249, 1, none⟩ = some (.int .i64 0) := (blk_cell BK249.out 1).trans rfl; have hcz18_2 : w17.cell? ⟨gb249, 2, none⟩ = some (.string (⟨#[]⟩ : ByteArray)) := (blk_cell BK249.out 2).trans rfl; have hfz18_0 := blk_frozen BK249.out 0; have hfz18_1 := blk_frozen BK249.out 1; have hfz18_2 := blk_frozen BK249.out 2))
                go_roundg k1
                case measure => have := HK1.out; omega
                case rel => exact ⟨(x7_1), (x8_1), (wrap64 (x23_1 + 1)), (by first | rfl | (simp; done) | (simp [*]; done)), H', ⟨by have := HK1.out; omega⟩, ⟨by (with_reducible repeat (first | apply Kd.R_alloc | apply Kd.R_drewN | apply Kd.R_drew)); exact Kd.R_mono (Kd.R_far (p := ⟨gb249, 2, none⟩) (Kd.R_far (p := ⟨gb249, 1, none⟩) (Kd.R_far (p := ⟨gb249, 0, none⟩) (Kd.R_types HO_7.out BK249.out (by decide)) (fun _ hk => hk.2) (.int .i64 ((rd_T125 t244 x23_1).f0))) (fun _ hk => hk.2) (.int .i64 ((rd_T125 t244 x23_1).f1))) (fun _ hk => hk.2) (.string ((rd_T125 t244 x23_1).f2))) (fun _ hk => hk.1)⟩, ⟨by (with_reducible repeat (first | apply Kd.R_alloc | apply Kd.R_drewN | apply Kd.R_drew)); exact Kd.R_mono (Kd.R_far (p := ⟨gb249, 2, none⟩) (Kd.R_far (p := ⟨gb249, 1, none⟩) (Kd.R_far (p := ⟨gb249, 0, none⟩) (Kd.R_types HO_8.out BK249.out (by decide)) (fun _ hk => hk.2) (.int .i64 ((rd_T125 t244 x23_1).f0))) (fun _ hk => hk.2) (.int .i64 ((rd_T125 t244 x23_1).f1))) (fun _ hk => hk.2) (.string ((rd_T125 t244 x23_1).f2))) (fun _ hk => hk.1)⟩, ⟨by (with_reducible repeat (first | apply Kd.R_alloc | apply Kd.R_drewN | apply Kd.R_drew)); exact Kd.R_mono (Kd.R_far (p := ⟨gb249, 2, none⟩) (Kd.R_far (p := ⟨gb249, 1, none⟩) (Kd.R_far (p := ⟨gb249, 0, none⟩) (Kd.R_mono HO_21.out (fun k_ hk => (⟨hk, hk.2⟩ : _ ∧ k_ ≠ gb249))) (fun _ hk => hk.2) (.int .i64 ((rd_T125 t244 x23_1).f0))) (fun _ hk => hk.2) (.int .i64 ((rd_T125 t244 x23_1).f1))) (fun _ hk => hk.2) (.string ((rd_T125 t244 x23_1).f2))) (fun _ hk => trivial)⟩, ⟨by repeat (first | (with_reducible first | exact HB.out | apply below_alloc | apply pw_below_drewN | apply below_drew1 | refine below_set ?_ GE249.out) | exact HB.out)⟩⟩
            · rw [if_neg c8] at H
              exact absurd H (by simp)
          · rw [if_neg c7] at H
            exact absurd H (by simp)
        · rw [if_neg c6] at H
          have c6b0 : decide (x23_1 < (t244.length : Int)) = false := decide_eq_false c6
          clear c6
          by_cases c19 : (x7_1.length : Int) > 1024
          · rw [if_pos c19] at H
            have c19b0 : decide (1024 < (x7_1.length : Int)) = true := decide_eq_true c19
            have c19b1 : decide (1024 < x7_1.length) = true := decide_eq_true (by omega)
            clear c19
            simp only [Option.some.injEq, Prod.mk.injEq] at H
            obtain ⟨rfl, rfl, rfl⟩ := H
            obtain ⟨Ao20, co20, eo20⟩ := Kd.R_slice HO_7.out
            subst eo20
            go_wp2
            go_ret3
            exact ⟨_, by first | rfl | (simp [errW_none, errW_some] <;> rfl) | (simp [*, errW_none, errW_some] <;> rfl), by first | exact Kd.R_nil _ _ _ _ _ | exact Kd.N_nil _ _ _ _ _ | exact Kd.V_nil _ _ _ _ _ | exact Kd.Q_nil _ _ _ _ _ | exact Kd.S_nil _ _ _ _ _, by repeat (first | (with_reducible first | exact HB.out | apply below_alloc | apply pw_below_drewN | apply below_drew1) | exact HB.out)⟩
          · rw [if_neg c19] at H
            have c19b0 : decide (1024 < (x7_1.length : Int)) = false := decide_eq_false c19
            have c19b1 : decide (1024 < x7_1.length) = false := decide_eq_false (by omega)
            clear c19
            by_cases c21 : x7_1.length < 17592186044416
            · rw [if_pos c21] at H
              have LMc21 := Aside0.mk c21
              clear c21
              obtain ⟨y256, hy256⟩ : ∃ y_ : List Int, y_ = (x7_1 ++ [(a0.size : Int)]) := ⟨_, rfl⟩
              replace H : (if 0 ≤ (x8_1.length : Int) then (if ((x8_1.length : Int) : Int).toNat ≤ 8796093022208 then ((some (List.replicate ((x8_1.length : Int) : Int).toNat z87 : List (S87))).bind fun y259 => (split_Words.l1 k1 a0 y256 x8_1 y259 (y259.length : Int) 0)) else (none)) else (none)) = some (r1, r2, r3) := by first | (rw [hy256]; with_reducible exact H) | (have H2_ := (Option.bind_some _ _).symm.trans H; rw [hy256]; with_reducible exact H2_) | (have H2_ := (Option.bind_some _ _).symm.trans H; with_reducible exact H2_) | with_reducible exact H | (rw [hy256]; exact H) | exact H
              have Ny256 := Aside0.mk hy256
              clear hy256
              by_cases c22 : 0 ≤ (x8_1.length : Int)
              · rw [if_pos c22] at H
                have c22b0 := eq_true c22
                have c22b1 : decide (0 ≤ (x8_1.length : Int)) = true := decide_eq_true c22
                clear c22
                by_cases c23 : ((x8_1.length : Int) : Int).toNat ≤ 8796093022208
                · rw [if_pos c23] at H
                  have c23b0 := eq_true c23
                  have c23b1 : decide (((x8_1.length : Int) : Int).toNat ≤ 8796093022208) = true := decide_eq_true c23
                  clear c23
                  obtain ⟨y259, hy259⟩ : ∃ y_ : List (S87), y_ = (List.replicate ((x8_1.length : Int) : Int).toNat z87) := ⟨_, rfl⟩
                  replace H : (split_Words.l1 k1 a0 y256 x8_1 y259 (y259.length : Int) 0) = some (r1, r2, r3) := by first | (rw [hy259]; with_reducible exact H) | (have H2_ := (Option.bind_some _ _).symm.trans H; rw [hy259]; with_reducible exact H2_) | (have H2_ := (Option.bind_some _ _).symm.trans H; with_reducible exact H2_) | with_reducible exact H | (rw [hy259]; exact H) | exact H
                  have Ny259 := Aside0.mk hy259
                  clear hy259
                  have H' := Aside0.mk H
                  clear H
                  obtain ⟨Ao24, co24, eo24⟩ := Kd.R_slice HO_7.out
                  subst eo24
                  go_wp2_with (first | ((with_reducible refine gate_builtin (b := .append) (xs := #[.tmp 48, .tmp 51]) rfl ?_); at_builtin; refine Kd.R_append (Kd.int .i64) (w0 := w) w.heap.size rfl (.tmp 48) (.tmp 51) 123 3 (.int .i64 0) 8 rfl Tryd.underlying123 info3 rfl (by decide) (by omega) (.slice Ao24 x7_1.length co24) x7_1 (a0.size : Int) [.int .i64 (a0.size : Int)] (fun k_ => some k_ ≠ (u8 : Value).ownBlock) (fun _ => False) rfl rfl ?aP (fun _ hk => hk.elim) ?aF ?aO ?aB ?aS ?aL ?_; (case aP => exact rfl); (case aB => exact (by repeat (first | (with_reducible first | exact HB.out | apply below_alloc | apply pw_below_drewN | apply below_drew1) | exact HB.out))); (case aF => exact (fun k_ hk => Kd.fresh' (Kd.R_lt (by (with_reducible repeat (first | apply Kd.R_alloc | apply Kd.R_drewN | apply Kd.R_drew)); exact HO_8.out)) k_ hk)); (case aO => exact (by (with_reducible repeat (first | apply Kd.R_alloc | apply Kd.R_drewN | apply Kd.R_drew)); exact HO_7.out)); (case aS => exact (below_size (by repeat (first | (with_reducible first | exact HB.out | apply below_alloc | apply pw_below_drewN | apply below_drew1) | exact HB.out)))); (case aL => have := LMc21.out; omega); intro v257 w25 ho hb hg hat; rw [← Ny256.out] at ho; have n0_ := Aside0.mk (Kd.R_after (ok := (fun _ => True)) (by (with_reducible repeat (first | apply Kd.R_alloc | apply Kd.R_drewN | apply Kd.R_drew)); exact Kd.R_mono HO_8.out (fun _ hk => ⟨trivial, hk⟩)) hg hat); have n1_ := Aside0.mk (Kd.R_over' (by (with_reducible repeat (first | apply Kd.R_alloc | apply Kd.R_drewN | apply Kd.R_drew)); exact HO_21.out) (Kd.R_typed (by (with_reducible repeat (first | apply Kd.R_alloc | apply Kd.R_drewN | apply Kd.R_drew)); exact HO_7.out)) (by decide) hg); have n2_ := Aside0.mk (hb); have n3_ := Aside0.mk (ho); clear HO_8; clear HO_21; clear HB; clear HO_7; have HO_8 := n0_; have HO_21 := n1_; have HB := n2_; have HO258 := n3_; clear n0_ n1_ n2_ n3_; clear ho hb hg hat; obtain ⟨Ao26, co26, eo26⟩ := Kd.R_slice HO_8.out; subst eo26) | ((with_reducible refine gate_dst (N := 55) rfl ?_); refine Kd.R_make k87 _ 87 rfl (N := 55) rfl 37 _ _ rfl (x8_1.length : Int) rfl rfl Tryd.underlying37 (.agg #[(.string ⟨#[]⟩), (.string ⟨#[]⟩)]) 32 info87 rfl (by decide) (by omega) z87 (ok := fun _ => True) (okp := fun _ => True) (k87_mkM _ _ _ z87 ) (fun _ hk => hk) trivial (of_decide_eq_true (by first | (with_reducible assumption) | assumption)) (Nat.le_trans (Nat.mul_le_mul_right _ (of_decide_eq_true (by first | (with_reducible assumption) | assumption) : (x8_1.length : Int).toNat ≤ 8796093022208)) (by omega)) (Below.refl _ _) (Nat.le_refl _) ?_; intro v260 w27 ho28 hb hg_ hnew_; clear hg_ hnew_; (first | rw [← Ny259.out] at ho28 | (simp only [Int.reduceToNat] at ho28; rw [← Ny259.out] at ho28)); have n0_ := Aside0.mk (Kd.R_below (by (with_reducible repeat (first | apply Kd.R_alloc | apply Kd.R_drewN | apply Kd.R_drew)); exact HO_8.out) hb); have n1_ := Aside0.mk (Kd.R_below (by (with_reducible repeat (first | apply Kd.R_alloc | apply Kd.R_drewN | apply Kd.R_drew)); exact HO_21.out) hb); have n2_ := Aside0.mk (Kd.R_below (by (with_reducible repeat (first | apply Kd.R_alloc | apply Kd.R_drewN | apply Kd.R_drew)); exact HO258.out) hb); have n3_ := Aside0.mk (Kd.R_lower ho28 (below_size (by repeat (first | (with_reducible first | exact HB.out | apply below_alloc | apply pw_below_drewN | apply below_drew1) | exact HB.out)))); have n4_ := Aside0.mk (below_step (by repeat (first | (with_reducible first | exact HB.out | apply below_alloc | apply pw_below_drewN | apply below_drew1) | exact HB.out)) hb); clear HO_8; clear HO_21; clear HO258; clear HB; have HO_8 := n0_; have HO_21 := n1_; have HO258 := n2_; have HO261 := n3_; have HB := n4_; clear n0_ n1_ n2_ n3_ n4_; clear hb ho28; obtain ⟨Ao29, co29, eo29⟩ := Kd.R_slice HO261.out; subst eo29))
                  go_loopg [58] k1 (fun kq v58 w' => ∃ (x11_2 : List (S87)) (x58_2 : Int), v58 = .int .i64 x58_2 ∧ Aside0 (split_Words.l1 kq a0 y256 x8_1 x11_2 (y259.length : Int) x58_2 = some (r1, r2, r3)) ∧ Aside0 (kq ≤ k1) ∧ Aside0 (Kd.R (Kd.int .i64) 3 w' w.heap.size (fun k_ => some k_ ≠ ((.slice Ao26 x8_1.length co26) : Value).ownBlock) v257 y256) ∧ Aside0 (Kd.R (Kd.int .i64) 3 w' w.heap.size (fun k_ => some k_ ≠ (v257 : Value).ownBlock) (.slice Ao26 x8_1.length co26) x8_1) ∧ Aside0 (Kd.R k87 87 w' w.heap.size (fun _ => True) (.slice Ao29 y259.length co29) x11_2) ∧ Aside0 (Below w.heap.size w w'))
                  case atStart => exact ⟨(y259), (0), (by first | rfl | (simp; done) | (simp [*]; done)), H', ⟨Nat.le_refl _⟩, ⟨by (with_reducible repeat (first | apply Kd.R_alloc | apply Kd.R_drewN | apply Kd.R_drew)); exact HO258.out⟩, ⟨by (with_reducible repeat (first | apply Kd.R_alloc | apply Kd.R_drewN | apply Kd.R_drew)); exact Kd.R_mono HO_8.out (fun _ hk => hk.2)⟩, ⟨by (with_reducible repeat (first | apply Kd.R_alloc | apply Kd.R_drewN | apply Kd.R_drew)); exact HO261.out⟩, ⟨by repeat (first | (with_reducible first | exact HB.out | apply below_alloc | apply pw_below_drewN | apply below_drew1) | exact HB.out)⟩⟩
                  case round =>
                    clear H'
                    try clear c1
                    try clear c2
                    try clear p2
                    try clear q2
                    try clear hx2
                    try clear c3
                    try clear c3b0
                    try clear c3b1
                    try clear c5
                    try clear c6
                    try clear c6b0
                    try clear p6
                    try clear c7
                    try clear c7b0
                    try clear c8
                    try clear c8b0
                    try clear c9
                    try clear c9b0
                    try clear c9b1
                    try clear c10
                    try clear c11
                    try clear c19
                    try clear c19b0
                    try clear c19b1
                    try clear c21
                    try clear c22
                    try clear c22b0
                    try clear c22b1
                    try clear c23
                    try clear c23b0
                    try clear c23b1
                    try clear p24
                    try clear q24
                    try clear hx24
                    try clear hcz13_0
                    try clear hcz13_1
                    try clear hcz13_2
                    try clear hcz15_0
                    try clear hcz15_1
                    try clear hcz15_2
                    try clear hcz18_0
                    try clear hcz18_1
                    try clear hcz18_2
                    try clear hfz13_0
                    try clear hfz13_1
                    try clear hfz13_2
                    try clear hfz15_0
                    try clear hfz15_1
                    try clear hfz15_2
                    try clear hfz18_0
                    try clear hfz18_1
                    try clear hfz18_2
                    try clear hx248_0
                    try clear hx248_1
                    try clear hx248_2
                    try clear p2
                    try clear p248
                    try clear q248
                    obtain ⟨x11_2, x58_2, rfl, HA, HK2, HO_7, HO_8, HO_11, HB⟩ := hrel
                    have hl11_2 := (Kd.R_reads' HO_11.out).1
                    rw [hl11_2] at HO_11
                    (try simp only [hl11_2])
                    (try simp only [hl11_2] at HO_7)
                    (try simp only [hl11_2] at HO_8)
                    cases gk with
                    | zero => exact absurd HA.out (by simp [split_Words.l1])
                    | succ k2 =>
                      have H := HA.out
                      clear HA
                      simp only [split_Words.l1] at H
                      by_cases c30 : x58_2 < (y259.length : Int)
                      · rw [if_pos c30] at H
                        have c30b0 : decide (x58_2 < (y259.length : Int)) = true := decide_eq_true c30
                        clear c30
                        by_cases c31 : 0 ≤ x58_2
                        · rw [if_pos c31] at H
                          have c31b0 : decide (0 ≤ x58_2) = true := decide_eq_true c31
                          clear c31
                          by_cases c32 : x58_2 < (y256.length : Int)
                          · rw [if_pos c32] at H
                            have c32b0 : decide (x58_2 < (y256.length : Int)) = true := decide_eq_true c32
                            clear c32
                            by_cases c33 : x58_2 < (x8_1.length : Int)
                            · rw [if_pos c33] at H
                              have c33b0 : decide (x58_2 < (x8_1.length : Int)) = true := decide_eq_true c33
                              clear c33
                              by_cases c34 : 0 ≤ (rd y256 x58_2)
                              · rw [if_pos c34] at H
                                have c34b0 := eq_true c34
                                have c34b1 : decide (0 ≤ (rd y256 x58_2)) = true := decide_eq_true c34
                                clear c34
                                by_cases c35 : (rd y256 x58_2) ≤ (rd x8_1 x58_2)
                                · rw [if_pos c35] at H
                                  have c35b0 := eq_true c35
                                  have c35b1 : decide ((rd y256 x58_2) ≤ (rd x8_1 x58_2)) = true := decide_eq_true c35
                                  clear c35
                                  by_cases c36 : (rd x8_1 x58_2) ≤ (a0.size : Int)
                                  · rw [if_pos c36] at H
                                    have c36b0 := eq_true c36
                                    have c36b1 : decide ((rd x8_1 x58_2) ≤ (a0.size : Int)) = true := decide_eq_true c36
                                    clear c36
                                    obtain ⟨ji37, hji37⟩ : ∃ j_ : Int, (wrap64 (x58_2 + 1)) = j_ := ⟨_, rfl⟩
                                    replace H : (if 0 ≤ (ji37) then (if (ji37) < (y256.length : Int) then (if 0 ≤ (rd x8_1 x58_2) then (if (rd x8_1 x58_2) ≤ (rd y256 (ji37)) then (if (rd y256 (ji37)) ≤ (a0.size : Int) then (if x58_2 < (x11_2.length : Int) then (split_Words.l1 k2 a0 y256 x8_1 (x11_2.set (x58_2 : Int).toNat (⟨a0.extract ((rd y256 x58_2) : Int).toNat ((rd x8_1 x58_2) : Int).toNat, a0.extract ((rd x8_1 x58_2) : Int).toNat ((rd y256 (ji37)) : Int).toNat⟩ : S87)) (y259.length : Int) ji37) else (none)) else (none)) else (none)) else (none)) else (none)) else (none)) = some (r1, r2, r3) := by first | (rw [hji37] at H; exact H) | (simp only [hji37] at H ⊢; exact H)
                                    have hji37w : (IntKind.i64.wrap (x58_2 + 1)) = ji37 := (i64_w _).trans hji37
                                    by_cases c38 : 0 ≤ (ji37)
                                    · rw [if_pos c38] at H
                                      have c38b0 : decide (0 ≤ (ji37)) = true := decide_eq_true c38
                                      clear c38
                                      by_cases c39 : (ji37) < (y256.length : Int)
                                      · rw [if_pos c39] at H
                                        have c39b0 : decide ((ji37) < (y256.length : Int)) = true := decide_eq_true c39
                                        clear c39
                                        by_cases c40 : 0 ≤ (rd x8_1 x58_2)
                                        · rw [if_pos c40] at H
                                          have c40b0 := eq_true c40
                                          have c40b1 : decide (0 ≤ (rd x8_1 x58_2)) = true := decide_eq_true c40
                                          clear c40
                                          by_cases c41 : (rd x8_1 x58_2) ≤ (rd y256 (ji37))
                                          · rw [if_pos c41] at H
                                            have c41b0 := eq_true c41
                                            have c41b1 : decide ((rd x8_1 x58_2) ≤ (rd y256 (ji37))) = true := decide_eq_true c41
                                            clear c41
                                            by_cases c42 : (rd y256 (ji37)) ≤ (a0.size : Int)
                                            · rw [if_pos c42] at H
                                              have c42b0 := eq_true c42
                                              have c42b1 : decide ((rd y256 (ji37)) ≤ (a0.size : Int)) = true := decide_eq_true c42
                                              clear c42
                                              by_cases c43 : x58_2 < (x11_2.length : Int)
                                              · rw [if_pos c43] at H
                                                have c43b0 : decide (x58_2 < (x11_2.length : Int)) = true := decide_eq_true c43
                                                clear c43
                                                obtain ⟨y266, hy266⟩ : ∃ y_ : List (S87), y_ = (x11_2.set (x58_2 : Int).toNat (⟨a0.extract ((rd y256 x58_2) : Int).toNat ((rd x8_1 x58_2) : Int).toNat, a0.extract ((rd x8_1 x58_2) : Int).toNat ((rd y256 (ji37)) : Int).toNat⟩ : S87)) := ⟨_, rfl⟩
                                                replace H : (split_Words.l1 k2 a0 y256 x8_1 y266 (y259.length : Int) ji37) = some (r1, r2, r3) := by first | (rw [hy266]; with_reducible exact H) | (have H2_ := (Option.bind_some _ _).symm.trans H; rw [hy266]; with_reducible exact H2_) | (have H2_ := (Option.bind_some _ _).symm.trans H; with_reducible exact H2_) | with_reducible exact H | (rw [hy266]; exact H) | exact H
                                                have Ny266 := Aside0.mk hy266
                                                clear hy266
                                                have H' := Aside0.mk H
                                                clear H
                                                try go_wp2
                                                have n0_ := Aside0.mk (Kd.R_drew HO_7.out)
                                                have n1_ := Aside0.mk (Kd.R_drew HO_8.out)
                                                have n2_ := Aside0.mk (Kd.R_drew HO_11.out)
                                                have n3_ := Aside0.mk (below_drew1 HB.out)
                                                clear HO_7
                                                clear HO_8
                                                clear HO_11
                                                clear HB
                                                have HO_7 := n0_
                                                have HO_8 := n1_
                                                have HO_11 := n2_
                                                have HB := n3_
                                                clear n0_ n1_ n2_ n3_
                                                obtain ⟨Ao46, co46, eo46⟩ := Kd.R_slice HO_7.out
                                                (first | subst eo46 | (injection eo46 with f1_ f2_ f3_; have f4_ := f1_.symm; have f5_ := f3_.symm; clear f1_ f2_ f3_; subst f4_; subst f5_))
                                                have p262 : 0 ≤ (x58_2 : Int) := of_decide_eq_true (by first | (with_reducible assumption) | assumption)
                                                have q262 : x58_2 < (y256.length : Int) := of_decide_eq_true (by first | (with_reducible assumption) | assumption)
                                                obtain ⟨ad262, e262, hx262_0⟩ := Kd.at_int (Kd.R_reads' HO_7.out).2.2 x58_2 p262 q262
                                                cases e262
                                                replace p262 := eq_true p262
                                                replace q262 := eq_true q262
                                                have p263 : 0 ≤ (x58_2 : Int) := of_decide_eq_true (by first | (with_reducible assumption) | assumption)
                                                have q263 : x58_2 < (x8_1.length : Int) := of_decide_eq_true (by first | (with_reducible assumption) | assumption)
                                                obtain ⟨ad263, e263, hx263_0⟩ := Kd.at_int (Kd.R_reads' HO_8.out).2.2 x58_2 p263 q263
                                                cases e263
                                                replace p263 := eq_true p263
                                                replace q263 := eq_true q263
                                                have p264 : 0 ≤ (x58_2 : Int) := of_decide_eq_true (by first | (with_reducible assumption) | assumption)
                                                have q264 : x58_2 < (x8_1.length : Int) := of_decide_eq_true (by first | (with_reducible assumption) | assumption)
                                                obtain ⟨ad264, e264, hx264_0⟩ := Kd.at_int (Kd.R_reads' HO_8.out).2.2 x58_2 p264 q264
                                                obtain rfl : ad263 = ad264 := (by injection e264)
                                                replace p264 := eq_true p264
                                                replace q264 := eq_true q264
                                                have p265 : 0 ≤ ((ji37) : Int) := of_decide_eq_true (by first | (with_reducible assumption) | assumption)
                                                have q265 : (ji37) < (y256.length : Int) := of_decide_eq_true (by first | (with_reducible assumption) | assumption)
                                                obtain ⟨ad265, e265, hx265_0⟩ := Kd.at_int (Kd.R_reads' HO_7.out).2.2 (ji37) p265 q265
                                                obtain rfl : ad262 = ad265 := (by injection e265)
                                                replace p265 := eq_true p265
                                                replace q265 := eq_true q265
                                                have p44 : 0 ≤ (x58_2 : Int) := of_decide_eq_true (by first | (with_reducible assumption) | assumption)
                                                have q44 : (x58_2 : Int) < ((x11_2.length : Int) : Int) := of_decide_eq_true (by first | (with_reducible assumption) | assumption)
                                                obtain ⟨go44, co44, eo44, gb44, gl44, cl44, HG44⟩ := Kd.R_form HO_11.out (by omega)
                                                (first | cases eo44 | (injection eo44 with ea_ en_ ec_; (first | subst ea_ | (injection ea_ with ea_; subst ea_)); subst ec_; clear en_))
                                                have GB44 := Aside0.mk gb44
                                                have GG44 := Aside0.mk HG44
                                                clear gb44 gl44 HG44
                                                obtain ⟨ce44, hcl44, hM44, hcc44, hfr44⟩ := Kd.R_elem HO_11.out z87 (x58_2 : Int) p44 q44
                                                obtain rfl := k87_openM hM44
                                                have hx44_0 : World.cell? _ ⟨go44, (x58_2 : Int).toNat * 2, none⟩ = some (.string ((rd_T87 x11_2 x58_2).f0)) := hcc44 0 _ rfl
                                                have hx44_1 : World.cell? _ ⟨go44, (x58_2 : Int).toNat * 2 + 1, none⟩ = some (.string ((rd_T87 x11_2 x58_2).f1)) := hcc44 1 _ rfl
                                                have hf44_0 : World.frozen? _ ⟨go44, (x58_2 : Int).toNat * 2, none⟩ = false := hfr44 0
                                                have hf44_1 : World.frozen? _ ⟨go44, (x58_2 : Int).toNat * 2 + 1, none⟩ = false := hfr44 1
                                                clear hcl44 hcc44 hfr44 hM44
                                                replace p44 := eq_true p44
                                                replace q44 := eq_true q44
                                                obtain ⟨ce47, hcl47, hM47, hcc47, hfr47⟩ := Kd.R_elem HO_11.out z87 (x58_2 : Int) (of_decide_eq_true (by first | (with_reducible assumption) | assumption)) (by have h_ : (x58_2 : Int) < ((x11_2.length : Int) : Int) := of_decide_eq_true (by first | (with_reducible assumption) | assumption); first | exact h_ | (have e_ := (Kd.R_reads' HO_11.out).1; omega) | simpa using h_)
                                                obtain rfl := k87_openM hM47
                                                have HP47 := (Kd.R_seg HO_11.out (x58_2 : Int) (of_decide_eq_true (by first | (with_reducible assumption) | assumption)) (by have h_ : (x58_2 : Int) < ((x11_2.length : Int) : Int) := of_decide_eq_true (by first | (with_reducible assumption) | assumption); first | exact h_ | (have e_ := (Kd.R_reads' HO_11.out).1; omega) | simpa using h_) (seg := [.string (a0.extract ((rd y256 x58_2) : Int).toNat ((rd x8_1 x58_2) : Int).toNat), .string (a0.extract ((rd x8_1 x58_2) : Int).toNat ((rd y256 (ji37)) : Int).toNat)]) (j := 0) hcl47 hcc47 (show 2 ≤ 2 from by decide) (x' := (⟨a0.extract ((rd y256 x58_2) : Int).toNat ((rd x8_1 x58_2) : Int).toNat, a0.extract ((rd x8_1 x58_2) : Int).toNat ((rd y256 (ji37)) : Int).toNat⟩ : S87)) (k87_mkM _ _ _ (⟨a0.extract ((rd y256 x58_2) : Int).toNat ((rd x8_1 x58_2) : Int).toNat, a0.extract ((rd x8_1 x58_2) : Int).toNat ((rd y256 (ji37)) : Int).toNat⟩ : S87) ) (fun _ hk => hk)).1
                                                rw [← Ny266.out] at HP47
                                                have HQ47 := Aside0.mk HP47
                                                clear hcl47 hcc47 hfr47 hM47 HP47
                                                refine start_ (n := 26) (S := fun w' => w'.cell? (ad262.add (x58_2).toNat) = some (.int .i64 (rd y256 x58_2)) ∧ w'.cell? (ad263.add (x58_2).toNat) = some (.int .i64 (rd x8_1 x58_2)) ∧ w'.cell? (ad263.add (x58_2).toNat) = some (.int .i64 (rd x8_1 x58_2)) ∧ w'.cell? (ad262.add ((ji37)).toNat) = some (.int .i64 (rd y256 (ji37)))) (ds := [25]) #[false, false, false, false, false, false, false, false, false, false, false, false, false, false, false, false, false, false, false, false, false, false, false, false, false, false] (by kernel_rfl) rfl rfl ⟨hx262_0, hx263_0, hx264_0, hx265_0⟩ (fun hHeld => ?_); refine with_tabW split_Words.tab20 split_Words.bits20 (fun HT_ HW_ => ?_)
                                                generalize wr.drew = w45 at HO_7 HO_8 HO_11 HB GG44 HQ47 hf44_0 hf44_1 hx262_0 hx263_0 hx264_0 hx265_0 hx44_0 hx44_1 hHeld ⊢
                                                refine pure_ (i := 0) (N := some 61) (v := ?_) (a' := ?_) #[true, false, false, false, false, false, false, false, false, false, false, false, false, false, false, false, false, false, false, false, false, false, false, false, false, false] rfl rfl (any_of HT_.out (by kernel_rfl)) (fun _ _ _ h => h) (Or.inl ⟨by rfl, ?_⟩) ?_ ?_
                                                rotate_left
                                                · intro w'
                                                  go_simp
                                                  with_reducible rfl
                                                rotate_left
                                                · simp only [Act.put, List.setIfInBounds_toArray, List.set_cons_zero, List.set_cons_succ, i64_w, i32_w]
                                                  rfl
                                                refine pure_ (i := 1) (N := some 62) (v := ?_) (a' := ?_) #[true, true, false, false, false, false, false, false, false, false, false, false, false, false, false, false, false, false, false, false, false, false, false, false, false, false] rfl rfl (any_of HT_.out (by kernel_rfl)) (fun _ _ _ h => h) (Or.inl ⟨by rfl, ?_⟩) ?_ ?_
                                                rotate_left
                                                · intro w'
                                                  go_simp
                                                  with_reducible rfl
                                                rotate_left
                                                · simp only [Act.put, List.setIfInBounds_toArray, List.set_cons_zero, List.set_cons_succ, i64_w, i32_w]
                                                  rfl
                                                refine pure_ (i := 2) (N := some 63) (v := ?_) (a' := ?_) #[true, true, true, false, false, false, false, false, false, false, false, false, false, false, false, false, false, false, false, false, false, false, false, false, false, false] rfl rfl (any_of HT_.out (by kernel_rfl)) (fun _ _ _ h => h) (Or.inl ⟨by rfl, ?_⟩) ?_ ?_
                                                rotate_left
                                                · intro w'
                                                  go_simp
                                                  with_reducible rfl
                                                rotate_left
                                                · simp only [Act.put, List.setIfInBounds_toArray, List.set_cons_zero, List.set_cons_succ, i64_w, i32_w]
                                                  rfl
                                                refine pure_ (i := 3) (N := some 64) (v := ?_) (a' := ?_) #[true, true, true, true, false, false, false, false, false, false, false, false, false, false, false, false, false, false, false, false, false, false, false, false, false, false] rfl rfl (any_of HT_.out (by kernel_rfl)) (fun _ _ _ h => h) (Or.inl ⟨by rfl, ?_⟩) ?_ ?_
                                                rotate_left
                                                · intro w'
                                                  go_simp
                                                  with_reducible rfl
                                                rotate_left
                                                · simp only [Act.put, List.setIfInBounds_toArray, List.set_cons_zero, List.set_cons_succ, i64_w, i32_w]
                                                  rfl
                                                refine pure_ (i := 4) (N := some 65) (v := ?_) (a' := ?_) #[true, true, true, true, true, false, false, false, false, false, false, false, false, false, false, false, false, false, false, false, false, false, false, false, false, false] rfl rfl (any_of HT_.out (by kernel_rfl)) (fun _ _ _ h => h) (Or.inl ⟨by rfl, ?_⟩) ?_ ?_
                                                rotate_left
                                                · intro w'
                                                  go_simp
                                                  with_reducible rfl
                                                rotate_left
                                                · simp only [Act.put, List.setIfInBounds_toArray, List.set_cons_zero, List.set_cons_succ, i64_w, i32_w]
                                                  rfl
                                                refine pure_ (i := 5) (N := some 66) (v := ?_) (a' := ?_) #[true, true, true, true, true, true, false, false, false, false, false, false, false, false, false, false, false, false, false, false, false, false, false, false, false, false] rfl rfl (any_of HT_.out (by kernel_rfl)) (fun _ _ _ h => h) (Or.inl ⟨by rfl, ?_⟩) ?_ ?_
                                                rotate_left
                                                · intro w'
                                                  go_simp
                                                  with_reducible rfl
                                                rotate_left
                                                · simp only [Act.put, List.setIfInBounds_toArray, List.set_cons_zero, List.set_cons_succ, i64_w, i32_w]
                                                  rfl
                                                refine pure_ (i := 7) (N := some 68) (v := ?_) (a' := ?_) #[true, true, true, true, true, true, false, true, false, false, false, false, false, false, false, false, false, false, false, false, false, false, false, false, false, false] rfl rfl (any_of HT_.out (by kernel_rfl)) (fun _ _ _ h => h) (Or.inl ⟨by rfl, ?_⟩) ?_ ?_
                                                rotate_left
                                                · intro w'
                                                  go_simp
                                                  with_reducible rfl
                                                rotate_left
                                                · simp only [Act.put, List.setIfInBounds_toArray, List.set_cons_zero, List.set_cons_succ, i64_w, i32_w]
                                                  rfl
                                                refine pure_ (i := 8) (N := some 69) (v := ?_) (a' := ?_) #[true, true, true, true, true, true, false, true, true, false, false, false, false, false, false, false, false, false, false, false, false, false, false, false, false, false] rfl rfl (any_of HT_.out (by kernel_rfl)) (fun _ _ _ h => h) (Or.inl ⟨by rfl, ?_⟩) ?_ ?_
                                                rotate_left
                                                · intro w'
                                                  go_simp
                                                  with_reducible rfl
                                                rotate_left
                                                · simp only [Act.put, List.setIfInBounds_toArray, List.set_cons_zero, List.set_cons_succ, i64_w, i32_w]
                                                  rfl
                                                refine pure_ (i := 9) (N := some 70) (v := ?_) (a' := ?_) #[true, true, true, true, true, true, false, true, true, true, false, false, false, false, false, false, false, false, false, false, false, false, false, false, false, false] rfl rfl (any_of HT_.out (by kernel_rfl)) (fun _ _ _ h => h) (Or.inl ⟨by rfl, ?_⟩) ?_ ?_
                                                rotate_left
                                                · intro w'
                                                  go_simp
                                                  with_reducible rfl
                                                rotate_left
                                                · simp only [Act.put, List.setIfInBounds_toArray, List.set_cons_zero, List.set_cons_succ, i64_w, i32_w]
                                                  rfl
                                                refine pure_ (i := 12) (N := some 73) (v := ?_) (a' := ?_) #[true, true, true, true, true, true, false, true, true, true, false, false, true, false, false, false, false, false, false, false, false, false, false, false, false, false] rfl rfl (any_of HT_.out (by kernel_rfl)) (fun _ _ _ h => h) (Or.inl ⟨by rfl, ?_⟩) ?_ ?_
                                                rotate_left
                                                · intro w'
                                                  go_simp
                                                  with_reducible rfl
                                                rotate_left
                                                · simp only [Act.put, List.setIfInBounds_toArray, List.set_cons_zero, List.set_cons_succ, i64_w, i32_w]
                                                  rfl
                                                refine pure_ (i := 13) (N := some 74) (v := ?_) (a' := ?_) #[true, true, true, true, true, true, false, true, true, true, false, false, true, true, false, false, false, false, false, false, false, false, false, false, false, false] rfl rfl (any_of HT_.out (by kernel_rfl)) (fun _ _ _ h => h) (Or.inl ⟨by rfl, ?_⟩) ?_ ?_
                                                rotate_left
                                                · intro w'
                                                  go_simp
                                                  with_reducible rfl
                                                rotate_left
                                                · simp only [Act.put, List.setIfInBounds_toArray, List.set_cons_zero, List.set_cons_succ, i64_w, i32_w]
                                                  rfl
                                                refine pure_ (i := 14) (N := some 75) (v := ?_) (a' := ?_) #[true, true, true, true, true, true, false, true, true, true, false, false, true, true, true, false, false, false, false, false, false, false, false, false, false, false] rfl rfl (any_of HT_.out (by kernel_rfl)) (fun _ _ _ h => h) (Or.inl ⟨by rfl, ?_⟩) ?_ ?_
                                                rotate_left
                                                · intro w'
                                                  go_simp
                                                  with_reducible rfl
                                                rotate_left
                                                · simp only [Act.put, List.setIfInBounds_toArray, List.set_cons_zero, List.set_cons_succ, i64_w, i32_w]
                                                  rfl
                                                refine pure_ (i := 15) (N := some 76) (v := ?_) (a' := ?_) #[true, true, true, true, true, true, false, true, true, true, false, false, true, true, true, true, false, false, false, false, false, false, false, false, false, false] rfl rfl (any_of HT_.out (by kernel_rfl)) (fun _ _ _ h => h) (Or.inl ⟨by rfl, ?_⟩) ?_ ?_
                                                rotate_left
                                                · intro w'
                                                  go_simp
                                                  with_reducible rfl
                                                rotate_left
                                                · simp only [Act.put, List.setIfInBounds_toArray, List.set_cons_zero, List.set_cons_succ, i64_w, i32_w]
                                                  rfl
                                                refine pure_ (i := 17) (N := some 78) (v := ?_) (a' := ?_) #[true, true, true, true, true, true, false, true, true, true, false, false, true, true, true, true, false, true, false, false, false, false, false, false, false, false] rfl rfl (any_of HT_.out (by kernel_rfl)) (fun _ _ _ h => h) (Or.inl ⟨by rfl, ?_⟩) ?_ ?_
                                                rotate_left
                                                · intro w'
                                                  go_simp
                                                  with_reducible rfl
                                                rotate_left
                                                · simp only [Act.put, List.setIfInBounds_toArray, List.set_cons_zero, List.set_cons_succ, i64_w, i32_w]
                                                  rfl
                                                refine pure_ (i := 18) (N := some 79) (v := ?_) (a' := ?_) #[true, true, true, true, true, true, false, true, true, true, false, false, true, true, true, true, false, true, true, false, false, false, false, false, false, false] rfl rfl (any_of HT_.out (by kernel_rfl)) (fun _ _ _ h => h) (Or.inl ⟨by rfl, ?_⟩) ?_ ?_
                                                rotate_left
                                                · intro w'
                                                  go_simp
                                                  with_reducible rfl
                                                rotate_left
                                                · simp only [Act.put, List.setIfInBounds_toArray, List.set_cons_zero, List.set_cons_succ, i64_w, i32_w]
                                                  rfl
                                                refine pure_ (i := 19) (N := some 80) (v := ?_) (a' := ?_) #[true, true, true, true, true, true, false, true, true, true, false, false, true, true, true, true, false, true, true, true, false, false, false, false, false, false] rfl rfl (any_of HT_.out (by kernel_rfl)) (fun _ _ _ h => h) (Or.inl ⟨by rfl, ?_⟩) ?_ ?_
                                                rotate_left
                                                · intro w'
                                                  go_simp
                                                  with_reducible rfl
                                                rotate_left
                                                · simp only [Act.put, List.setIfInBounds_toArray, List.set_cons_zero, List.set_cons_succ, i64_w, i32_w]
                                                  rfl
                                                refine pure_ (i := 20) (N := some 81) (v := ?_) (a' := ?_) #[true, true, true, true, true, true, false, true, true, true, false, false, true, true, true, true, false, true, true, true, true, false, false, false, false, false] rfl rfl (any_of HT_.out (by kernel_rfl)) (fun _ _ _ h => h) (Or.inl ⟨by rfl, ?_⟩) ?_ ?_
                                                rotate_left
                                                · intro w'
                                                  go_simp
                                                  with_reducible rfl
                                                rotate_left
                                                · simp only [Act.put, List.setIfInBounds_toArray, List.set_cons_zero, List.set_cons_succ, i64_w, i32_w]
                                                  rfl
                                                refine take_ (i := 6) (N := some 67) (v := ?_) (a' := ?_) #[true, true, true, true, true, true, true, true, true, true, false, false, true, true, true, true, false, true, true, true, true, false, false, false, false, false] rfl rfl (take_ofW HT_.out HW_.out (by kernel_rfl)) (fun _ _ _ h => h) (Or.inl ⟨by rfl, ?_⟩) hHeld ?_ ?_
                                                rotate_left
                                                · rintro w' ⟨s0, s1, s2, s3⟩
                                                  go_simp
                                                  with_reducible rfl
                                                rotate_left
                                                · simp only [Act.put, List.setIfInBounds_toArray, List.set_cons_zero, List.set_cons_succ, i64_w, i32_w]
                                                  rfl
                                                refine take_ (i := 10) (N := some 71) (v := ?_) (a' := ?_) #[true, true, true, true, true, true, true, true, true, true, true, false, true, true, true, true, false, true, true, true, true, false, false, false, false, false] rfl rfl (take_ofW HT_.out HW_.out (by kernel_rfl)) (fun _ _ _ h => h) (Or.inl ⟨by rfl, ?_⟩) hHeld ?_ ?_
                                                rotate_left
                                                · rintro w' ⟨s0, s1, s2, s3⟩
                                                  go_simp
                                                  with_reducible rfl
                                                rotate_left
                                                · simp only [Act.put, List.setIfInBounds_toArray, List.set_cons_zero, List.set_cons_succ, i64_w, i32_w]
                                                  rfl
                                                refine pure_ (i := 11) (N := some 72) (v := ?_) (a' := ?_) #[true, true, true, true, true, true, true, true, true, true, true, true, true, true, true, true, false, true, true, true, true, false, false, false, false, false] rfl rfl (any_of HT_.out (by kernel_rfl)) (fun _ _ _ h => h) (Or.inl ⟨by rfl, ?_⟩) ?_ ?_
                                                rotate_left
                                                · intro w'
                                                  go_simp
                                                  with_reducible rfl
                                                rotate_left
                                                · simp only [Act.put, List.setIfInBounds_toArray, List.set_cons_zero, List.set_cons_succ, i64_w, i32_w]
                                                  rfl
                                                refine take_ (i := 16) (N := some 77) (v := ?_) (a' := ?_) #[true, true, true, true, true, true, true, true, true, true, true, true, true, true, true, true, true, true, true, true, true, false, false, false, false, false] rfl rfl (take_ofW HT_.out HW_.out (by kernel_rfl)) (fun _ _ _ h => h) (Or.inl ⟨by rfl, ?_⟩) hHeld ?_ ?_
                                                rotate_left
                                                · rintro w' ⟨s0, s1, s2, s3⟩
                                                  go_simp
                                                  with_reducible rfl
                                                rotate_left
                                                · simp only [Act.put, List.setIfInBounds_toArray, List.set_cons_zero, List.set_cons_succ, i64_w, i32_w]
                                                  rfl
                                                refine take_ (i := 21) (N := some 82) (v := ?_) (a' := ?_) #[true, true, true, true, true, true, true, true, true, true, true, true, true, true, true, true, true, true, true, true, true, true, false, false, false, false] rfl rfl (take_ofW HT_.out HW_.out (by kernel_rfl)) (fun _ _ _ h => h) (Or.inl ⟨by rfl, ?_⟩) hHeld ?_ ?_
                                                rotate_left
                                                · rintro w' ⟨s0, s1, s2, s3⟩
                                                  go_simp
                                                  with_reducible rfl
                                                rotate_left
                                                · simp only [Act.put, List.setIfInBounds_toArray, List.set_cons_zero, List.set_cons_succ, i64_w, i32_w]
                                                  rfl
                                                refine pure_ (i := 22) (N := some 83) (v := ?_) (a' := ?_) #[true, true, true, true, true, true, true, true, true, true, true, true, true, true, true, true, true, true, true, true, true, true, true, false, false, false] rfl rfl (any_of HT_.out (by kernel_rfl)) (fun _ _ _ h => h) (Or.inl ⟨by rfl, ?_⟩) ?_ ?_
                                                rotate_left
                                                · intro w'
                                                  go_simp
                                                  with_reducible rfl
                                                rotate_left
                                                · simp only [Act.put, List.setIfInBounds_toArray, List.set_cons_zero, List.set_cons_succ, i64_w, i32_w]
                                                  rfl
                                                refine pure_ (i := 23) (N := some 84) (v := ?_) (a' := ?_) #[true, true, true, true, true, true, true, true, true, true, true, true, true, true, true, true, true, true, true, true, true, true, true, true, false, false] rfl rfl (any_of HT_.out (by kernel_rfl)) (fun _ _ _ h => h) (Or.inl ⟨by rfl, ?_⟩) ?_ ?_
                                                rotate_left
                                                · intro w'
                                                  go_simp
                                                  with_reducible rfl
                                                rotate_left
                                                · simp only [Act.put, List.setIfInBounds_toArray, List.set_cons_zero, List.set_cons_succ, i64_w, i32_w]
                                                  rfl
                                                refine pure_ (i := 24) (N := some 85) (v := ?_) (a' := ?_) #[true, true, true, true, true, true, true, true, true, true, true, true, true, true, true, true, true, true, true, true, true, true, true, true, true, false] rfl rfl (any_of HT_.out (by kernel_rfl)) (fun _ _ _ h => h) (Or.inl ⟨by rfl, ?_⟩) ?_ ?_
                                                rotate_left
                                                · intro w'
                                                  go_simp
                                                  with_reducible rfl
                                                rotate_left
                                                · simp only [Act.put, List.setIfInBounds_toArray, List.set_cons_zero, List.set_cons_succ, i64_w, i32_w]
                                                  rfl
                                                refine last_ (i := 25) (N := none) #[true, true, true, true, true, true, true, true, true, true, true, true, true, true, true, true, true, true, true, true, true, true, true, true, true, true] rfl rfl (one_of HT_.out (by kernel_rfl)) (by decide) (fun K hK => ?_)
                                                refine skip_ (w1 := ?_) (by rfl) rfl ?_ ?_
                                                rotate_left
                                                · go_simp
                                                  rfl
                                                refine hK.out _ _ ?_
                                                clear hK K
                                                refine done_ (done_of HT_.out (by kernel_rfl)) ?_
                                                try go_wp2
                                                (try simp only [← hl11_2])
                                                go_roundg k2
                                                case measure => have := HK1.out; have := HK2.out; omega
                                                case rel => exact ⟨(y266), (ji37), (by first | rfl | (simp; done) | (simp only [← hji37] <;> (first | rfl | simp)) | (simp [*]; done)), H', ⟨by have := HK1.out; have := HK2.out; omega⟩, ⟨by (try simp only [hl11_2]); (with_reducible repeat (first | apply Kd.R_alloc | apply Kd.R_drewN | apply Kd.R_drew)); exact Kd.R_mono (Kd.R_far (p := ⟨go44, (x58_2 : Int).toNat * 2 + 1, none⟩) (Kd.R_far (p := ⟨go44, (x58_2 : Int).toNat * 2, none⟩) (Kd.R_types HO_7.out GG44.out (by decide)) (fun _ hk => hk.2) (.string (a0.extract ((rd y256 x58_2) : Int).toNat ((rd x8_1 x58_2) : Int).toNat))) (fun _ hk => hk.2) (.string (a0.extract ((rd x8_1 x58_2) : Int).toNat ((rd y256 (ji37)) : Int).toNat))) (fun _ hk => hk.1)⟩, ⟨by (try simp only [hl11_2]); (with_reducible repeat (first | apply Kd.R_alloc | apply Kd.R_drewN | apply Kd.R_drew)); exact Kd.R_mono (Kd.R_far (p := ⟨go44, (x58_2 : Int).toNat * 2 + 1, none⟩) (Kd.R_far (p := ⟨go44, (x58_2 : Int).toNat * 2, none⟩) (Kd.R_types HO_8.out GG44.out (by decide)) (fun _ hk => hk.2) (.string (a0.extract ((rd y256 x58_2) : Int).toNat ((rd x8_1 x58_2) : Int).toNat))) (fun _ hk => hk.2) (.string (a0.extract ((rd x8_1 x58_2) : Int).toNat ((rd y256 (ji37)) : Int).toNat))) (fun _ hk => hk.1)⟩, ⟨by (try simp only [hl11_2]); (with_reducible repeat (first | apply Kd.R_alloc | apply Kd.R_drewN | apply Kd.R_drew)); exact HQ47.out⟩, ⟨by repeat (first | (with_reducible first | exact HB.out | apply below_alloc | apply pw_below_drewN | apply below_drew1 | refine below_set ?_ GB44.out | refine below_set ?_ GB44.out) | exact HB.out)⟩⟩
                                              · rw [if_neg c43] at H
                                                exact absurd H (by simp)
                                            · rw [if_neg c42] at H
                                              exact absurd H (by simp)
                                          · rw [if_neg c41] at H
                                            exact absurd H (by simp)
                                        · rw [if_neg c40] at H
                                          exact absurd H (by simp)
                                      · rw [if_neg c39] at H
                                        exact absurd H (by simp)
                                    · rw [if_neg c38] at H
                                      exact absurd H (by simp)
                                  · rw [if_neg c36] at H
                                    exact absurd H (by simp)
                                · rw [if_neg c35] at H
                                  exact absurd H (by simp)
                              · rw [if_neg c34] at H
                                exact absurd H (by simp)
                            · rw [if_neg c33] at H
                              exact absurd H (by simp)
                          · rw [if_neg c32] at H
                            exact absurd H (by simp)
                        · rw [if_neg c31] at H
                          exact absurd H (by simp)
                      · rw [if_neg c30] at H
                        have c30b0 : decide (x58_2 < (y259.length : Int)) = false := decide_eq_false c30
                        rw [hl11_2] at c30b0
                        clear c30
                        by_cases c48 : 0 < (y256.length : Int)
                        · rw [if_pos c48] at H
                          have c48b0 : decide (0 < (y256.length : Int)) = true := decide_eq_true c48
                          have c48b1 : decide (0 < y256.length) = true := decide_eq_true (by omega)
                          clear c48
                          by_cases c49 : 0 ≤ (rd y256 0)
                          · rw [if_pos c49] at H
                            have c49b0 := eq_true c49
                            have c49b1 : decide (0 ≤ (rd y256 0)) = true := decide_eq_true c49
                            clear c49
                            by_cases c50 : (rd y256 0) ≤ (a0.size : Int)
                            · rw [if_pos c50] at H
                              have c50b0 := eq_true c50
                              have c50b1 : decide ((rd y256 0) ≤ (a0.size : Int)) = true := decide_eq_true c50
                              clear c50
                              simp only [Option.some.injEq, Prod.mk.injEq] at H
                              obtain ⟨rfl, rfl, rfl⟩ := H
                              obtain ⟨Ao51, co51, eo51⟩ := Kd.R_slice HO_7.out
                              subst eo51
                              have p267 : 0 ≤ (0 : Int) := (by omega)
                              have q267 : 0 < (y256.length : Int) := of_decide_eq_true (by first | (with_reducible assumption) | assumption)
                              obtain ⟨ad267, e267, hx267_0⟩ := Kd.at_int (Kd.R_reads' HO_7.out).2.2 0 p267 q267
                              cases e267
                              have qi267 : (0 < y256.length) = True := eq_true (by omega)
                              (try rw [show ((0 : Int)).toNat = 0 from rfl] at hx267_0)
                              (try rw [Addr.add_zero'] at hx267_0)
                              replace p267 := eq_true p267
                              replace q267 := eq_true q267
                              go_wp2
                              go_ret3
                              exact ⟨_, by first | rfl | (simp [errW_none, errW_some] <;> rfl) | (simp [*, errW_none, errW_some] <;> rfl), by (with_reducible repeat (first | apply Kd.R_alloc | apply Kd.R_drewN | apply Kd.R_drew)); exact HO_11.out, by repeat (first | (with_reducible first | exact HB.out | apply below_alloc | apply pw_below_drewN | apply below_drew1) | exact HB.out)⟩
                            · rw [if_neg c50] at H
                              exact absurd H (by simp)
                          · rw [if_neg c49] at H
                            exact absurd H (by simp)
                        · rw [if_neg c48] at H
                          exact absurd H (by simp)
                · rw [if_neg c23] at H
                  exact absurd H (by simp)
              · rw [if_neg c22] at H
                exact absurd H (by simp)
            · rw [if_neg c21] at H
              exact absurd H (by simp)
  · rw [if_neg c3] at H
    have c3b0 : (t245 == 0) = false := beq_eq_false_iff_ne.mpr c3
    have c3b1 : (t245 != 0) = true := bne_iff_ne.mpr c3
    simp only [Option.some.injEq, Prod.mk.injEq] at H
    obtain ⟨rfl, rfl, rfl⟩ := H
    go_enter Tryd.func50, Tryd.ntmps50
    go_wp2_with (first | ((with_reducible refine gate_callee (f := 82) rfl ?_); refine goesL_ (some 15) rfl rfl Tryd.func82 (by kernel_rfl) rfl #[.string a0] rfl (by (try simp only [List.map_toArray, List.map_cons, List.map_nil]); first | done | rfl | (simp only [List.length_drop, List.length_take]; rfl)) ?_; (with_reducible refine (scan_Tokens.calls a0 t244 t245 _ ?side1 A2.out).mono ?_); (case side1 => exact Gu.below HG.out (by repeat (first | (with_reducible first | exact HB.out | apply below_alloc | apply pw_below_drewN | apply below_drew1) | exact HB.out))); rintro e w52 ⟨v246, rfl, ho0, hb⟩; refine ⟨_, rfl, ?_⟩; have n0_ := Aside0.mk (Kd.R_lower ho0 (below_size (by repeat (first | (with_reducible first | exact HB.out | apply below_alloc | apply pw_below_drewN | apply below_drew1) | exact HB.out)))); have n1_ := Aside0.mk (below_step (by repeat (first | (with_reducible first | exact HB.out | apply below_alloc | apply pw_below_drewN | apply below_drew1) | exact HB.out)) hb); clear HB; have HO247 := n0_; have HB := n1_; clear n0_ n1_; (try clear hb); (try clear hb2); (try clear hk); (try clear hi); (try clear ho0)))
    go_ret3
    exact ⟨_, by first | rfl | (simp [errW_none, errW_some] <;> rfl) | (simp [*, errW_none, errW_some] <;> rfl), by first | exact Kd.R_nil _ _ _ _ _ | exact Kd.N_nil _ _ _ _ _ | exact Kd.V_nil _ _ _ _ _ | exact Kd.Q_nil _ _ _ _ _ | exact Kd.S_nil _ _ _ _ _, by repeat (first | (with_reducible first | exact HB.out | apply below_alloc | apply pw_below_drewN | apply below_drew1) | exact HB.out)⟩
end Go.Proofs.YtblpiceallbfjaaDoor.Pr
/- split.Join: the head and the words, one behind the other: what it answers, and that the code comes to it. -/
set_option linter.unusedVariables false
set_option linter.unusedSimpArgs false
namespace Go.Proofs.YtblpiceallbfjaaDoor.Pr
open Go.RowKit Go.Proofs.YtblpiceallbfjaaDoorW.PrintWords Go.Proofs.YtblpiceallbfjaaDoorW.PrintLast Go.Proofs.YtblpiceallbfjaaDoorW.PrintMore
/-- A block that was made just before a builder was written stands. -/
theorem others_new {e T : TypeId} {b : Nat} {w w' : World} {cs : Array Value} (hk : Lib.OthersKept e (some b) (w.alloc (.cells cs T)) w') (hb : b < w.heap.size) (hT : T ≠ e) : w'.heap[w.heap.size]? = some (.cells cs T) := by
  refine hk _ _ (by show (w.heap.push _)[w.heap.size]? = _; simp) (fun h => ?_) (fun c fz h => ?_)
  · have := Option.some.inj h; omega
  · injection h with _ h2 _; exact hT h2
theorem cell_of {w : World} {b : Nat} {cs : Array Value} {T : TypeId} {fz : Nat × Nat} (h : w.heap[b]? = some (.cells cs T fz)) (i : Nat) : w.cell? ⟨b, i, none⟩ = cs[i]? := by
  unfold World.cell?
  rw [h]
  rfl
theorem builder_lt {T e : TypeId} {B b : Nat} {bs : List Value} {w : World} (h : Lib.IsBuilderF T e B b bs w) : b < w.heap.size := by
  obtain ⟨cs, hc⟩ := builder_block h
  exact (Array.getElem?_eq_some_iff.1 hc).1
def wordB (x : S87) : List UInt8 := x.f0.data.toList ++ x.f1.data.toList
def joinB (h : ByteArray) (l : List S87) : List UInt8 := h.data.toList ++ l.flatMap wordB
theorem joinB_take (h : ByteArray) (l : List S87) (i : Nat) (hi : i < l.length) : joinB h (l.take (i + 1)) = joinB h (l.take i) ++ wordB l[i] := by
  unfold joinB
  rw [List.take_succ_eq_append_getElem hi, List.flatMap_append, List.append_assoc]
  simp
theorem joinB_len (h : ByteArray) (l : List S87) (i : Nat) (hi : i < l.length) : (joinB h (l.take i)).length + l[i].f0.size + l[i].f1.size ≤ (joinB h l).length := by
  have e : joinB h l = joinB h (l.take (i + 1)) ++ (l.drop (i + 1)).flatMap wordB := by
    unfold joinB
    rw [List.append_assoc, ← List.flatMap_append, List.take_append_drop]
  rw [e, joinB_take h l i hi]
  simp only [List.length_append, wordB, Array.length_toList]
  have e1 : l[i].f0.data.size = l[i].f0.size := rfl
  have e2 : l[i].f1.data.size = l[i].f1.size := rfl
  omega
def split_Join.f (a0 : ByteArray) (l1 : List S87) : Option ByteArray := if (joinB a0 l1).length ≤ 1099511627776 ∧ l1.length ≤ 1099511627776 then some ⟨(joinB a0 l1).toArray⟩ else none
set_option maxHeartbeats 4000000 in
set_option maxRecDepth 100000 in
theorem split_Join.calls (a0 : ByteArray) (A1 : Option Addr) (c1 : Nat) (l1 : List S87) (r : ByteArray) (w : World) (hr1 : Kd.C k87 w A1 l1.length l1) (hc1 : l1.length ≤ c1) (h : split_Join.f a0 l1 = some r) :
    Calls Tryd.prog 21 #[.string a0, .slice A1 l1.length c1] w fun e w' => e = .returned (.string r) ∧ Below w.heap.size w w' := by
  have hsz : (joinB a0 l1).length ≤ 1099511627776 ∧ l1.length ≤ 1099511627776 := by
    unfold split_Join.f at h
    split at h
    · assumption
    · cases h
  obtain rfl : ⟨(joinB a0 l1).toArray⟩ = r := by
    unfold split_Join.f at h
    rw [if_pos hsz] at h
    exact Option.some.inj h
  clear h
  obtain ⟨hsz, hln⟩ := hsz
  have ha0 : a0.size ≤ (joinB a0 l1).length := by
    unfold joinB
    rw [List.length_append, Array.length_toList]
    have e1 : a0.data.size = a0.size := rfl
    omega
  have hw1 : Below w.heap.size w (w.alloc (.cells #[.pointer none, .slice none 0 0] 72)) := (Below.refl _ w).alloc (Nat.le_refl _) _
  have hI := Lib.hid ((Lib.IsBuilderF.of (Lib.fresh_isBuilder 72 5 w)))
  have HW1 := Lib.hid hw1
  have HR1 := Lib.hid hr1
  have CW := fun W hb h1 h2 => Build.WriteString_k w.heap.size w.heap.size [] a0 W hb h1 h2
  clear hw1 hr1
  have hu := Tryd.underlying87
  go_enter Tryd.func21, Tryd.ntmps21
  go_wp2_with (go_at_call 51; refine (CW _ hI.out (by simp; omega) HW1.out.size).mono ?_; rintro e w2 ⟨rfl, h2, b2, k2⟩)
  have hI2 := Lib.hid (Or.inr h2 : Lib.IsBuilderF 72 5 w.heap.size w.heap.size _ w2)
  have HB2 := Lib.hid (HW1.out.trans b2)
  clear h2 b2 k2 CW hI HW1
  go_loopw [12] (fun v wr => ∃ i : Nat, v = .int .i64 i ∧ i ≤ l1.length ∧ Aside0 (Lib.IsBuilderF 72 5 w.heap.size w.heap.size (Lib.byteCells (joinB a0 (l1.take i))) wr) ∧ Aside0 (Below w.heap.size w wr)) (fun v _ => l1.length - (intOf v).toNat)
  case atStart =>
    refine ⟨0, rfl, Nat.zero_le _, ⟨?_⟩, ⟨HB2.out⟩⟩
    have h : Lib.IsBuilderF 72 5 w.heap.size w.heap.size ([] ++ Lib.strCells a0) w2 := hI2.out
    rw [List.nil_append, Lib.strCells_eq] at h
    rw [List.take_zero]
    unfold joinB
    rw [List.flatMap_nil, List.append_nil]
    exact h
  case round =>
    obtain ⟨i, rfl, hi, HI, HBr⟩ := hrel
    by_cases hlt : i < l1.length
    · have hlt2 : (i : Int) < (l1.length : Int) := by omega
      obtain ⟨ad, e1, x0, x1⟩ := at_T87 HR1.out (i : Int) (by omega) hlt2
      cases e1
      have hrd : rd_T87 l1 (i : Int) = l1[i] := by simp [rd_T87, List.getD_eq_getElem?_getD, hlt]
      rw [hrd] at x0 x1
      simp only [Int.toNat_natCast] at x0 x1
      replace x0 := (HBr.out.cell (World.block_lt_of_cell? w _ x0)).trans x0
      replace x1 := (HBr.out.cell (World.block_lt_of_cell? w _ x1)).trans x1
      have HST := Lib.hid (joinB_take a0 l1 i hlt)
      have HLE := Lib.hid (joinB_len a0 l1 i hlt)
      have hsz1 : (joinB a0 (l1.take i)).length + l1[i].f0.size + l1[i].f1.size ≤ 1099511627776 := Nat.le_trans (joinB_len a0 l1 i hlt) hsz
      generalize l1[i] = cc at *
      obtain ⟨f0, f1⟩ := cc
      simp only at x0 x1 hsz1
      have hal : ∀ o, Below wr.heap.size wr (wr.alloc o) := fun o => (Below.refl _ wr).alloc (Nat.le_refl _) o
      have hszr := HBr.out.size
      have HALB := Lib.hid (fun o => HBr.out.trans ((hal o).mono hszr))
      have hblt := builder_lt HI.out
      have CW := fun o h => Build.WriteString_k w.heap.size w.heap.size _ f0 (wr.alloc o) (builder_below HI.out (hal o)) h (Nat.le_trans hszr (hal o).size)
      have HS1 := Lib.hid hsz1
      clear hrd hal hsz1
      have CW2 := fun W hb h1 h2 => Build.WriteString_k w.heap.size w.heap.size (Lib.byteCells (joinB a0 (l1.take i)) ++ Lib.strCells f0) f1 W hb h1 h2
      go_wp2_with (first
        | (go_at_call 51; refine (CW _ (by rw [Lib.byteCells_length]; have := HS1.out; omega)).mono ?_; rintro e w4 ⟨rfl, h4, b4, k4⟩; have hnb := others_new k4 hblt (by decide); have x2 := (cell_of hnb 1).trans (show _ = some (Value.string f1) from rfl); have H4 := Lib.hid h4; have HB4 := Lib.hid ((HALB.out _).trans b4); clear h4 b4 k4 hnb CW)
        | (go_at_call 51; refine (CW2 _ (Or.inr H4.out) (by rw [List.length_append, Lib.byteCells_length, Lib.strCells_length]; have := HS1.out; omega) HB4.out.size).mono ?_; rintro e w5 ⟨rfl, h5, b5, k5⟩; have H5 := Lib.hid h5; have HB5 := Lib.hid (HB4.out.trans b5); clear h5 b5 k5 CW2))
      go_roundw
      case rel =>
        refine ⟨i + 1, by go_num, hlt, ⟨?_⟩, ⟨HB5.out⟩⟩
        rw [HST.out, Lib.byteCells_append]
        have e : Lib.byteCells (wordB ⟨f0, f1⟩) = Lib.strCells f0 ++ Lib.strCells f1 := by
          rw [Lib.strCells_eq, Lib.strCells_eq, ← Lib.byteCells_append]; rfl
        rw [e, ← List.append_assoc]
        exact Or.inr H5.out
      case measure => simp [intOf]; omega
    · have hlt' : ¬ ((i : Int) < (l1.length : Int)) := by omega
      have hlast := HI.out
      rw [List.take_of_length_le (by omega)] at hlast
      have hsz := HBr.out.size
      go_wp2_with (go_at_call 43; refine (Tryd.Builder_String_any_k w.heap.size w.heap.size _ _ hlast hsz).mono ?_; rintro e w4 ⟨rfl, _, b4, _⟩)
      go_ret
      exact ⟨rfl, HBr.out.trans b4⟩
end Go.Proofs.YtblpiceallbfjaaDoor.Pr
