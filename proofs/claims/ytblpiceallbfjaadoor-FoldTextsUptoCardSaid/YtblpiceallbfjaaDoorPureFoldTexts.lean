/- FoldTexts, the plain law: at every text and every sum the program's folding is the document's, and Same is to be folded the same. -/
import Derived.Test.YtblpiceallbfjaaDoorPr13
import Derived.Test.YtblpiceallbfjaaDoorPureRef3
set_option linter.unusedVariables false
namespace Go.Proofs.YtblpiceallbfjaaDoor.Pr
open Go.RowKit Go.Proofs.YtblpiceallbfjaaDoorW.PrintWords Go.Proofs.YtblpiceallbfjaaDoorW.PrintLast Go.Proofs.YtblpiceallbfjaaDoorW.PrintMore

theorem awake_texts : siglumlaw03_awake.f = some true := by decide +kernel
theorem rd_cell (cs : List S67) (i : Nat) (h : i < cs.length) : rd_T67 cs (i : Int) = cs[i] := by simp [rd_T67, List.getD_eq_getElem?_getD, h]
theorem byte_nums (z : Int) (h0 : 0 ≤ z) (h1 : z ≤ 255) : [z] = ([z.toNat.toUInt8] : List UInt8).map fun b => (b.toNat : Int) := by
  have : z.toNat < 256 := by omega
  simp [Nat.toUInt8, UInt8.toNat_ofNat', Nat.mod_eq_of_lt this]
  omega
theorem text_l0 (opt : Int) (h0 : 0 ≤ opt) (h1 : opt ≤ 31) (cs : List S67) (hl : cs.length ≤ 1048576) (hc : ∀ c ∈ cs, 0 ≤ c.f4 ∧ c.f4 ≤ 255 ∧ 0 ≤ c.f2) : ∀ (d i k : Nat) (acc : List UInt8), i + d = cs.length → d + 1201 ≤ k → acc.length ≤ 12 * i →
    siglumref03_Text.l0 k opt (acc.map fun b => (b.toNat : Int)) cs (i : Int) = some (⟨(acc ++ textB opt (cs.drop i)).toArray⟩, 0) := by
  intro d
  induction d with
  | zero =>
    intro i k acc h hk ha
    obtain ⟨k, rfl⟩ : ∃ k', k = k' + 1 := ⟨k - 1, by omega⟩
    simp only [siglumref03_Text.l0]
    rw [if_neg (by omega), List.drop_of_length_le (by omega), str_enc]
    simp [textB]
  | succ d ih =>
    intro i k acc h hk ha
    obtain ⟨k, rfl⟩ : ∃ k', k = k' + 1 := ⟨k - 1, by omega⟩
    simp only [siglumref03_Text.l0]
    have hlt : i < cs.length := by omega
    rw [if_pos (by omega), if_pos (by omega), rd_cell cs i hlt, show wrap64 ((i : Int) + 1) = ((i + 1 : Nat) : Int) by unfold wrap64; omega, List.drop_eq_getElem_cons hlt]
    obtain ⟨c1, c2, c3⟩ := hc cs[i] (List.getElem_mem hlt)
    have hcl := cellB_len opt cs[i]
    have e := fun (x : List UInt8) (hx : x.length ≤ 12) => ih (i + 1) k (acc ++ x) (by omega) (by omega) (by rw [List.length_append]; omega)
    have ht : textB opt (cs[i] :: cs.drop (i + 1)) = cellB opt cs[i] ++ textB opt (cs.drop (i + 1)) := by unfold textB; rw [List.flatMap_cons]
    rw [ht]
    by_cases hb : cs[i].f3 = true
    · have hcb : cellB opt cs[i] = [cs[i].f4.toNat.toUInt8] := by unfold cellB; rw [if_pos hb]
      rw [if_pos hb, if_pos (by rw [List.length_map]; omega), byte_nums _ c1 c2, ← List.map_append, e _ (by simp), hcb, List.append_assoc]
    · have hcb : cellB opt cs[i] = foldR (kindI cs[i].f2) cs[i].f2 opt := by unfold cellB; rw [if_neg hb]
      have hlf := foldR_len (kindI cs[i].f2) cs[i].f2 opt
      rw [if_neg hb, rune_ref opt h0 h1 _ k (by omega)]
      simp only [Option.bind_some]
      rw [if_pos (by simp [ByteArray.size]; omega), show bytesOf ⟨(foldR (kindI cs[i].f2) cs[i].f2 opt).toArray⟩ = (foldR (kindI cs[i].f2) cs[i].f2 opt).map (fun b => (b.toNat : Int)) from rfl, ← List.map_append, e _ hlf, hcb, List.append_assoc]
theorem text_ref (s : ByteArray) (hs : s.size ≤ 1048576) (opt : Int) (h0 : 0 ≤ opt) (h1 : opt ≤ 31) (k : Nat) (hk : s.size + 1300 ≤ k) : siglumref03_Text.f k s opt = some (⟨(textB opt (cells s)).toArray⟩, 0) := by
  have hcl := cells_len s
  unfold siglumref03_Text.f
  rw [if_neg (by omega), show decide (opt > 31) = false by simp; omega]
  obtain ⟨k, rfl⟩ : ∃ k', k = k' + 1 := ⟨k - 1, by omega⟩
  simp only [siglumref03_Text.j0, Bool.false_eq_true, if_false]
  rw [refCells s (by omega) k (by omega)]
  simp only [Option.bind_some]
  have := text_l0 opt h0 h1 (cells s) (by omega) (cellsFrom_ok s s.size 0) (cells s).length 0 k [] (by omega) (by omega) (by simp)
  simpa using this
theorem text_refbad (s : ByteArray) (opt : Int) (h : opt < 0 ∨ 31 < opt) (k : Nat) (hk : 1 ≤ k) : siglumref03_Text.f k s opt = some (⟨#[]⟩, 2) := by
  obtain ⟨k, rfl⟩ : ∃ k', k = k' + 1 := ⟨k - 1, by omega⟩
  unfold siglumref03_Text.f
  by_cases h0 : opt < 0
  · rw [if_pos h0]; rfl
  · rw [if_neg h0, show decide (opt > 31) = true by simp; omega]; rfl
theorem foldTexts_pure (a b : ByteArray) (opt : Int) (ha : a.size ≤ 1048576) (hb : b.size ≤ 1048576) : ∃ k, siglumlaw03_FoldTexts.f k a b opt = some true := by
  refine ⟨a.size + b.size + 1300, ?_⟩
  unfold siglumlaw03_FoldTexts.f
  rw [awake_texts]
  simp only [Option.bind_some, if_true]
  unfold fold_Same.f
  by_cases h : opt < 0 ∨ 31 < opt
  · have e : ∀ s, fold_Text.f s opt = some (⟨#[]⟩, 2) := by
      intro s
      unfold fold_Text.f
      by_cases h0 : opt < 0
      · rw [if_pos h0]
      · rw [if_neg h0, if_pos (by omega)]
    rw [e, text_refbad a opt h _ (by omega), text_refbad b opt h _ (by omega)]
    simp
  · have e : ∀ s : ByteArray, s.size ≤ 1048576 → fold_Text.f s opt = some (⟨(textB opt (cells s)).toArray⟩, 0) := by
      intro s hs
      unfold fold_Text.f
      rw [if_neg (by omega), if_neg (by omega), if_pos (by omega)]
    rw [e a ha, e b hb, text_ref a ha opt (by omega) (by omega) _ (by omega), text_ref b hb opt (by omega) (by omega) _ (by omega)]
    simp only [Option.bind_some, if_true]
    simp
end Go.Proofs.YtblpiceallbfjaaDoor.Pr
