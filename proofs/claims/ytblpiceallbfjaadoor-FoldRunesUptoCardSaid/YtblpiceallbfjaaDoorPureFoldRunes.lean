/- FoldRunes, the plain law: at every rune and every sum the program's folding is the document's. -/
import Derived.Test.YtblpiceallbfjaaDoorPr11
import Derived.Test.YtblpiceallbfjaaDoorPureRef3
set_option linter.unusedVariables false
namespace Go.Proofs.YtblpiceallbfjaaDoor.Pr
open Go.RowKit

theorem awake_runes : siglumlaw03_awake.f = some true := by decide +kernel
theorem rune_same (r opt : Int) (hr : -2147483648 ≤ r) (k : Nat) (hk : 1200 ≤ k) : ∃ p, fold_Rune.f r opt = some p ∧ siglumref03_Rune.f k r opt = some p := by
  unfold fold_Rune.f
  by_cases h0 : opt < 0
  · rw [if_pos h0]; exact ⟨_, rfl, rune_refbad opt (.inl h0) r k (by omega)⟩
  by_cases h1 : 31 < opt
  · rw [if_neg h0, if_pos h1]; exact ⟨_, rfl, rune_refbad opt (.inr h1) r k (by omega)⟩
  rw [if_neg h0, if_neg h1, if_pos hr]
  exact ⟨_, rfl, rune_ref opt (by omega) (by omega) r k hk⟩
theorem foldRunes_l0 (l : List Int) (opt : Int) (hl : l.length ≤ 1048576) (hw : ∀ x ∈ l, -2147483648 ≤ x) : ∀ (d i k : Nat), i + d = l.length → d + 1201 ≤ k → siglumlaw03_FoldRunes.l0 k opt l (l.length : Int) (i : Int) = some true := by
  intro d
  induction d with
  | zero =>
    intro i k h hk
    obtain ⟨k, rfl⟩ : ∃ k', k = k' + 1 := ⟨k - 1, by omega⟩
    simp only [siglumlaw03_FoldRunes.l0]
    rw [if_neg (by omega)]
  | succ d ih =>
    intro i k h hk
    obtain ⟨k, rfl⟩ : ∃ k', k = k' + 1 := ⟨k - 1, by omega⟩
    simp only [siglumlaw03_FoldRunes.l0]
    rw [if_pos (by omega), if_pos (by omega), if_pos (by omega), rdi l i (by omega)]
    obtain ⟨p, e1, e2⟩ := rune_same (l[i]'(by omega)) opt (hw _ (List.getElem_mem _)) k (by omega)
    rw [e1, e2]
    simp only [Option.bind_some, if_true]
    rw [show wrap64 ((i : Int) + 1) = ((i + 1 : Nat) : Int) by unfold wrap64; omega]
    exact ih (i + 1) k (by omega) (by omega)
theorem foldRunes_pure (l : List Int) (opt : Int) (hl : l.length ≤ 1048576) (hw0 : ∀ x ∈ l, (Lit.int .i32 x).wf = true) : ∃ k, siglumlaw03_FoldRunes.f k l opt = some true := by
  have hw : ∀ x ∈ l, -2147483648 ≤ x := by
    intro x hx
    have h := hw0 x hx
    simp [Lit.wf, IntKind.min, IntKind.max, IntKind.signed, IntKind.bits] at h
    omega
  refine ⟨l.length + 1201, ?_⟩
  unfold siglumlaw03_FoldRunes.f
  rw [awake_runes]
  simp only [Option.bind_some, if_true]
  exact foldRunes_l0 l opt hl hw l.length 0 _ (by omega) (by omega)
end Go.Proofs.YtblpiceallbfjaaDoor.Pr
