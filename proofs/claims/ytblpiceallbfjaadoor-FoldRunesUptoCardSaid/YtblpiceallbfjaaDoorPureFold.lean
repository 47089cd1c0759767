/- Plain facts on folding runes, no program in sight: folded by less and then by more is folded by more. -/
import Derived.Test.YtblpiceallbfjaaDoorPureUtf
set_option linter.unusedVariables false
set_option linter.unusedSimpArgs false
namespace Go.Proofs.YtblpiceallbfjaaDoor.Pr
open Go.RowKit

/-- The steps that a sum names. -/
def st (l u t : Bool) (x : Int) : Int := (fun y => if t then letterI y else y) ((fun y => if u then unmarkedI y else y) (if l then smallI x else x))
/-- What a rune becomes. -/
def out (l u g t j : Bool) (r : Int) : List Int :=
  if (j && kindI r == 4) || (u && kindI r == 2) then [] else if g = true ∧ ligB r ≠ [] then (ligB r).map fun b => st l u t (b.toNat : Int) else [st l u t r]

theorem unmarked_out (r : Int) (h : r < 192 ∨ 255 < r) : unmarkedI r = r := if_pos h
theorem letter_out (r : Int) (h : 118 < r) : letterI r = r := by unfold letterI; rw [if_neg (by omega)]
theorem small_hi (r : Int) (h : 256 ≤ r) (h2 : r ≠ 376) : 256 ≤ smallI r := by
  unfold smallI
  repeat' split
  all_goals omega
theorem small_small (r : Int) (h : 256 ≤ r) (h2 : r ≠ 376) : smallI (smallI r) = smallI r := by
  by_cases c : smallI r = r
  · rw [c, c]
  · have hr : (∃ y, smallI r = y ∧ ((913 ≤ r ∧ r ≤ 937 ∧ r ≠ 930 ∧ y = r + 32) ∨ (1040 ≤ r ∧ r ≤ 1071 ∧ y = r + 32) ∨ (1024 ≤ r ∧ r ≤ 1039 ∧ y = r + 80) ∨ (r % 2 = 0 ∧ ((256 ≤ r ∧ r ≤ 311) ∨ (330 ≤ r ∧ r ≤ 375) ∨ (7680 ≤ r ∧ r ≤ 7829)) ∧ y = r + 1) ∨ (¬ r % 2 = 0 ∧ ((313 ≤ r ∧ r ≤ 328) ∨ (377 ≤ r ∧ r ≤ 382)) ∧ y = r + 1) ∨ (r = 962 ∧ y = 963))) := by
      refine ⟨_, rfl, ?_⟩
      revert c
      unfold smallI
      intro c
      split at c
      · rename_i h1; rw [if_pos h1]; omega
      · rename_i h1; rw [if_neg h1]
        split at c
        · rename_i h3; rw [if_pos h3]; omega
        · rename_i h3; rw [if_neg h3]
          split at c
          · rename_i h4; rw [if_pos h4]; omega
          · rename_i h4; rw [if_neg h4]
            split at c
            · rename_i h5; rw [if_pos h5]; omega
            · rename_i h5; rw [if_neg h5, if_neg h2]
              split at c
              · rename_i h7; rw [if_pos h7]; omega
              · exact absurd rfl c
    obtain ⟨y, hy, hr⟩ := hr
    rw [hy]
    unfold smallI
    rw [if_neg (by omega), if_neg (by omega), if_neg (by omega), if_neg (by omega), if_neg (by omega), if_neg (by omega)]

theorem st_low : ∀ (l u t l' u' t' : Bool), (l = true → l' = true) → (u = true → u' = true) → (t = true → t' = true) → ∀ n : Fin 256, st l' u' t' (st l u t (n.val : Int)) = st l' u' t' (n.val : Int) := by decide +kernel
theorem st_376 : ∀ (l u t l' u' t' : Bool), (l = true → l' = true) → (u = true → u' = true) → (t = true → t' = true) → st l' u' t' (st l u t 376) = st l' u' t' 376 := by decide +kernel
theorem st_hi (l u t : Bool) (r : Int) (h : 256 ≤ r) (h2 : r ≠ 376) : st l u t r = if l then smallI r else r := by
  have h3 := small_hi r h h2
  unfold st
  cases l <;> cases u <;> cases t <;> simp only [if_true, Bool.false_eq_true, if_false]
  all_goals first
    | rw [unmarked_out _ (by omega), letter_out _ (by omega)]
    | rw [unmarked_out _ (by omega)]
    | rw [letter_out _ (by omega)]
theorem st_st (l u t l' u' t' : Bool) (hl : l = true → l' = true) (hu : u = true → u' = true) (ht : t = true → t' = true) (r : Int) (h0 : 0 ≤ r) : st l' u' t' (st l u t r) = st l' u' t' r := by
  by_cases h1 : r < 256
  · have := st_low l u t l' u' t' hl hu ht ⟨r.toNat, by omega⟩
    simpa [Int.toNat_of_nonneg h0] using this
  by_cases h2 : r = 376
  · subst h2; exact st_376 l u t l' u' t' hl hu ht
  · rw [st_hi l u t r (by omega) h2]
    cases l with
    | false => rfl
    | true =>
      rw [hl rfl]
      simp only [if_true]
      have h3 := small_hi r (by omega) h2
      by_cases h4 : smallI r = 376
      · exfalso
        revert h4
        unfold smallI
        repeat' split
        all_goals omega
      · rw [st_hi _ _ _ _ h3 h4, st_hi _ _ _ _ (by omega) h2]
        simp only [if_true]
        exact small_small r (by omega) h2

/-! ### kinds -/
/-- Joiners. -/
def K4 (r : Int) : Prop := r = 39 ∨ r = 45 ∨ r = 173 ∨ r = 8204 ∨ r = 8205 ∨ r = 8217
/-- Accents. -/
def K2 (r : Int) : Prop := (768 ≤ r ∧ r ≤ 879) ∨ (1155 ≤ r ∧ r ≤ 1161) ∨ (7616 ≤ r ∧ r ≤ 7679) ∨ (8400 ≤ r ∧ r ≤ 8447)
theorem kindI_X (r : Int) : kindI r = kindX r := rfl
theorem kind4 (r : Int) : kindI r = 4 ↔ K4 r := by
  rw [kindI_X]
  unfold kindX K4
  repeat' split
  all_goals omega
theorem kind2 (r : Int) : kindI r = 2 ↔ K2 r := by
  rw [kindI_X]
  unfold kindX K2
  repeat' split
  all_goals omega
instance (r : Int) : Decidable (K4 r) := by unfold K4; exact inferInstance
instance (r : Int) : Decidable (K2 r) := by unfold K2; exact inferInstance
/-- Ligatures. -/
def LS (r : Int) : Prop := r = 198 ∨ r = 230 ∨ r = 338 ∨ r = 339 ∨ r = 223 ∨ r = 383 ∨ r = 306 ∨ r = 307 ∨ (64256 ≤ r ∧ r ≤ 64262)
instance (r : Int) : Decidable (LS r) := by unfold LS; exact inferInstance
theorem lig_nil (r : Int) (h : ¬ LS r) : ligB r = [] := by
  unfold LS at h
  unfold ligB
  simp (disch := omega) only [if_neg]

theorem st_k (l u t : Bool) (r : Int) (h0 : 0 ≤ r) (h : K4 r ∨ K2 r) : st l u t r = r := by
  by_cases h1 : r < 256
  · have : ∀ (l u t : Bool) (n : Fin 256), (K4 (n.val : Int) ∨ K2 (n.val : Int)) → st l u t (n.val : Int) = (n.val : Int) := by decide +kernel
    have := this l u t ⟨r.toNat, by omega⟩ (by simpa [Int.toNat_of_nonneg h0] using h)
    simpa [Int.toNat_of_nonneg h0] using this
  · have h2 : r ≠ 376 := by unfold K4 K2 at h; omega
    rw [st_hi l u t r (by omega) h2]
    cases l with
    | false => rfl
    | true =>
      simp only [if_true]
      unfold K4 K2 at h
      unfold smallI
      rw [if_neg (by omega), if_neg (by omega), if_neg (by omega), if_neg (by omega), if_neg (by omega), if_neg (by omega)]
theorem k_lig (r : Int) (h : K4 r ∨ K2 r) : ¬ LS r := by unfold K4 K2 at h; unfold LS; omega
theorem small_k (r : Int) (h1 : 256 ≤ r) (h : ¬ K4 r ∧ ¬ K2 r) (hL : ¬ LS r) (h2 : r ≠ 376) : ¬ K4 (smallI r) ∧ ¬ K2 (smallI r) ∧ ¬ LS (smallI r) := by
  unfold K4 K2 LS at *
  unfold smallI
  repeat' split
  all_goals omega
theorem st_nk (l u t : Bool) (r : Int) (h0 : 0 ≤ r) (h : ¬ K4 r ∧ ¬ K2 r) (hL : ¬ LS r) : ¬ K4 (st l u t r) ∧ ¬ K2 (st l u t r) ∧ ¬ LS (st l u t r) := by
  by_cases h1 : r < 256
  · have : ∀ (l u t : Bool) (n : Fin 256), (¬ K4 (n.val : Int) ∧ ¬ K2 (n.val : Int)) → ¬ LS (n.val : Int) → ¬ K4 (st l u t (n.val : Int)) ∧ ¬ K2 (st l u t (n.val : Int)) ∧ ¬ LS (st l u t (n.val : Int)) := by decide +kernel
    have := this l u t ⟨r.toNat, by omega⟩ (by simpa [Int.toNat_of_nonneg h0] using h) (by simpa [Int.toNat_of_nonneg h0] using hL)
    simpa [Int.toNat_of_nonneg h0] using this
  · by_cases h2 : r = 376
    · subst h2
      have : ∀ (l u t : Bool), ¬ K4 (st l u t 376) ∧ ¬ K2 (st l u t 376) ∧ ¬ LS (st l u t 376) := by decide +kernel
      exact this l u t
    · rw [st_hi l u t r (by omega) h2]
      cases l with
      | false => simpa using ⟨h.1, h.2, hL⟩
      | true => simpa using small_k r (by omega) h hL h2
theorem out_lig : ∀ r ∈ ([198, 230, 338, 339, 223, 383, 306, 307, 64256, 64257, 64258, 64259, 64260, 64261, 64262] : List Int), ∀ (l l' : Bool), (l = true → l' = true) → ∀ (u u' : Bool), (u = true → u' = true) → ∀ (g g' : Bool), (g = true → g' = true) → ∀ (t t' : Bool), (t = true → t' = true) → ∀ (j j' : Bool), (j = true → j' = true) →
    (out l u g t j r).flatMap (out l' u' g' t' j') = out l' u' g' t' j' r := by decide +kernel

theorem out_out (l l' u u' g g' t t' j j' : Bool) (hl : l = true → l' = true) (hu : u = true → u' = true) (hg : g = true → g' = true) (ht : t = true → t' = true) (hj : j = true → j' = true) (r : Int) (h0 : 0 ≤ r) :
    (out l u g t j r).flatMap (out l' u' g' t' j') = out l' u' g' t' j' r := by
  by_cases hL : LS r
  · exact out_lig r (by unfold LS at hL; simp only [List.mem_cons, List.not_mem_nil, or_false]; omega) l l' hl u u' hu g g' hg t t' ht j j' hj
  · have e0 := lig_nil r hL
    have eo : ∀ (l u g t j : Bool), out l u g t j r = if ((j && kindI r == 4) || (u && kindI r == 2)) = true then [] else [st l u t r] := by
      intro l u g t j
      unfold out
      rw [e0]
      simp
    by_cases hk : K4 r ∨ K2 r
    · have es := st_k l u t r h0 hk
      rw [eo l u g t j, es]
      by_cases hd : ((j && kindI r == 4) || (u && kindI r == 2)) = true
      · rw [if_pos hd, eo l' u' g' t' j', if_pos]
        · rfl
        · simp only [Bool.or_eq_true, Bool.and_eq_true] at hd ⊢
          rcases hd with ⟨a, b⟩ | ⟨a, b⟩
          · exact .inl ⟨hj a, b⟩
          · exact .inr ⟨hu a, b⟩
      · rw [if_neg hd]
        simp
    · have hk' : ¬ K4 r ∧ ¬ K2 r := ⟨fun h => hk (.inl h), fun h => hk (.inr h)⟩
      have hn := st_nk l u t r h0 hk' hL
      have d1 : ∀ (y : Int) (u j : Bool), ¬ K4 y → ¬ K2 y → ((j && kindI y == 4) || (u && kindI y == 2)) = false := by
        intro y u j a b
        have a' : (kindI y == 4) = false := by rw [← kind4] at a; simpa using a
        have b' : (kindI y == 2) = false := by rw [← kind2] at b; simpa using b
        rw [a', b']
        cases u <;> cases j <;> rfl
      rw [eo l u g t j, eo l' u' g' t' j', d1 r u j hk'.1 hk'.2, d1 r u' j' hk'.1 hk'.2]
      simp only [Bool.false_eq_true, if_false, List.flatMap_cons, List.flatMap_nil, List.append_nil]
      unfold out
      rw [lig_nil _ hn.2.2, d1 _ u' j' hn.1 hn.2.1]
      simp [st_st l u t l' u' t' hl hu ht r h0]

theorem st_scal (l u t : Bool) (r : Int) (h : Scal r) : Scal (st l u t r) := by
  by_cases h1 : r < 256
  · have : ∀ (l u t : Bool) (n : Fin 256), Scal (st l u t (n.val : Int)) := by decide +kernel
    have := this l u t ⟨r.toNat, by have := h.1; omega⟩
    simpa [Int.toNat_of_nonneg h.1] using this
  · by_cases h2 : r = 376
    · subst h2
      have : ∀ (l u t : Bool), Scal (st l u t 376) := by decide +kernel
      exact this l u t
    · rw [st_hi l u t r (by omega) h2]
      unfold Scal at *
      cases l with
      | false => simpa using h
      | true =>
        simp only [if_true]
        unfold smallI
        repeat' split
        all_goals omega
theorem out_scal (l u g t j : Bool) (r : Int) (h : Scal r) : ∀ x ∈ out l u g t j r, Scal x := by
  intro x hx
  unfold out at hx
  split at hx
  · cases hx
  · split at hx
    · obtain ⟨b, _, rfl⟩ := List.mem_map.1 hx
      exact st_scal _ _ _ _ (by have := b.toNat_lt; unfold Scal; omega)
    · rw [List.mem_singleton.1 hx]
      exact st_scal _ _ _ _ h

/-- The sums' own words. -/
def outO (opt r : Int) : List Int := out (decide (opt % 2 = 1)) (decide (opt / 2 % 2 = 1)) (decide (opt / 4 % 2 = 1)) (decide (opt / 8 % 2 = 1)) (decide (opt / 16 % 2 = 1)) r
theorem applyAll_st (opt x : Int) : applyAll (stepsOf opt) x = st (decide (opt % 2 = 1)) (decide (opt / 2 % 2 = 1)) (decide (opt / 8 % 2 = 1)) x := by
  have a : stepF 71 = smallI := by funext y; rfl
  have b : stepF 72 = unmarkedI := by funext y; rfl
  have c : stepF 73 = letterI := by funext y; rfl
  unfold stepsOf st applyAll
  by_cases h1 : opt % 2 = 1 <;> by_cases h2 : opt / 2 % 2 = 1 <;> by_cases h3 : opt / 8 % 2 = 1 <;> simp [h1, h2, h3, a, b, c]
theorem foldR_out (r opt : Int) : foldR (kindI r) r opt = (outO opt r).flatMap encI := by
  unfold foldR outO out dropB
  by_cases hd : ((decide (opt / 16 % 2 = 1) && kindI r == 4) || (decide (opt / 2 % 2 = 1) && kindI r == 2)) = true
  · rw [if_pos hd, if_pos hd]; rfl
  · rw [if_neg hd, if_neg hd]
    unfold runesOf
    by_cases hg : opt / 4 % 2 = 1 ∧ ligB r ≠ []
    · rw [if_pos hg, if_pos ⟨by simpa using hg.1, hg.2⟩, List.flatMap_map, List.flatMap_map]
      simp only [applyAll_st]
    · rw [if_neg hg, if_neg (fun h => hg ⟨by simpa using h.1, h.2⟩)]
      simp only [applyAll_st, List.flatMap_cons, List.flatMap_nil]
end Go.Proofs.YtblpiceallbfjaaDoor.Pr
