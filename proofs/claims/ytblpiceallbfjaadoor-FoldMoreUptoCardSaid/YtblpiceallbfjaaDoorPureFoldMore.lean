/- FoldMore, the plain law: folded by less and then by more is folded by more. -/
import Derived.Test.YtblpiceallbfjaaDoorPr7
import Derived.Test.YtblpiceallbfjaaDoorPureFold
import Derived.Test.YtblpiceallbfjaaDoorPureRef1
set_option linter.unusedVariables false
namespace Go.Proofs.YtblpiceallbfjaaDoor.Pr
open Go.RowKit

theorem awake_true : siglumlaw03_awake.f = some true := by decide +kernel

theorem valid_l0 (k : Nat) (cs : List S67) (hlen : cs.length ≤ 1099511627776) (r : Bool) : ∀ (i : Nat), i ≤ cs.length → (h : siglumref01_Valid.l0 k cs (i : Int) = some true) → ∀ j (hj : j < cs.length), i ≤ j → cs[j].f3 = false := by
  induction k with
  | zero => intro i _ h; simp [siglumref01_Valid.l0] at h
  | succ k ih =>
    intro i hi h j hj hij
    simp only [siglumref01_Valid.l0] at h
    have hlt : (i : Int) < (cs.length : Int) := by omega
    rw [if_pos hlt, if_pos (by omega)] at h
    have hrd : rd_T67 cs (i : Int) = cs[i]'(by omega) := by simp [rd_T67, List.getD_eq_getElem?_getD, show i < cs.length by omega]
    rw [hrd] at h
    by_cases hc : (cs[i]'(by omega)).f3 = true
    · rw [if_pos hc] at h; cases h
    · rw [if_neg hc, show wrap64 ((i : Int) + 1) = ((i + 1 : Nat) : Int) by unfold wrap64; omega] at h
      by_cases e : i = j
      · subst e; simpa using hc
      · exact ih (i + 1) (by omega) h j hj (by omega)
/-- A loop over all cells ends. -/
theorem valid_l0_ends (cs : List S67) (hlen : cs.length ≤ 1099511627776) : ∀ (d i : Nat), i + d = cs.length → ∃ v, siglumref01_Valid.l0 (d + 1) cs (i : Int) = some v := by
  intro d
  induction d with
  | zero =>
    intro i hi
    simp only [siglumref01_Valid.l0]
    rw [if_neg (by omega)]
    exact ⟨_, rfl⟩
  | succ d ih =>
    intro i hi
    simp only [siglumref01_Valid.l0]
    rw [if_pos (by omega), if_pos (by omega)]
    split
    · exact ⟨_, rfl⟩
    · obtain ⟨v, hv⟩ := ih (i + 1) (by omega)
      rw [show wrap64 ((i : Int) + 1) = ((i + 1 : Nat) : Int) by unfold wrap64; omega]
      exact ⟨v, hv⟩

theorem textB_good (opt : Int) (cs : List S67) (h : ∀ c ∈ cs, c.f3 = false) : textB opt cs = (cs.map (·.f2)).flatMap fun r => (outO opt r).flatMap encI := by
  unfold textB
  induction cs with
  | nil => rfl
  | cons c cs ih =>
    rw [List.flatMap_cons, List.map_cons, List.flatMap_cons, ih (fun c hc => h c (List.mem_cons_of_mem _ hc))]
    congr 1
    unfold cellB
    rw [h c (by simp)]
    simp only [Bool.false_eq_true, if_false]
    exact foldR_out _ _
theorem flatMap_congr' {α β : Type} {l : List α} {f g : α → List β} (h : ∀ x ∈ l, f x = g x) : l.flatMap f = l.flatMap g := by
  induction l with
  | nil => rfl
  | cons x l ih => rw [List.flatMap_cons, List.flatMap_cons, h x (by simp), ih (fun y hy => h y (List.mem_cons_of_mem _ hy))]
theorem enc_size (rs : List Int) (n : Nat) (h : (rs.flatMap encI).length ≤ n) : (⟨(rs.flatMap encI).toArray⟩ : ByteArray).size ≤ n := by simpa [ByteArray.size] using h

theorem bits_sub : ∀ o m : Fin 32, Go.bits .and .i64 (o.val : Int) (m.val : Int) = (o.val : Int) → (decide ((o.val : Int) % 2 = 1) = true → decide ((m.val : Int) % 2 = 1) = true) ∧ (decide ((o.val : Int) / 2 % 2 = 1) = true → decide ((m.val : Int) / 2 % 2 = 1) = true) ∧ (decide ((o.val : Int) / 4 % 2 = 1) = true → decide ((m.val : Int) / 4 % 2 = 1) = true) ∧ (decide ((o.val : Int) / 8 % 2 = 1) = true → decide ((m.val : Int) / 8 % 2 = 1) = true) ∧ (decide ((o.val : Int) / 16 % 2 = 1) = true → decide ((m.val : Int) / 16 % 2 = 1) = true) := by decide +kernel

theorem fold_more (s : ByteArray) (opt more : Int) (h0 : 0 ≤ opt) (h1 : opt ≤ 31) (m0 : 0 ≤ more) (m1 : more ≤ 31) (hs : Go.bits .and .i64 opt more = opt) (hv : ∀ c ∈ cells s, c.f3 = false) :
    textB more (cells ⟨(textB opt (cells s)).toArray⟩) = textB more (cells s) := by
  obtain ⟨o, rfl⟩ := Int.eq_ofNat_of_zero_le h0
  obtain ⟨m, rfl⟩ := Int.eq_ofNat_of_zero_le m0
  obtain ⟨b1, b2, b3, b4, b5⟩ := bits_sub ⟨o, by omega⟩ ⟨m, by omega⟩ hs
  have hsc : ∀ r ∈ (cells s).map (·.f2), Scal r := by
    intro r hr
    obtain ⟨c, hc, rfl⟩ := List.mem_map.1 hr
    exact cells_scal s c hc (hv c hc)
  rw [textB_good o _ hv, textB_good m _ hv]
  generalize (cells s).map (·.f2) = rs at hsc
  have e1 : (rs.flatMap fun r => (outO o r).flatMap encI) = (rs.flatMap (outO o)).flatMap encI := by rw [List.flatMap_assoc]
  rw [e1]
  have hsc2 : ∀ x ∈ rs.flatMap (outO o), Scal x := by
    intro x hx
    obtain ⟨r, hr, hx⟩ := List.mem_flatMap.1 hx
    exact out_scal _ _ _ _ _ r (hsc r hr) x hx
  have hce := cells_enc (rs.flatMap (outO o)) hsc2
  have hg : ∀ c ∈ cells ⟨((rs.flatMap (outO o)).flatMap encI).toArray⟩, c.f3 = false := by
    intro c hc
    have : (c.f2, c.f3) ∈ (rs.flatMap (outO o)).map (fun r => (r, false)) := by rw [← hce]; exact List.mem_map.2 ⟨c, hc, rfl⟩
    obtain ⟨x, _, hx⟩ := List.mem_map.1 this
    exact (congrArg Prod.snd hx).symm
  have hm : (cells ⟨((rs.flatMap (outO o)).flatMap encI).toArray⟩).map (·.f2) = rs.flatMap (outO o) := by
    have := congrArg (List.map Prod.fst) hce
    simpa [List.map_map, Function.comp_def] using this
  rw [textB_good m _ hg, hm, List.flatMap_assoc]
  refine flatMap_congr' fun r hr => ?_
  have h := out_out _ _ _ _ _ _ _ _ _ _ b1 b2 b3 b4 b5 r (hsc r hr).1
  have e2 : ((outO o r).flatMap fun x => (outO m x).flatMap encI) = ((outO o r).flatMap (outO m)).flatMap encI := by rw [List.flatMap_assoc]
  rw [e2]
  exact congrArg (List.flatMap encI) h

theorem foldMore_pure (a0 : ByteArray) (a1 a2 : Int) (hb : a0.size ≤ 1048576) : ∃ k, siglumlaw03_FoldMore.f k a0 a1 a2 = some true := by
  obtain ⟨kc, hc⟩ := refCells_ends a0 hb
  have hcl := cells_len a0
  refine ⟨kc + (cells a0).length + 2, ?_⟩
  unfold siglumlaw03_FoldMore.f
  rw [awake_true]
  simp only [Option.bind_some, if_true]
  have jt : ∀ k, siglumlaw03_FoldMore.j0 (k + 1) a0 a1 a2 true = some true := fun k => by simp [siglumlaw03_FoldMore.j0]
  by_cases h0 : a1 < 0
  · rw [if_pos h0]; exact jt _
  rw [if_neg h0]
  by_cases h1 : a1 > 31
  · rw [if_pos h1]; exact jt _
  rw [if_neg h1]
  by_cases m0 : a2 < 0
  · rw [if_pos m0]; exact jt _
  rw [if_neg m0]
  by_cases m1 : a2 > 31
  · rw [if_pos m1]; exact jt _
  rw [if_neg m1]
  by_cases hs : Go.bits .and .i64 a1 a2 = a1
  · rw [if_pos hs]
    unfold siglumref01_Valid.f
    rw [hc _ (by omega)]
    simp only [Option.bind_some]
    obtain ⟨v, hv⟩ := valid_l0_ends (cells a0) (by omega) (cells a0).length 0 (by omega)
    have hv' : siglumref01_Valid.l0 (kc + (cells a0).length + 2) (cells a0) 0 = some v := by
      have mono : ∀ d, siglumref01_Valid.l0 ((cells a0).length + 1 + d) (cells a0) 0 = some v := by
        intro d
        induction d with
        | zero => exact hv
        | succ d ih => exact siglumref01_Valid.mono_l _ _ _ _ ih
      rw [show kc + (cells a0).length + 2 = (cells a0).length + 1 + (kc + 1) by omega]
      exact mono _
    rw [hv']
    simp only [Option.bind_some]
    cases v with
    | false => exact jt _
    | true =>
      have hg : ∀ c ∈ cells a0, c.f3 = false := by
        intro c hc
        obtain ⟨j, hj, rfl⟩ := List.mem_iff_getElem.1 hc
        exact valid_l0 _ _ (by omega) true 0 (by omega) hv' j hj (by omega)
      have hf := fold_more a0 a1 a2 (by omega) (by omega) (by omega) (by omega) hs hg
      have hl := textB_len a1 (cells a0)
      simp only [siglumlaw03_FoldMore.j0, Bool.not_true, Bool.false_eq_true, if_false]
      unfold fold_Text.f
      rw [if_neg h0, if_neg (by omega), if_pos (by omega)]
      simp only [Option.bind_some]
      rw [if_neg m0, if_neg (by omega), if_pos (by simp [ByteArray.size]; omega)]
      simp only [Option.bind_some]
      rw [if_neg m0, if_neg (by omega), if_pos (by omega)]
      simp only [Option.bind_some, if_true]
      rw [hf]
      simp
  · rw [if_neg hs]; exact jt _
end Go.Proofs.YtblpiceallbfjaaDoor.Pr
