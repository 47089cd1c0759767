/- Plain facts on cells, no program in sight: what is written of a list of runes reads as just these runes. -/
import Derived.Test.YtblpiceallbfjaaDoorExtFold
import Derived.Lib.MapLaws
set_option linter.unusedVariables false
set_option linter.unusedSimpArgs false
namespace Go.Proofs.YtblpiceallbfjaaDoor.Pr
open Go.RowKit

/-- A scalar value. -/
def Scal (r : Int) : Prop := 0 ≤ r ∧ r ≤ 1114111 ∧ ¬ (55296 ≤ r ∧ r ≤ 57343)
instance (r : Int) : Decidable (Scal r) := by unfold Scal; exact inferInstance

theorem getG0 (a : UInt8) (l : List UInt8) : ByteArray.get! ⟨(a :: l).toArray⟩ 0 = a := rfl
theorem encI_cases (r : Int) (h : Scal r) :
    (r < 128 ∧ encI r = [UInt8.ofNat r.toNat]) ∨ (128 ≤ r ∧ r < 2048 ∧ encI r = [UInt8.ofNat (192 + r.toNat / 64), UInt8.ofNat (128 + r.toNat % 64)]) ∨
    (2048 ≤ r ∧ r < 65536 ∧ encI r = [UInt8.ofNat (224 + r.toNat / 4096), UInt8.ofNat (128 + r.toNat / 64 % 64), UInt8.ofNat (128 + r.toNat % 64)]) ∨
    (65536 ≤ r ∧ encI r = [UInt8.ofNat (240 + r.toNat / 262144), UInt8.ofNat (128 + r.toNat / 4096 % 64), UInt8.ofNat (128 + r.toNat / 64 % 64), UInt8.ofNat (128 + r.toNat % 64)]) := by
  obtain ⟨h0, h1, h2⟩ := h
  have hv : Utf8.valid r = true := by
    unfold Utf8.valid
    simp only [Bool.or_eq_true, Bool.and_eq_true, decide_eq_true_eq]
    omega
  unfold encI Utf8.encode
  rw [hv]
  simp only [if_true]
  by_cases c1 : r.toNat < 128
  · left; rw [if_pos c1]; exact ⟨by omega, rfl⟩
  by_cases c2 : r.toNat < 2048
  · right; left; rw [if_neg c1, if_pos c2]; exact ⟨by omega, by omega, rfl⟩
  by_cases c3 : r.toNat < 65536
  · right; right; left; rw [if_neg c1, if_neg c2, if_pos c3]; exact ⟨by omega, by omega, rfl⟩
  · right; right; right; rw [if_neg c1, if_neg c2, if_neg c3]; exact ⟨by omega, rfl⟩
theorem encI_pos (r : Int) (h : Scal r) : 1 ≤ (encI r).length := by
  rcases encI_cases r h with ⟨_, e⟩ | ⟨_, _, e⟩ | ⟨_, _, e⟩ | ⟨_, e⟩ <;> rw [e] <;> simp

theorem toN (n : Nat) (h : n < 256) : (UInt8.ofNat n).toNat = n := by simp [UInt8.toNat_ofNat', Nat.mod_eq_of_lt h]

theorem decode_enc (r : Int) (h : Scal r) (t : List UInt8) : Utf8.decode ⟨(encI r ++ t).toArray⟩ 0 = (r.toNat, (encI r).length) ∧ Utf8.decode ⟨(encI r ++ t).toArray⟩ 0 ≠ (65533, 1) := by
  obtain ⟨h0, h1, h2⟩ := id h
  rw [Lib.decode_at]
  rcases encI_cases r h with ⟨c, e⟩ | ⟨c, c', e⟩ | ⟨c, c', e⟩ | ⟨c, e⟩
  · rw [e]
    simp only [List.cons_append, List.nil_append]
    have e0 : (ByteArray.get! ⟨(UInt8.ofNat r.toNat :: t).toArray⟩ 0).toNat = r.toNat := by rw [getG0]; exact toN _ (by omega)
    rw [e0]
    unfold Lib.decodeN
    rw [if_pos (by omega)]
    refine ⟨by simp, fun q => ?_⟩
    have := congrArg Prod.fst q
    simp at this
    omega
  · rw [e]
    simp only [List.cons_append, List.nil_append]
    have e0 : (ByteArray.get! ⟨(UInt8.ofNat (192 + r.toNat / 64) :: UInt8.ofNat (128 + r.toNat % 64) :: t).toArray⟩ 0).toNat = 192 + r.toNat / 64 := by rw [getG0]; exact toN _ (by omega)
    have e1 : (ByteArray.get! ⟨(UInt8.ofNat (192 + r.toNat / 64) :: UInt8.ofNat (128 + r.toNat % 64) :: t).toArray⟩ (0 + 1)).toNat = 128 + r.toNat % 64 := by
      rw [show ByteArray.get! ⟨(UInt8.ofNat (192 + r.toNat / 64) :: UInt8.ofNat (128 + r.toNat % 64) :: t).toArray⟩ (0 + 1) = UInt8.ofNat (128 + r.toNat % 64) from rfl]; exact toN _ (by omega)
    have es : ((⟨(UInt8.ofNat (192 + r.toNat / 64) :: UInt8.ofNat (128 + r.toNat % 64) :: t).toArray⟩ : ByteArray).size - 0) = t.length + 2 := by simp [ByteArray.size]
    rw [e0, e1, es]
    unfold Lib.decodeN
    rw [if_neg (by omega), if_pos ⟨by omega, by omega, by omega⟩, if_pos (by omega)]
    refine ⟨?_, fun q => ?_⟩
    · simp; omega
    · have := congrArg Prod.snd q
      simp at this
  · rw [e]
    simp only [List.cons_append, List.nil_append]
    have e0 : (ByteArray.get! ⟨(UInt8.ofNat (224 + r.toNat / 4096) :: UInt8.ofNat (128 + r.toNat / 64 % 64) :: UInt8.ofNat (128 + r.toNat % 64) :: t).toArray⟩ 0).toNat = 224 + r.toNat / 4096 := by rw [getG0]; exact toN _ (by omega)
    have e1 : (ByteArray.get! ⟨(UInt8.ofNat (224 + r.toNat / 4096) :: UInt8.ofNat (128 + r.toNat / 64 % 64) :: UInt8.ofNat (128 + r.toNat % 64) :: t).toArray⟩ (0 + 1)).toNat = 128 + r.toNat / 64 % 64 := by
      rw [show ByteArray.get! ⟨(UInt8.ofNat (224 + r.toNat / 4096) :: UInt8.ofNat (128 + r.toNat / 64 % 64) :: UInt8.ofNat (128 + r.toNat % 64) :: t).toArray⟩ (0 + 1) = UInt8.ofNat (128 + r.toNat / 64 % 64) from rfl]; exact toN _ (by omega)
    have e2 : (ByteArray.get! ⟨(UInt8.ofNat (224 + r.toNat / 4096) :: UInt8.ofNat (128 + r.toNat / 64 % 64) :: UInt8.ofNat (128 + r.toNat % 64) :: t).toArray⟩ (0 + 2)).toNat = 128 + r.toNat % 64 := by
      rw [show ByteArray.get! ⟨(UInt8.ofNat (224 + r.toNat / 4096) :: UInt8.ofNat (128 + r.toNat / 64 % 64) :: UInt8.ofNat (128 + r.toNat % 64) :: t).toArray⟩ (0 + 2) = UInt8.ofNat (128 + r.toNat % 64) from rfl]; exact toN _ (by omega)
    have es : ((⟨(UInt8.ofNat (224 + r.toNat / 4096) :: UInt8.ofNat (128 + r.toNat / 64 % 64) :: UInt8.ofNat (128 + r.toNat % 64) :: t).toArray⟩ : ByteArray).size - 0) = t.length + 3 := by simp [ByteArray.size]
    rw [e0, e1, e2, es]
    unfold Lib.decodeN
    rw [if_neg (by omega), if_neg (by omega), if_pos ⟨by omega, ⟨by omega, by omega⟩, by omega, by omega⟩, if_pos (by omega)]
    refine ⟨?_, fun q => ?_⟩
    · simp; omega
    · have := congrArg Prod.snd q
      simp at this
  · rw [e]
    simp only [List.cons_append, List.nil_append]
    have e0 : (ByteArray.get! ⟨(UInt8.ofNat (240 + r.toNat / 262144) :: UInt8.ofNat (128 + r.toNat / 4096 % 64) :: UInt8.ofNat (128 + r.toNat / 64 % 64) :: UInt8.ofNat (128 + r.toNat % 64) :: t).toArray⟩ 0).toNat = 240 + r.toNat / 262144 := by rw [getG0]; exact toN _ (by omega)
    have e1 : (ByteArray.get! ⟨(UInt8.ofNat (240 + r.toNat / 262144) :: UInt8.ofNat (128 + r.toNat / 4096 % 64) :: UInt8.ofNat (128 + r.toNat / 64 % 64) :: UInt8.ofNat (128 + r.toNat % 64) :: t).toArray⟩ (0 + 1)).toNat = 128 + r.toNat / 4096 % 64 := by
      rw [show ByteArray.get! ⟨(UInt8.ofNat (240 + r.toNat / 262144) :: UInt8.ofNat (128 + r.toNat / 4096 % 64) :: UInt8.ofNat (128 + r.toNat / 64 % 64) :: UInt8.ofNat (128 + r.toNat % 64) :: t).toArray⟩ (0 + 1) = UInt8.ofNat (128 + r.toNat / 4096 % 64) from rfl]; exact toN _ (by omega)
    have e2 : (ByteArray.get! ⟨(UInt8.ofNat (240 + r.toNat / 262144) :: UInt8.ofNat (128 + r.toNat / 4096 % 64) :: UInt8.ofNat (128 + r.toNat / 64 % 64) :: UInt8.ofNat (128 + r.toNat % 64) :: t).toArray⟩ (0 + 2)).toNat = 128 + r.toNat / 64 % 64 := by
      rw [show ByteArray.get! ⟨(UInt8.ofNat (240 + r.toNat / 262144) :: UInt8.ofNat (128 + r.toNat / 4096 % 64) :: UInt8.ofNat (128 + r.toNat / 64 % 64) :: UInt8.ofNat (128 + r.toNat % 64) :: t).toArray⟩ (0 + 2) = UInt8.ofNat (128 + r.toNat / 64 % 64) from rfl]; exact toN _ (by omega)
    have e3 : (ByteArray.get! ⟨(UInt8.ofNat (240 + r.toNat / 262144) :: UInt8.ofNat (128 + r.toNat / 4096 % 64) :: UInt8.ofNat (128 + r.toNat / 64 % 64) :: UInt8.ofNat (128 + r.toNat % 64) :: t).toArray⟩ (0 + 3)).toNat = 128 + r.toNat % 64 := by
      rw [show ByteArray.get! ⟨(UInt8.ofNat (240 + r.toNat / 262144) :: UInt8.ofNat (128 + r.toNat / 4096 % 64) :: UInt8.ofNat (128 + r.toNat / 64 % 64) :: UInt8.ofNat (128 + r.toNat % 64) :: t).toArray⟩ (0 + 3) = UInt8.ofNat (128 + r.toNat % 64) from rfl]; exact toN _ (by omega)
    have es : ((⟨(UInt8.ofNat (240 + r.toNat / 262144) :: UInt8.ofNat (128 + r.toNat / 4096 % 64) :: UInt8.ofNat (128 + r.toNat / 64 % 64) :: UInt8.ofNat (128 + r.toNat % 64) :: t).toArray⟩ : ByteArray).size - 0) = t.length + 4 := by simp [ByteArray.size]
    rw [e0, e1, e2, e3, es]
    unfold Lib.decodeN
    rw [if_neg (by omega), if_neg (by omega), if_neg (by omega), if_pos ⟨by omega, ⟨by omega, by omega⟩, ⟨by omega, by omega⟩, by omega, by omega⟩, if_pos (by omega)]
    refine ⟨?_, fun q => ?_⟩
    · simp; omega
    · have := congrArg Prod.snd q
      simp at this

theorem extract_app (p l : List UInt8) : (⟨(p ++ l).toArray⟩ : ByteArray).extract p.length (⟨(p ++ l).toArray⟩ : ByteArray).size = ⟨l.toArray⟩ := by
  apply ByteArray.ext
  simp [ByteArray.size]

theorem cellsFrom_enc (rs : List Int) (hs : ∀ r ∈ rs, Scal r) : ∀ (p : List UInt8) (fuel : Nat), (rs.flatMap encI).length ≤ fuel →
    (cellsFrom ⟨(p ++ rs.flatMap encI).toArray⟩ fuel p.length).map (fun c => (c.f2, c.f3)) = rs.map (fun r => (r, false)) := by
  induction rs with
  | nil =>
    intro p fuel _
    rw [cellsFrom_end _ _ _ (by simp [ByteArray.size])]
    rfl
  | cons r rs ih =>
    intro p fuel hf
    have hr := hs r (by simp)
    have hp := encI_pos r hr
    rw [List.flatMap_cons] at hf ⊢
    rw [List.length_append] at hf
    obtain ⟨f, rfl⟩ : ∃ f, fuel = f + 1 := ⟨fuel - 1, by omega⟩
    have hlt : p.length < (⟨(p ++ (encI r ++ rs.flatMap encI)).toArray⟩ : ByteArray).size := by simp [ByteArray.size]; omega
    have hd := decode_enc r hr (rs.flatMap encI)
    rw [← extract_app p (encI r ++ rs.flatMap encI), Utf.decode_extract] at hd
    rw [cellsFrom_at _ _ _ hlt, cellAt_good hd.2, hd.1, List.map_cons, List.map_cons]
    have e := ih (fun x hx => hs x (List.mem_cons_of_mem _ hx)) (p ++ encI r) f (by omega)
    rw [List.append_assoc, List.length_append] at e
    rw [e]
    obtain ⟨h0, _, _⟩ := hr
    rw [show ((r.toNat : Nat) : Int) = r by omega]
/-- What is written of scalar values reads as just these. -/
theorem cells_enc (rs : List Int) (hs : ∀ r ∈ rs, Scal r) : (cells ⟨(rs.flatMap encI).toArray⟩).map (fun c => (c.f2, c.f3)) = rs.map (fun r => (r, false)) := by
  have := cellsFrom_enc rs hs [] (rs.flatMap encI).length (Nat.le_refl _)
  simpa [cells, ByteArray.size] using this

/-- A rune that was read is a scalar value. -/
theorem decode_scal (s : ByteArray) (p : Nat) (h : Utf8.decode s p ≠ (65533, 1)) : Scal ((Utf8.decode s p).1 : Int) := by
  rw [Lib.decode_at] at h ⊢
  rcases Lib.decodeN_shape (s.size - p) (s.get! p).toNat (s.get! (p + 1)).toNat (s.get! (p + 2)).toNat (s.get! (p + 3)).toNat with ⟨c, e⟩ | ⟨c1, c2, c3, cv, e⟩ | ⟨c1, c2, c3, c4, cv, cs, e⟩ | ⟨c1, c2, c3, c4, c5, cv, cw, e⟩ | e
  · rw [e]; unfold Scal; simp only; omega
  · rw [e]; unfold Scal; simp only; omega
  · rw [e]; unfold Scal; simp only; omega
  · rw [e]; unfold Scal; simp only; omega
  · exact absurd e h
theorem cellsFrom_scal (s : ByteArray) : ∀ fuel pos, ∀ c ∈ cellsFrom s fuel pos, c.f3 = false → Scal c.f2 := by
  intro fuel
  induction fuel with
  | zero => intro pos c hc; simp [cellsFrom] at hc
  | succ f ih =>
    intro pos c hc h3
    by_cases hp : pos < s.size
    · rw [cellsFrom_at _ _ _ hp] at hc
      rcases List.mem_cons.1 hc with rfl | hc
      · by_cases hb : Utf8.decode s pos = (65533, 1)
        · rw [cellAt_bad hb] at h3; cases h3
        · rw [cellAt_good hb]; exact decode_scal s pos hb
      · exact ih _ c hc h3
    · rw [cellsFrom_end _ _ _ hp] at hc; cases hc
theorem cells_scal (s : ByteArray) : ∀ c ∈ cells s, c.f3 = false → Scal c.f2 := cellsFrom_scal s _ _
end Go.Proofs.YtblpiceallbfjaaDoor.Pr
