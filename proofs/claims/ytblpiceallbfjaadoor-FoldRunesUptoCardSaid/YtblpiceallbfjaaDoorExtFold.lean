/- fold.Rune and fold.Text: what they answer, and that the code comes to it, under the tables that decoding and strings.Fields read. -/
import Derived.Test.YtblpiceallbfjaaDoorFoldE
import Derived.Test.YtblpiceallbfjaaDoorExtCells
set_option linter.unusedVariables false
set_option linter.unusedSimpArgs false
namespace Go.Proofs.YtblpiceallbfjaaDoor.Pr
open Go.RowKit Go.Proofs.YtblpiceallbfjaaDoorW.PrintWords Go.Proofs.YtblpiceallbfjaaDoorW.PrintLast Go.Proofs.YtblpiceallbfjaaDoorW.PrintMore

/-! ### a rune's kind is always told -/
/-- A rune's kind. -/
abbrev kindI (r : Int) : Int := kindX r
theorem kind_is (r : Int) : kind_Of.f r = some (kindI r) := rfl

theorem fold_any (B b : Nat) (l : List UInt8) (r opt : Int) (A : Option Addr) (n c : Nat) (w : World) (hG : Gu w) (hr : -2147483648 ≤ r) (h0 : 0 ≤ opt) (h1 : opt ≤ 31)
    (hb : Lib.IsBuilderF 72 5 B b (Lib.byteCells l) w) (hA : (A = none ∧ n = 0) ∨ ∃ ga, A = some ⟨ga, 0, none⟩) (hF : Funcs w A n (stepsOf opt)) (hlen : l.length + 100 ≤ 140737488355328) (hBw : B ≤ w.heap.size) :
    Calls Tryd.prog 42 #[.pointer (some ⟨b, 0, none⟩), .int .i32 r, .int .i64 opt, .slice A n c] w fun e w' => e = .returned (.tuple #[]) ∧ Lib.IsBuilderF 72 5 B b (Lib.byteCells (l ++ foldR (kindI r) r opt)) w' ∧ Below B w w' ∧ Lib.OthersKept 5 (some b) w w' := by
  cases hd : dropB (kindI r) opt with
  | false => exact fold_keep B b l r opt (kindI r) A n c w hG hr (kind_is r) h0 h1 hd hb hA hF hlen hBw
  | true =>
    refine (fold_drop b r opt (kindI r) A n c w (kind_is r) h0 h1 hd).mono ?_
    rintro e w' ⟨rfl, hD⟩
    refine ⟨rfl, ?_, hD.below.mono hBw, others_below hD.below⟩
    have : foldR (kindI r) r opt = [] := by unfold foldR; rw [hd]; rfl
    rw [this, List.append_nil]
    exact builder_below hb hD.below

/-- A slice of steps out of what 'steps' hands back. -/
theorem funcs_of_own {w : World} {base : Nat} {v : Value} {fs : List Nat} (h : w.ownsRow base 82 1 v (fs.map fv).length (fs.map fv)) : ∃ A c, v = .slice A fs.length c ∧ ((A = none ∧ fs.length = 0) ∨ ∃ ga, A = some ⟨ga, 0, none⟩) ∧ Funcs w A fs.length fs := by
  rcases h.2 with ⟨rfl, h0⟩ | ⟨g, cap, cur, rfl, _, hg, hle, _, _, htk⟩
  · have h0' : fs.length = 0 := by simpa using h0
    exact ⟨none, 0, by rw [h0'], .inl ⟨rfl, h0'⟩, rfl, fun h => absurd h (by omega)⟩
  · refine ⟨some ⟨g, 0, none⟩, cap, by simp, .inr ⟨g, rfl⟩, rfl, fun _ => ⟨g, cur, (0, 0), rfl, hg, fun j hj => ?_⟩⟩
    have h2 : (cur.toList.take ((fs.map fv).length * 1))[j]? = some (fv fs[j]) := by rw [htk]; simp [hj]
    rw [List.getElem?_take] at h2
    rw [if_pos (by simp; exact hj)] at h2
    simpa using h2

def fold_Rune.f (a0 : Int) (a1 : Int) : Option (ByteArray × Int) := if a1 < 0 then some (⟨#[]⟩, 2) else if 31 < a1 then some (⟨#[]⟩, 2) else if -2147483648 ≤ a0 then some (⟨(foldR (kindI a0) a0 a1).toArray⟩, 0) else none

set_option maxHeartbeats 4000000 in
set_option maxRecDepth 100000 in
theorem fold_Rune.calls (a0 a1 : Int) (r1 : ByteArray) (r2 : Int) (w : World) (hG : Gu w) (h : fold_Rune.f a0 a1 = some (r1, r2)) :
    Calls Tryd.prog 16 #[.int .i32 a0, .int .i64 a1] w fun e w' => e = .returned (.tuple #[.string r1, .int .i64 r2]) ∧ Below w.heap.size w w' := by
  unfold fold_Rune.f at h
  by_cases h0 : a1 < 0
  · rw [if_pos h0] at h
    obtain ⟨rfl, rfl⟩ := Prod.mk.inj (Option.some.inj h)
    clear h
    go_enter Tryd.func16, Tryd.ntmps16
    go_wp2
    go_ret2
    exact ⟨rfl, Below.refl _ _⟩
  by_cases h1 : 31 < a1
  · rw [if_neg h0, if_pos h1] at h
    obtain ⟨rfl, rfl⟩ := Prod.mk.inj (Option.some.inj h)
    clear h
    go_enter Tryd.func16, Tryd.ntmps16
    go_wp2
    go_ret2
    exact ⟨rfl, Below.refl _ _⟩
  rw [if_neg h0, if_neg h1] at h
  by_cases hr : -2147483648 ≤ a0
  · rw [if_pos hr] at h
    obtain ⟨rfl, rfl⟩ := Prod.mk.inj (Option.some.inj h)
    clear h
    have h0' : 0 ≤ a1 := by omega
    have h1' : a1 ≤ 31 := by omega
    clear h0 h1
    have hw1 : Below w.heap.size w (w.alloc (.cells #[.pointer none, .slice none 0 0] 72)) := (Below.refl _ w).alloc (Nat.le_refl _) _
    have hI := Lib.hid ((Lib.IsBuilderF.of (Lib.fresh_isBuilder 72 5 w)))
    have HW1 := Lib.hid hw1
    have CS := fun W => fold_steps a1 W h0' h1'
    clear hw1
    go_enter Tryd.func16, Tryd.ntmps16
    go_wp2_with (first | (go_at_call 38; go_in) | (go_at_call 39; refine (CS _).mono ?_; rintro e w2 ⟨v, rfl, hown, hb2⟩; obtain ⟨A, c, hv, hA, hF⟩ := funcs_of_own hown; subst hv; have HAF := Lib.hid (And.intro hA hF); clear hA hF hown))
    obtain ⟨hA, hF⟩ := HAF.out
    have hI2 := builder_below hI.out hb2
    have HB2 := Lib.hid (HW1.out.trans (hb2.mono HW1.out.size))
    have hG2 := hG.below HB2.out
    have CF := fold_any w.heap.size w.heap.size [] a0 a1 A _ c w2 hG2 hr h0' h1' hI2 hA hF (by simp) HB2.out.size
    clear hb2 CS hI hI2 hA hF
    go_wp2_with (first | (go_at_call 42; refine CF.mono ?_; rintro e w3 ⟨rfl, h3, b3, _⟩))
    have HB3 := Lib.hid (HB2.out.trans b3)
    clear CF b3
    rw [List.nil_append] at h3
    go_wp2_with (first | (go_at_call 43; refine (Tryd.Builder_String_any_k w.heap.size w.heap.size _ _ h3 HB3.out.size).mono ?_; rintro e w4 ⟨rfl, _, b4, _⟩))
    go_ret2
    exact ⟨rfl, HB3.out.trans b4⟩
  · rw [if_neg hr] at h
    cases h

/-! ### a text -/
/-- What is written of a cell. -/
def cellB (opt : Int) (c : S67) : List UInt8 := if c.f3 = true then [c.f4.toNat.toUInt8] else foldR (kindI c.f2) c.f2 opt
def textB (opt : Int) (cs : List S67) : List UInt8 := cs.flatMap (cellB opt)
def fold_Text.f (a0 : ByteArray) (a1 : Int) : Option (ByteArray × Int) := if a1 < 0 then some (⟨#[]⟩, 2) else if 31 < a1 then some (⟨#[]⟩, 2) else if a0.size ≤ 1099511627776 then some (⟨(textB a1 (cells a0)).toArray⟩, 0) else none

theorem bt_nat (s : ByteArray) (i : Int) : 0 ≤ bt s i ∧ bt s i ≤ 255 := bt_range s i
/-- The cells of a text: a bad one holds a byte; a rune is none below 0. -/
theorem cellsFrom_ok (s : ByteArray) : ∀ fuel pos, ∀ c ∈ cellsFrom s fuel pos, 0 ≤ c.f4 ∧ c.f4 ≤ 255 ∧ 0 ≤ c.f2 := by
  intro fuel
  induction fuel with
  | zero => intro pos c hc; simp [cellsFrom] at hc
  | succ f ih =>
    intro pos c hc
    unfold cellsFrom at hc
    split at hc
    · rcases List.mem_cons.1 hc with rfl | hc
      · unfold cellAt
        split
        · exact ⟨(bt_nat s pos).1, (bt_nat s pos).2, by show (0 : Int) ≤ 65533; decide⟩
        · exact ⟨by show (0 : Int) ≤ 0; decide, by show (0 : Int) ≤ 255; decide, by show (0 : Int) ≤ ((Utf8.decode s pos).1 : Int); omega⟩
      · exact ih _ c hc
    · simp at hc
theorem cellsFrom_len (s : ByteArray) : ∀ fuel pos, (cellsFrom s fuel pos).length ≤ s.size - pos := by
  intro fuel
  induction fuel with
  | zero => intro pos; simp [cellsFrom]
  | succ f ih =>
    intro pos
    unfold cellsFrom
    split
    · rename_i h
      have h1 := ih (pos + (Utf8.decode s pos).2)
      have h2 := Utf.width_pos s pos h
      simp only [List.length_cons]
      omega
    · simp
theorem cells_len (s : ByteArray) : (cells s).length ≤ s.size := by have := cellsFrom_len s s.size 0; simpa [cells] using this
theorem foldR_len (kd r opt : Int) : (foldR kd r opt).length ≤ 12 := by
  unfold foldR
  split
  · simp
  · have h1 := flat_len (stepsOf opt) (runesOf r opt)
    have h2 := runesOf_len r opt
    omega
theorem cellB_len (opt : Int) (c : S67) : (cellB opt c).length ≤ 12 := by
  unfold cellB
  split
  · simp
  · exact foldR_len _ _ _
theorem textB_len (opt : Int) (cs : List S67) : (textB opt cs).length ≤ 12 * cs.length := by
  unfold textB
  induction cs with
  | nil => simp
  | cons c cs ih =>
    have := cellB_len opt c
    simp only [List.flatMap_cons, List.length_append, List.length_cons]
    omega
theorem textB_take (opt : Int) (cs : List S67) (i : Nat) (h : i < cs.length) : textB opt (cs.take (i + 1)) = textB opt (cs.take i) ++ cellB opt cs[i] := by
  unfold textB
  rw [List.take_succ_eq_append_getElem h, List.flatMap_append]
  simp

/-- A row of cells stays where a builder is written. -/
theorem R_others {w w' : World} {base b : Nat} {v : Value} {xs : List S67} {ok : Nat → Prop} (h : Kd.R k67 67 w base ok v xs) (hk : Lib.OthersKept 5 (some b) w w') (hb : ∃ cs, w.heap[b]? = some (.cells cs 72 (0, 0))) : Kd.R k67 67 w' base ok v xs := by
  refine Kd.R_mono (Kd.R_move (Kd.R_bound h) (fun k hk2 => ?_)) (fun _ h => h.1)
  obtain ⟨_, _, _, q, hq, cs, hc⟩ := hk2
  have hq' : q = 67 := by
    rcases List.mem_cons.1 hq with h | h
    · exact h
    · cases h
  subst hq'
  rw [hk k _ hc ?_ ?_, hc]
  · intro e
    obtain ⟨cs', hcs⟩ := hb
    injection e with e
    rw [e, hcs] at hc
    injection hc with hc
    injection hc with _ hc
    revert hc; decide
  · intro c fz' e
    injection e with _ e
    revert e; decide

set_option maxHeartbeats 8000000 in
set_option maxRecDepth 100000 in
theorem fold_Text.calls (a0 : ByteArray) (a1 : Int) (r1 : ByteArray) (r2 : Int) (w : World) (hG : Gu w) (h : fold_Text.f a0 a1 = some (r1, r2)) :
    Calls Tryd.prog 15 #[.string a0, .int .i64 a1] w fun e w' => e = .returned (.tuple #[.string r1, .int .i64 r2]) ∧ Below w.heap.size w w' := by
  unfold fold_Text.f at h
  by_cases h0 : a1 < 0
  · rw [if_pos h0] at h
    obtain ⟨rfl, rfl⟩ := Prod.mk.inj (Option.some.inj h)
    clear h
    go_enter Tryd.func15, Tryd.ntmps15
    go_wp2
    go_ret2
    exact ⟨rfl, Below.refl _ _⟩
  by_cases h1 : 31 < a1
  · rw [if_neg h0, if_pos h1] at h
    obtain ⟨rfl, rfl⟩ := Prod.mk.inj (Option.some.inj h)
    clear h
    go_enter Tryd.func15, Tryd.ntmps15
    go_wp2
    go_ret2
    exact ⟨rfl, Below.refl _ _⟩
  rw [if_neg h0, if_neg h1] at h
  by_cases hr : a0.size ≤ 1099511627776
  · rw [if_pos hr] at h
    obtain ⟨rfl, rfl⟩ := Prod.mk.inj (Option.some.inj h)
    clear h
    have h0' : 0 ≤ a1 := by omega
    have h1' : a1 ≤ 31 := by omega
    clear h0 h1
    have hw1 : Below w.heap.size w (w.alloc (.cells #[.pointer none, .slice none 0 0] 72)) := (Below.refl _ w).alloc (Nat.le_refl _) _
    have hI := Lib.hid ((Lib.IsBuilderF.of (Lib.fresh_isBuilder 72 5 w)))
    have HW1 := Lib.hid hw1
    have CS := fun W => fold_steps a1 W h0' h1'
    have hcl := cells_len a0
    have HOKC := Lib.hid (cellsFrom_ok a0 a0.size 0)
    have CC := fun W hG => glyph_Cells.calls a0 (cells a0) W hG (by unfold glyph_Cells.f; rw [if_pos hr])
    rw [show cellsFrom a0 a0.size 0 = cells a0 from rfl] at HOKC
    have hu := Tryd.underlying67
    clear hw1
    generalize cells a0 = cs at *
    go_enter Tryd.func15, Tryd.ntmps15
    go_wp2_with (first | (go_at_call 38; go_in) | (go_at_call 39; refine (CS _).mono ?_; rintro e w2 ⟨v, rfl, hown, hb2⟩; obtain ⟨A, c, hv, hA, hF⟩ := funcs_of_own hown; subst hv; have HAF := Lib.hid (And.intro hA hF); clear hA hF hown))
    have hI2 := Lib.hid (builder_below hI.out hb2)
    have HB2 := Lib.hid (HW1.out.trans (hb2.mono HW1.out.size))
    have hG2 := hG.below HB2.out
    clear hb2 CS hI HW1
    go_wp2_with (go_at_call 40; refine (CC _ hG2).mono ?_; rintro e w3 ⟨v3, rfl, hR, hb3⟩; obtain ⟨A3, c3, hv3⟩ := Kd.R_slice hR; subst hv3; have HRC := Lib.hid hR; clear hR)
    have hI3 := Lib.hid (builder_below hI2.out hb3)
    have HB3 := Lib.hid (HB2.out.trans (hb3.mono HB2.out.size))
    have HF3 := Lib.hid (HAF.out.2.others (others_below hb3) (builder_block hI2.out))
    have HA3 := Lib.hid HAF.out.1
    have hG3 := hG.below HB3.out
    clear hb3 CC HB2 hI2 HAF hG2
    go_loopw [17] (fun v wr => ∃ i : Nat, v = .int .i64 i ∧ i ≤ cs.length ∧ Aside0 (Lib.IsBuilderF 72 5 w.heap.size w.heap.size (Lib.byteCells (textB a1 (cs.take i))) wr) ∧ Aside0 (Below w.heap.size w3 wr) ∧ Aside0 (Lib.OthersKept 5 (some w.heap.size) w3 wr)) (fun v _ => cs.length - (intOf v).toNat)
    case atStart => exact ⟨0, rfl, Nat.zero_le _, ⟨hI3.out⟩, ⟨Below.refl _ _⟩, ⟨Lib.OthersKept.refl _ _ _⟩⟩
    case round =>
      obtain ⟨i, rfl, hi, HI, HBr, HOr⟩ := hrel
      by_cases hlt : i < cs.length
      · have hlt2 : (i : Int) < (cs.length : Int) := by omega
        obtain ⟨ad, e3, x0, x1, x2, x3, x4⟩ := at_T67 (Kd.R_reads' (R_others HRC.out HOr.out (builder_block hI3.out))).2.2 (i : Int) (by omega) hlt2
        cases e3
        have hrd : rd_T67 cs (i : Int) = cs[i] := by simp [rd_T67, List.getD_eq_getElem?_getD, hlt]
        rw [hrd] at x0 x1 x2 x3 x4
        simp only [Int.toNat_natCast] at x0 x1 x2 x3 x4
        obtain ⟨hc4, hc4', hc2⟩ := HOKC.out cs[i] (List.getElem_mem hlt)
        have HST := Lib.hid (textB_take a1 cs i hlt)
        have hlen' : (textB a1 (cs.take i)).length + 100 ≤ 140737488355328 := by
          have h1 := textB_len a1 (cs.take i)
          have h2 : (cs.take i).length ≤ cs.length := List.length_take_le' i cs
          omega
        have HLEN := Lib.hid hlen'
        generalize cs[i] = cc at *
        obtain ⟨f0, f1, f2, f3, f4⟩ := cc
        simp only at x0 x1 x2 x3 x4 hc4 hc4' hc2
        have hal : ∀ o, Below wr.heap.size wr (wr.alloc o) := fun o => (Below.refl _ wr).alloc (Nat.le_refl _) o
        have hszr := Nat.le_trans HB3.out.size HBr.out.size
        have HALB := Lib.hid (fun o => HBr.out.trans ((hal o).mono hszr))
        have HALO := Lib.hid (fun o => HOr.out.trans (others_below (e := 5) (b := some w.heap.size) (hal o)))
        clear hrd hlen'
        cases f3 with
        | true =>
          have CW := fun o => Build.WriteByte_k w.heap.size w.heap.size _ f4 (wr.alloc o) (builder_below HI.out (hal o)) (by rw [Lib.byteCells_length]; have := HLEN.out; omega) (Nat.le_trans hszr (hal o).size)
          have HF4 := Lib.hid (show f4 = ((f4.toNat.toUInt8).toNat : Int) by
            have : f4.toNat < 256 := by omega
            have e : (f4.toNat.toUInt8).toNat = f4.toNat := by
              simp [Nat.toUInt8, UInt8.toNat_ofNat', Nat.mod_eq_of_lt this]
            rw [e]
            omega)
          clear hal hc4 hc4' hc2
          go_wp2_with (go_at_call 41; refine (CW _).mono ?_; rintro e w4 ⟨rfl, h4, b4, k4⟩)
          have H4 := Lib.hid h4
          have HB4 := Lib.hid ((HALB.out _).trans b4)
          have HK4 := Lib.hid ((HALO.out _).trans k4)
          clear h4 b4 k4 CW
          go_wp2
          go_roundw
          case rel =>
            refine ⟨i + 1, by go_num, hlt, ⟨?_⟩, ⟨HB4.out⟩, ⟨HK4.out⟩⟩
            rw [HST.out, Lib.byteCells_append]
            have e : Lib.byteCells (cellB a1 ⟨f0, f1, f2, true, f4⟩) = [.int .u8 f4] := by
              show [Value.int .u8 ((f4.toNat.toUInt8).toNat : Int)] = _
              rw [← HF4.out]
            rw [e]
            exact Or.inr H4.out
          case measure => simp [intOf]; omega
        | false =>
          have CF := fun o => fold_any w.heap.size w.heap.size (textB a1 (cs.take i)) f2 a1 A (stepsOf a1).length c (wr.alloc o) (hG.below (HB3.out.trans (HALB.out o))) (by omega) h0' h1' (builder_below HI.out (hal o)) HA3.out ((HF3.out.others HOr.out (builder_block hI3.out)).others (others_below (hal o)) (builder_block HI.out)) HLEN.out (Nat.le_trans hszr (hal o).size)
          clear hal hc4 hc4' hc2
          go_wp2_with (go_at_call 42; refine (CF _).mono ?_; rintro e w4 ⟨rfl, h4, b4, k4⟩)
          have H4 := Lib.hid h4
          have HB4 := Lib.hid ((HALB.out _).trans b4)
          have HK4 := Lib.hid ((HALO.out _).trans k4)
          clear h4 b4 k4 CF
          go_wp2
          go_roundw
          case rel =>
            refine ⟨i + 1, by go_num, hlt, ⟨?_⟩, ⟨HB4.out⟩, ⟨HK4.out⟩⟩
            rw [HST.out]
            exact H4.out
          case measure => simp [intOf]; omega
      · have hlt' : ¬ ((i : Int) < (cs.length : Int)) := by omega
        have hlast := HI.out
        rw [List.take_of_length_le (by omega)] at hlast
        have hsz := Nat.le_trans HB3.out.size HBr.out.size
        go_wp2_with (go_at_call 43; refine (Tryd.Builder_String_any_k w.heap.size w.heap.size _ _ hlast hsz).mono ?_; rintro e w4 ⟨rfl, _, b4, _⟩)
        go_ret2
        exact ⟨rfl, (HB3.out.trans HBr.out).trans b4⟩
  · rw [if_neg hr] at h
    cases h
end Go.Proofs.YtblpiceallbfjaaDoor.Pr
