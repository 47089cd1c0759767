/- fold.fold where a rune is not dropped: its runes, each through the steps, are written onto the builder. -/
import Derived.Test.YtblpiceallbfjaaDoorFoldD
import Derived.Laws.IdiomStrings
import Derived.Laws.Cover4
set_option linter.unusedVariables false
set_option linter.unusedSimpArgs false
namespace Go.Proofs.YtblpiceallbfjaaDoor.Pr
open Go.RowKit Go.Proofs.YtblpiceallbfjaaDoorW.PrintWords Go.Proofs.YtblpiceallbfjaaDoorW.PrintLast Go.Proofs.YtblpiceallbfjaaDoorW.PrintMore

/-- A slice of runes, in new memory. -/
def RunesAt (B : Nat) (w : World) (v : Value) (xs : List Int) : Prop :=
  ∃ g cur c, v = .slice (some ⟨g, 0, none⟩) xs.length c ∧ B ≤ g ∧ w.heap[g]? = some (.cells cur 21 (0, 0)) ∧ ∀ i (h : i < xs.length), cur[i]? = some (.int .i32 xs[i])
theorem RunesAt.others {B : Nat} {w w' : World} {v : Value} {xs : List Int} {b : Nat} (h : RunesAt B w v xs) (hk : Lib.OthersKept 5 (some b) w w') (hb : ∃ cs, w.heap[b]? = some (.cells cs 72 (0, 0))) : RunesAt B w' v xs := by
  obtain ⟨g, cur, c, hv, hB, hg, hc⟩ := h
  refine ⟨g, cur, c, hv, hB, hk g _ hg ?_ ?_, hc⟩
  · intro e
    obtain ⟨cs, hcs⟩ := hb
    injection e with e
    rw [e, hcs] at hg
    injection hg with hg
    injection hg with _ hg
    revert hg; decide
  · intro c fz' e
    injection e with _ e
    revert e; decide
theorem RunesAt.alloc {B : Nat} {w : World} {v : Value} {xs : List Int} (h : RunesAt B w v xs) (o : Obj) : RunesAt B (w.alloc o) v xs := by
  obtain ⟨g, cur, c, hv, hB, hg, hc⟩ := h
  exact ⟨g, cur, c, hv, hB, (Lib.alloc_old _ _ _ (Array.getElem?_eq_some_iff.1 hg).1).trans hg, hc⟩

theorem mem_ite {α : Type} {c : Prop} [Decidable c] {a b : α} {L : List α} (ha : a ∈ L) (hb : b ∈ L) : (if c then a else b) ∈ L := by
  by_cases h : c
  · rw [if_pos h]; exact ha
  · rw [if_neg h]; exact hb
theorem lig_mem (r : Int) : ligB r ∈ [[65, 69], [97, 101], [79, 69], [111, 101], [115, 115], [115], [73, 74], [105, 106], [102, 102], [102, 105], [102, 108], [102, 102, 105], [102, 102, 108], [115, 116], []] := by
  unfold ligB
  repeat (refine mem_ite (by decide) ?_)
  decide
/-- A ligature's letters, as runes. -/
theorem lig_runes (r : Int) : Conv.runesFrom ⟨(ligB r).toArray⟩ (ByteArray.size ⟨(ligB r).toArray⟩) 0 #[] = (((ligB r).map fun b => Value.int .i32 (b.toNat : Int))).toArray := by
  have h := lig_mem r
  generalize ligB r = l at *
  simp only [List.mem_cons, List.not_mem_nil, or_false] at h
  rcases h with rfl | rfl | rfl | rfl | rfl | rfl | rfl | rfl | rfl | rfl | rfl | rfl | rfl | rfl | rfl
  all_goals rfl
theorem lig_len (r : Int) : (ligB r).length ≤ 3 := by
  have h := lig_mem r
  generalize ligB r = l at *
  revert l
  decide
theorem runesOf_len (r opt : Int) : (runesOf r opt).length ≤ 3 := by
  unfold runesOf
  split
  · have := lig_len r; simpa using this
  · simp
theorem runesOf_ge (r opt : Int) (h : -2147483648 ≤ r) : ∀ x ∈ runesOf r opt, -2147483648 ≤ x := by
  intro x hx
  unfold runesOf at hx
  split at hx
  · obtain ⟨b, _, rfl⟩ := List.mem_map.1 hx
    omega
  · rw [List.mem_singleton.1 hx]; exact h
theorem ligConv (r : Int) (w : World) : (convert 9 28 (.string ⟨(ligB r).toArray⟩)).run Tryd.prog w = .ok (.slice (some ⟨w.heap.size, 0, none⟩) (ligB r).length (grownCap w (ligB r).length 0 21)) (w.drew.alloc (.cells ((((ligB r).map fun b => Value.int .i32 (b.toNat : Int))).toArray ++ Array.replicate (grownCap w (ligB r).length 0 21 - (ligB r).length) (.int .i32 0)) 21)) := by
  have h := run_runes_of_string (P := Tryd.prog) w 9 28 21 ⟨(ligB r).toArray⟩ Tryd.underlying9 Tryd.underlying28 Tryd.underlying21 (by rw [lig_runes]; have := lig_len r; simp; omega)
  rw [lig_runes] at h
  simpa using h

theorem RunesAt.below {B : Nat} {w w' : World} {v : Value} {xs : List Int} (h : RunesAt B w v xs) (hb : Below w.heap.size w w') : RunesAt B w' v xs := by
  obtain ⟨g, cur, c, hv, hB, hg, hc⟩ := h
  exact ⟨g, cur, c, hv, hB, (hb.block g (Array.getElem?_eq_some_iff.1 hg).1).trans hg, hc⟩
theorem ligRunesAt (L : List UInt8) (w : World) (B k c : Nat) (hB : B ≤ w.heap.size) : RunesAt B (w.drew.alloc (.cells (((L.map fun b => Value.int .i32 (b.toNat : Int))).toArray ++ Array.replicate k (.int .i32 0)) 21)) (.slice (some ⟨w.heap.size, 0, none⟩) L.length c) (L.map fun b => (b.toNat : Int)) :=
  ⟨w.heap.size, _, c, by simp, hB, heap_alloc_new w.drew _, fun i h => by
    have h' : i < L.length := by simpa using h
    simp [Array.getElem?_append, h', List.getElem?_eq_getElem]⟩

theorem litRunes (r : Int) (w : World) (B : Nat) (hB : B ≤ w.heap.size) : RunesAt B (w.alloc (.cells #[.int .i32 r] 21)) (.slice (some ⟨w.heap.size, 0, none⟩) 1 1) [r] :=
  ⟨w.heap.size, _, 1, rfl, hB, heap_alloc_new w _, fun i h => by simp at h; subst h; rfl⟩

theorem stepsOf_len (opt : Int) : (stepsOf opt).length ≤ 3 := by
  unfold stepsOf
  repeat' split
  all_goals simp
theorem flat_len (fs : List Nat) (xs : List Int) : (xs.flatMap fun x => encI (applyAll fs x)).length ≤ 4 * xs.length := by
  induction xs with
  | nil => simp
  | cons x xs ih =>
    have h : (encI (applyAll fs x)).length ≤ 4 := by
      show (Utf8.encode (applyAll fs x)).data.toList.length ≤ 4
      rw [Array.length_toList]
      exact encode_size_le (applyAll fs x)
    simp only [List.flatMap_cons, List.length_append, List.length_cons]
    omega

set_option maxHeartbeats 8000000 in
set_option maxRecDepth 100000 in
theorem fold_keep (B b : Nat) (l : List UInt8) (r opt kd : Int) (A : Option Addr) (n c : Nat) (w : World) (hG : Gu w) (hr : -2147483648 ≤ r) (hk : kind_Of.f r = some kd) (h0 : 0 ≤ opt) (h1 : opt ≤ 31) (hd : dropB kd opt = false)
    (hb : Lib.IsBuilderF 72 5 B b (Lib.byteCells l) w) (hA : (A = none ∧ n = 0) ∨ ∃ ga, A = some ⟨ga, 0, none⟩) (hF : Funcs w A n (stepsOf opt)) (hlen : l.length + 100 ≤ 140737488355328) (hBw : B ≤ w.heap.size) :
    Calls Tryd.prog 42 #[.pointer (some ⟨b, 0, none⟩), .int .i32 r, .int .i64 opt, .slice A n c] w fun e w' => e = .returned (.tuple #[]) ∧ Lib.IsBuilderF 72 5 B b (Lib.byteCells (l ++ foldR kd r opt)) w' ∧ Below B w w' ∧ Lib.OthersKept 5 (some b) w w' := by
  obtain ⟨_, b2, b4, _, b16⟩ := optBit opt h0 h1
  have hK := Lib.hid hk
  have hD := Lib.hid hd
  have hB4 := Lib.hid b4
  have hFo : foldR kd r opt = (runesOf r opt).flatMap fun x => encI (applyAll (stepsOf opt) x) := by unfold foldR; rw [hd]; rfl
  rw [hFo]
  have hxs := Lib.hid (runesOf_ge r opt hr)
  have hxl := runesOf_len r opt
  have hmem := Lib.hid (stepsOf_mem opt)
  have hn3 : n ≤ 3 := by rw [← hF.1]; exact stepsOf_len opt
  have hL := Lib.hid hlen
  have hRU : Hid (runesOf r opt = if opt / 4 % 2 = 1 ∧ ligB r ≠ [] then (ligB r).map (fun b => (b.toNat : Int)) else [r]) := Lib.hid rfl
  clear hk hd b4 hFo h0 h1 hlen
  generalize runesOf r opt = xs at *
  generalize stepsOf opt = fs at *
  rcases hA with ⟨rfl, hn0⟩ | ⟨ga, rfl⟩
  · have HN0 := Lib.hid hn0
    clear hn0
    go_enter Tryd.func42, Tryd.ntmps42
    go_upto_region 1 with (go_at_call 77; refine (kind_Of.calls r _ _ hK.out).mono ?_; rintro e w' ⟨rfl, ⟨nd, rfl⟩⟩)
    go_cut [33] (fun v33 wc => v33 = .bool false ∧ Aside0 (wc = w.drewN nd))
    case first =>
      have hd := hD.out
      unfold dropB at hd
      clear hD
      generalize decide (opt / 16 % 2 = 1) = x16 at *
      generalize decide (opt / 2 % 2 = 1) = x2 at *
      obtain ⟨y4, e4⟩ : ∃ y, (kd == 4) = y := ⟨_, rfl⟩
      obtain ⟨y2, e2⟩ : ∃ y, (kd == 2) = y := ⟨_, rfl⟩
      rw [e4, e2] at hd
      cases x16 <;> cases x2 <;> cases y4 <;> cases y2 <;> simp at hd
      all_goals
        go_wp2
        go_meet
        case rel => exact ⟨rfl, ⟨rfl⟩⟩
    case rest =>
      obtain ⟨rfl, hwc⟩ := hcut
      obtain ⟨W0, rfl⟩ : ∃ W0 : World, W0 = wc := ⟨_, rfl⟩
      have hW0 : Below w.heap.size w W0 := by rw [hwc.out]; exact pw_below_drewN (Below.refl _ _) _
      have hb' := Lib.hid (builder_below hb hW0)
      have hG' := hG.below hW0
      have hF' := Lib.hid (hF.others (others_below hW0) (builder_block hb))
      have hBw' := Nat.le_trans hBw hW0.size
      have HW0 := Lib.hid hW0
      have CL := fun W hG => fold_ligature r W hG
      have hcv := Lib.hid (fun W => ligConv r W)
      generalize ligB r = L at *
      obtain ⟨yl, hyl⟩ : ∃ y, (!L.isEmpty) = y := ⟨_, rfl⟩
      rw [hyl] at CL
      have HYL := Lib.hid hyl
      clear hb hF hwc hW0 hyl
      generalize hx4 : decide (opt / 4 % 2 = 1) = x4 at hB4
      have HX4 := Lib.hid hx4
      clear hx4
      go_upto_region 4 with (go_at_call 78; refine (CL _ (hG'.below ((Below.refl _ W0).alloc (Nat.le_refl _) _))).mono ?_; rintro e w2 ⟨rfl, hb2⟩)
      have hW2 := Lib.hid (below_step ((Below.refl _ W0).alloc (Nat.le_refl _) _) hb2)
      have hR2 := Lib.hid ((litRunes r W0 W0.heap.size (Nat.le_refl _)).below hb2)
      clear hb2 CL
      go_cut [46] (fun v46 wc2 => v46 = .bool (yl && x4) ∧ Aside0 (wc2 = w2))
      case first =>
        have b4 := hB4.out
        clear HX4 HYL hB4
        cases yl <;> cases x4
        all_goals
          go_wp2
          go_meet
          case rel => exact ⟨rfl, ⟨rfl⟩⟩
      case rest =>
        obtain ⟨rfl, hw3⟩ := hcut
        obtain rfl := hw3.out
        clear hw3 hB4
        obtain ⟨W1, rfl⟩ : ∃ W1 : World, W1 = wc := ⟨_, rfl⟩
        go_upto_if 46 with fail
        go_cut [9] (fun v9 wc3 => Aside0 (RunesAt W0.heap.size wc3 v9 xs) ∧ Aside0 (Below W0.heap.size W0 wc3))
        case first =>
          have hsel : xs = if (yl && x4) = true then L.map (fun b => (b.toNat : Int)) else [r] := by
            rw [hRU.out, ← HYL.out, ← HX4.out]
            cases L <;> simp
          have HS := Lib.hid hsel
          clear hRU HYL HX4 hsel
          have hcv' := hcv.out
          clear hcv
          cases yl <;> cases x4
          all_goals
            go_wp2
            go_meet
          · exact ⟨⟨by rw [HS.out]; exact hR2.out⟩, ⟨hW2.out⟩⟩
          · exact ⟨⟨by rw [HS.out]; exact hR2.out⟩, ⟨hW2.out⟩⟩
          · exact ⟨⟨by rw [HS.out]; exact hR2.out⟩, ⟨hW2.out⟩⟩
          · exact ⟨⟨by rw [HS.out]; exact ligRunesAt L W1 _ _ _ hW2.out.size⟩, ⟨below_alloc (below_drew hW2.out) _⟩⟩
        case rest =>
          obtain ⟨HR, HB⟩ := hcut
          obtain ⟨W2, rfl⟩ : ∃ W2 : World, W2 = wc := ⟨_, rfl⟩
          have hR := HR.out
          have hb2 := Lib.hid (builder_below hb'.out HB.out)
          have hF2 := Lib.hid (hF'.out.others (others_below HB.out) (builder_block hb'.out))
          have hBw2 := Nat.le_trans hBw' HB.out.size
          have HBW := Lib.hid ((HW0.out.mono hBw).trans (HB.out.mono hBw'))
          have HOK := Lib.hid ((others_below (e := 5) (b := some b) HW0.out).trans (others_below HB.out))
          have HRR := Lib.hid hR
          obtain ⟨gs, curs, cs, rfl, _, _, _⟩ := hR
          clear hb' hF' hcv hR2 hW2 HW0 HR HB hRU HYL HX4 hG' hG
          go_wp2
          go_loopw [51] (fun v wr => ∃ i : Nat, v = .int .i64 i ∧ i ≤ xs.length ∧ Aside0 (Lib.IsBuilderF 72 5 B b (Lib.byteCells (l ++ (xs.take i).flatMap fun x => encI (applyAll fs x))) wr) ∧ Aside0 (Below B W2 wr) ∧ Aside0 (Lib.OthersKept 5 (some b) W2 wr)) (fun v _ => xs.length - (intOf v).toNat)
          case atStart => exact ⟨0, rfl, Nat.zero_le _, ⟨by simpa using hb2.out⟩, ⟨Below.refl _ _⟩, ⟨Lib.OthersKept.refl _ _ _⟩⟩
          case round =>
            obtain ⟨i, rfl, hi, HI, HBr, HOr⟩ := hrel
            by_cases hlt : i < xs.length
            · have hlt2 : ((i : Int) < (xs.length : Int)) := by omega
              obtain ⟨g', cur', c', hv, _, hg', hc'⟩ := HRR.out.others HOr.out (builder_block hb2.out)
              obtain rfl : gs = g' := by injection hv with e; injection e with e; injection e with e
              have hcell : wr.cell? ⟨gs, i, none⟩ = some (.int .i32 xs[i]) := by rw [Lib.cell_of_heap hg']; exact hc' i hlt
              have hx0 := hxs.out xs[i] (List.getElem_mem hlt)
              obtain ⟨x0, hxi⟩ : ∃ x0, xs[i] = x0 := ⟨_, rfl⟩
              rw [hxi] at hcell hx0
              have HXI := Lib.hid hxi
              have HX0 := Lib.hid hx0
              clear hxi hx0 hv hg' hc'
              go_wp2
              obtain ⟨W3, rfl⟩ : ∃ W3 : World, W3 = wr := ⟨_, rfl⟩
              go_loopw [13, 57] (fun v13 v57 wx => ∃ j : Nat, v57 = .int .i64 j ∧ j ≤ n ∧ v13 = .int .i32 (applyAll (fs.take j) x0) ∧ Aside0 (Below W3.heap.size W3 wx)) (fun _ v57 _ => n - (intOf v57).toNat)
              case atStart => exact ⟨0, rfl, Nat.zero_le _, rfl, ⟨Below.refl _ _⟩⟩
              case round =>
                obtain ⟨j, rfl, hj, rfl, HX⟩ := hrel
                obtain ⟨W4, rfl⟩ : ∃ W4 : World, W4 = wr := ⟨_, rfl⟩
                by_cases hjn : j < n
                · exact absurd hjn (by rw [HN0.out]; omega)
                · have hjn' : ¬ ((j : Int) < (n : Int)) := by omega
                  have hb4 := builder_below HI.out HX.out
                  have hs4 : B ≤ W4.heap.size := Nat.le_trans (Nat.le_trans hBw2 HBr.out.size) HX.out.size
                  have HBall := Lib.hid (HBr.out.trans (HX.out.mono (Nat.le_trans hBw2 HBr.out.size)))
                  have HOall := Lib.hid (HOr.out.trans (others_below (e := 5) (b := some b) HX.out))
                  have hln := flat_len fs (xs.take i)
                  have hlt3 : (xs.take i).length ≤ 3 := by have := List.length_take_le' i xs; omega
                  have hl4 := encode_size_le (applyAll (fs.take j) x0)
                  have HE := Lib.hid (show applyAll (fs.take j) x0 = applyAll fs xs[i] by rw [HXI.out, List.take_of_length_le (by have := hF2.out.1; omega)])
                  have hL' := hL.out
                  go_wp2_with (go_at_call 51; refine (Build.WriteString_k B b _ _ _ hb4 (by rw [Lib.byteCells_length, List.length_append]; omega) hs4).mono ?_; rintro e w5 ⟨rfl, h5, b5, k5⟩)
                  have H5 := Lib.hid h5
                  have B5 := Lib.hid b5
                  have K5 := Lib.hid k5
                  clear h5 b5 k5 hb4 hln hl4 hL'
                  go_wp2
                  go_roundw
                  case rel =>
                    refine ⟨i + 1, by go_num, hlt, ⟨?_⟩, ⟨HBall.out.trans B5.out⟩, ⟨HOall.out.trans K5.out⟩⟩
                    rw [List.take_succ_eq_append_getElem hlt, List.flatMap_append, ← List.append_assoc, Lib.byteCells_append]
                    refine Or.inr ?_
                    simp only [List.flatMap_cons, List.flatMap_nil, List.append_nil]
                    rw [← HE.out]
                    exact H5.out
                  case measure => simp [intOf]; omega
            · have hlt' : ¬ ((i : Int) < (xs.length : Int)) := by omega
              go_wp2
              go_end0
              have e : xs.take i = xs := List.take_of_length_le (by omega)
              have h := HI.out
              rw [e] at h
              exact ⟨rfl, h, HBW.out.trans HBr.out, HOK.out.trans HOr.out⟩
  · go_enter Tryd.func42, Tryd.ntmps42
    go_upto_region 1 with (go_at_call 77; refine (kind_Of.calls r _ _ hK.out).mono ?_; rintro e w' ⟨rfl, ⟨nd, rfl⟩⟩)
    go_cut [33] (fun v33 wc => v33 = .bool false ∧ Aside0 (wc = w.drewN nd))
    case first =>
      have hd := hD.out
      unfold dropB at hd
      clear hD
      generalize decide (opt / 16 % 2 = 1) = x16 at *
      generalize decide (opt / 2 % 2 = 1) = x2 at *
      obtain ⟨y4, e4⟩ : ∃ y, (kd == 4) = y := ⟨_, rfl⟩
      obtain ⟨y2, e2⟩ : ∃ y, (kd == 2) = y := ⟨_, rfl⟩
      rw [e4, e2] at hd
      cases x16 <;> cases x2 <;> cases y4 <;> cases y2 <;> simp at hd
      all_goals
        go_wp2
        go_meet
        case rel => exact ⟨rfl, ⟨rfl⟩⟩
    case rest =>
      obtain ⟨rfl, hwc⟩ := hcut
      obtain ⟨W0, rfl⟩ : ∃ W0 : World, W0 = wc := ⟨_, rfl⟩
      have hW0 : Below w.heap.size w W0 := by rw [hwc.out]; exact pw_below_drewN (Below.refl _ _) _
      have hb' := Lib.hid (builder_below hb hW0)
      have hG' := hG.below hW0
      have hF' := Lib.hid (hF.others (others_below hW0) (builder_block hb))
      have hBw' := Nat.le_trans hBw hW0.size
      have HW0 := Lib.hid hW0
      have CL := fun W hG => fold_ligature r W hG
      have hcv := Lib.hid (fun W => ligConv r W)
      generalize ligB r = L at *
      obtain ⟨yl, hyl⟩ : ∃ y, (!L.isEmpty) = y := ⟨_, rfl⟩
      rw [hyl] at CL
      have HYL := Lib.hid hyl
      clear hb hF hwc hW0 hyl
      generalize hx4 : decide (opt / 4 % 2 = 1) = x4 at hB4
      have HX4 := Lib.hid hx4
      clear hx4
      go_upto_region 4 with (go_at_call 78; refine (CL _ (hG'.below ((Below.refl _ W0).alloc (Nat.le_refl _) _))).mono ?_; rintro e w2 ⟨rfl, hb2⟩)
      have hW2 := Lib.hid (below_step ((Below.refl _ W0).alloc (Nat.le_refl _) _) hb2)
      have hR2 := Lib.hid ((litRunes r W0 W0.heap.size (Nat.le_refl _)).below hb2)
      clear hb2 CL
      go_cut [46] (fun v46 wc2 => v46 = .bool (yl && x4) ∧ Aside0 (wc2 = w2))
      case first =>
        have b4 := hB4.out
        clear HX4 HYL hB4
        cases yl <;> cases x4
        all_goals
          go_wp2
          go_meet
          case rel => exact ⟨rfl, ⟨rfl⟩⟩
      case rest =>
        obtain ⟨rfl, hw3⟩ := hcut
        obtain rfl := hw3.out
        clear hw3 hB4
        obtain ⟨W1, rfl⟩ : ∃ W1 : World, W1 = wc := ⟨_, rfl⟩
        go_upto_if 46 with fail
        go_cut [9] (fun v9 wc3 => Aside0 (RunesAt W0.heap.size wc3 v9 xs) ∧ Aside0 (Below W0.heap.size W0 wc3))
        case first =>
          have hsel : xs = if (yl && x4) = true then L.map (fun b => (b.toNat : Int)) else [r] := by
            rw [hRU.out, ← HYL.out, ← HX4.out]
            cases L <;> simp
          have HS := Lib.hid hsel
          clear hRU HYL HX4 hsel
          have hcv' := hcv.out
          clear hcv
          cases yl <;> cases x4
          all_goals
            go_wp2
            go_meet
          · exact ⟨⟨by rw [HS.out]; exact hR2.out⟩, ⟨hW2.out⟩⟩
          · exact ⟨⟨by rw [HS.out]; exact hR2.out⟩, ⟨hW2.out⟩⟩
          · exact ⟨⟨by rw [HS.out]; exact hR2.out⟩, ⟨hW2.out⟩⟩
          · exact ⟨⟨by rw [HS.out]; exact ligRunesAt L W1 _ _ _ hW2.out.size⟩, ⟨below_alloc (below_drew hW2.out) _⟩⟩
        case rest =>
          obtain ⟨HR, HB⟩ := hcut
          obtain ⟨W2, rfl⟩ : ∃ W2 : World, W2 = wc := ⟨_, rfl⟩
          have hR := HR.out
          have hb2 := Lib.hid (builder_below hb'.out HB.out)
          have hF2 := Lib.hid (hF'.out.others (others_below HB.out) (builder_block hb'.out))
          have hBw2 := Nat.le_trans hBw' HB.out.size
          have HBW := Lib.hid ((HW0.out.mono hBw).trans (HB.out.mono hBw'))
          have HOK := Lib.hid ((others_below (e := 5) (b := some b) HW0.out).trans (others_below HB.out))
          have HRR := Lib.hid hR
          obtain ⟨gs, curs, cs, rfl, _, _, _⟩ := hR
          clear hb' hF' hcv hR2 hW2 HW0 HR HB hRU HYL HX4 hG' hG
          go_wp2
          go_loopw [51] (fun v wr => ∃ i : Nat, v = .int .i64 i ∧ i ≤ xs.length ∧ Aside0 (Lib.IsBuilderF 72 5 B b (Lib.byteCells (l ++ (xs.take i).flatMap fun x => encI (applyAll fs x))) wr) ∧ Aside0 (Below B W2 wr) ∧ Aside0 (Lib.OthersKept 5 (some b) W2 wr)) (fun v _ => xs.length - (intOf v).toNat)
          case atStart => exact ⟨0, rfl, Nat.zero_le _, ⟨by simpa using hb2.out⟩, ⟨Below.refl _ _⟩, ⟨Lib.OthersKept.refl _ _ _⟩⟩
          case round =>
            obtain ⟨i, rfl, hi, HI, HBr, HOr⟩ := hrel
            by_cases hlt : i < xs.length
            · have hlt2 : ((i : Int) < (xs.length : Int)) := by omega
              obtain ⟨g', cur', c', hv, _, hg', hc'⟩ := HRR.out.others HOr.out (builder_block hb2.out)
              obtain rfl : gs = g' := by injection hv with e; injection e with e; injection e with e
              have hcell : wr.cell? ⟨gs, i, none⟩ = some (.int .i32 xs[i]) := by rw [Lib.cell_of_heap hg']; exact hc' i hlt
              have hx0 := hxs.out xs[i] (List.getElem_mem hlt)
              obtain ⟨x0, hxi⟩ : ∃ x0, xs[i] = x0 := ⟨_, rfl⟩
              rw [hxi] at hcell hx0
              have HXI := Lib.hid hxi
              have HX0 := Lib.hid hx0
              clear hxi hx0 hv hg' hc'
              go_wp2
              obtain ⟨W3, rfl⟩ : ∃ W3 : World, W3 = wr := ⟨_, rfl⟩
              go_loopw [13, 57] (fun v13 v57 wx => ∃ j : Nat, v57 = .int .i64 j ∧ j ≤ n ∧ v13 = .int .i32 (applyAll (fs.take j) x0) ∧ Aside0 (Below W3.heap.size W3 wx)) (fun _ v57 _ => n - (intOf v57).toNat)
              case atStart => exact ⟨0, rfl, Nat.zero_le _, rfl, ⟨Below.refl _ _⟩⟩
              case round =>
                obtain ⟨j, rfl, hj, rfl, HX⟩ := hrel
                obtain ⟨W4, rfl⟩ : ∃ W4 : World, W4 = wr := ⟨_, rfl⟩
                by_cases hjn : j < n
                · have hjn2 : ((j : Int) < (n : Int)) := by omega
                  have hF4 := (hF2.out.others HOr.out (builder_block hb2.out)).others (others_below HX.out) (builder_block HI.out)
                  obtain ⟨g4, cur4, fz4, hA4, hg4, hc4⟩ := hF4.2 (by omega)
                  obtain rfl : ga = g4 := by injection hA4 with e; injection e with e
                  have hjl : j < fs.length := by rw [hF4.1]; exact hjn
                  have hce : W4.cell? ⟨ga, j, none⟩ = some (fv fs[j]) := by rw [Lib.cell_of_heap hg4]; exact hc4 j hjl
                  have hfj := hmem.out fs[j] (List.getElem_mem hjl)
                  have HT := Lib.hid (applyAll_take fs j x0 hjl)
                  have hge := applyAll_ge (fs.take j) x0 HX0.out
                  clear hF4 hA4 hg4 hc4
                  generalize hff : fs[j] = ff at hce hfj HT
                  clear hff
                  have hcl := fun W => step_call ff hfj (applyAll (fs.take j) x0) W hge
                  have HGE := Lib.hid hge
                  clear hge
                  rcases hfj with rfl | rfl | rfl
                  all_goals
                    go_wp2_with (first | (go_at_call 71; refine (hcl _).mono ?_; rintro e w5 ⟨rfl, hb5⟩) | (go_at_call 72; refine (hcl _).mono ?_; rintro e w5 ⟨rfl, hb5⟩) | (go_at_call 73; refine (hcl _).mono ?_; rintro e w5 ⟨rfl, hb5⟩))
                    go_roundw
                    case rel => exact ⟨j + 1, by go_num, hjn, by rw [HT.out], ⟨below_step HX.out hb5⟩⟩
                    case measure => simp [intOf]; omega
                · have hjn' : ¬ ((j : Int) < (n : Int)) := by omega
                  have hb4 := builder_below HI.out HX.out
                  have hs4 : B ≤ W4.heap.size := Nat.le_trans (Nat.le_trans hBw2 HBr.out.size) HX.out.size
                  have HBall := Lib.hid (HBr.out.trans (HX.out.mono (Nat.le_trans hBw2 HBr.out.size)))
                  have HOall := Lib.hid (HOr.out.trans (others_below (e := 5) (b := some b) HX.out))
                  have hln := flat_len fs (xs.take i)
                  have hlt3 : (xs.take i).length ≤ 3 := by have := List.length_take_le' i xs; omega
                  have hl4 := encode_size_le (applyAll (fs.take j) x0)
                  have HE := Lib.hid (show applyAll (fs.take j) x0 = applyAll fs xs[i] by rw [HXI.out, List.take_of_length_le (by have := hF2.out.1; omega)])
                  have hL' := hL.out
                  go_wp2_with (go_at_call 51; refine (Build.WriteString_k B b _ _ _ hb4 (by rw [Lib.byteCells_length, List.length_append]; omega) hs4).mono ?_; rintro e w5 ⟨rfl, h5, b5, k5⟩)
                  have H5 := Lib.hid h5
                  have B5 := Lib.hid b5
                  have K5 := Lib.hid k5
                  clear h5 b5 k5 hb4 hln hl4 hL'
                  go_wp2
                  go_roundw
                  case rel =>
                    refine ⟨i + 1, by go_num, hlt, ⟨?_⟩, ⟨HBall.out.trans B5.out⟩, ⟨HOall.out.trans K5.out⟩⟩
                    rw [List.take_succ_eq_append_getElem hlt, List.flatMap_append, ← List.append_assoc, Lib.byteCells_append]
                    refine Or.inr ?_
                    simp only [List.flatMap_cons, List.flatMap_nil, List.append_nil]
                    rw [← HE.out]
                    exact H5.out
                  case measure => simp [intOf]; omega
            · have hlt' : ¬ ((i : Int) < (xs.length : Int)) := by omega
              go_wp2
              go_end0
              have e : xs.take i = xs := List.take_of_length_le (by omega)
              have h := HI.out
              rw [e] at h
              exact ⟨rfl, h, HBW.out.trans HBr.out, HOK.out.trans HOr.out⟩
end Go.Proofs.YtblpiceallbfjaaDoor.Pr
