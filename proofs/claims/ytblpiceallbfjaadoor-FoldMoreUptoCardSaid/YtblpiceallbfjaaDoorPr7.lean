-- Written by a program of ours (drive.py) by way of the kit's printer. Lean checks it.
import Derived.Test.YtblpiceallbfjaaDoorPr0
import Derived.Test.YtblpiceallbfjaaDoorPr5
import Derived.Test.YtblpiceallbfjaaDoorPr6
import Derived.Test.YtblpiceallbfjaaDoorExtFold
import Derived.Test.YtblpiceallbfjaaDoorGlobals
namespace Go.Proofs.YtblpiceallbfjaaDoor.Pr
open Go.RowKit Go.Proofs.YtblpiceallbfjaaDoorW.PrintWords Go.Proofs.YtblpiceallbfjaaDoorW.PrintLast Go.Proofs.YtblpiceallbfjaaDoorW.PrintMore
attribute [local go_sem] max2_int min2_int max_two min_two max_three min_three max_four min_four   -- for this text's walks alone
set_option linter.unusedVariables false
set_option linter.unusedSimpArgs false

/-! ### siglumref01_Valid: function 14 -/
def siglumref01_Valid.l0 : Nat → List (S67) → Int → Option (Bool)
  | 0, _, _ => none
  | k + 1, x3, x4 => if x4 < (x3.length : Int) then (if 0 ≤ x4 then (if (rd_T67 x3 x4).f3 = true then (some false) else (siglumref01_Valid.l0 k x3 (wrap64 (x4 + 1)))) else (none)) else (some true)
def siglumref01_Valid.f (k : Nat) (a0 : ByteArray) : Option (Bool) := (siglumref01_Cells.f k a0).bind fun t147 => (siglumref01_Valid.l0 k t147 0)
theorem siglumref01_Valid.mono_l : ∀ k, (∀ y0 y1, LeO (siglumref01_Valid.l0 k y0 y1) (siglumref01_Valid.l0 (k + 1) y0 y1))
  | 0 => fun _ _ r h => by simp [siglumref01_Valid.l0] at h
  | k + 1 => by
    have ih0 := siglumref01_Valid.mono_l k
    · intro y0 y1
      unfold siglumref01_Valid.l0
      repeat' first
      | (with_reducible exact ih0 _ _)
      | (with_reducible exact siglumref01_Cells.mono _ _)
      | (with_reducible exact LeO.refl _)
      | (with_reducible exact LeO.none _)
      | (with_reducible refine LeO.ite ?_ ?_)
      | (with_reducible refine LeO.bind ?_ (fun _ => ?_))
      | exact ih0 _ _
      | exact siglumref01_Cells.mono _ _
      | exact LeO.none _
      | refine LeO.ite ?_ ?_
      | refine LeO.bind ?_ (fun _ => ?_)
theorem siglumref01_Valid.mono : ∀ a0 k, LeO (siglumref01_Valid.f k a0) (siglumref01_Valid.f (k + 1) a0) := by
  intro a0 k
  have ih0 := siglumref01_Valid.mono_l k
  unfold siglumref01_Valid.f
  repeat' first
      | (with_reducible exact ih0 _ _)
      | (with_reducible exact siglumref01_Cells.mono _ _)
      | (with_reducible exact LeO.refl _)
      | (with_reducible exact LeO.none _)
      | (with_reducible refine LeO.ite ?_ ?_)
      | (with_reducible refine LeO.bind ?_ (fun _ => ?_))
      | exact ih0 _ _
      | exact siglumref01_Cells.mono _ _
      | exact LeO.none _
      | refine LeO.ite ?_ ?_
      | refine LeO.bind ?_ (fun _ => ?_)
set_option maxHeartbeats 8000000 in
set_option maxRecDepth 100000 in
theorem siglumref01_Valid.calls (k : Nat) (a0 : ByteArray) (r : Bool) (w : World) (h : siglumref01_Valid.f k a0 = some r) :
    Calls Tryd.prog 14 #[.string a0] w fun e w' => e = .returned (.bool r) ∧ Below w.heap.size w w' := by
  have HB := Aside0.mk (Below.refl w.heap.size w)
  have H : ((siglumref01_Cells.f k a0).bind fun t147 => (siglumref01_Valid.l0 k t147 0)) = some r := h
  clear h
  replace H := Option.bind_eq_some_iff.mp H
  obtain ⟨t147, A20, H⟩ := H
  replace H : (siglumref01_Valid.l0 k t147 0) = some r := H
  have A2 := Aside0.mk A20
  clear A20
  have H' := Aside0.mk H
  clear H
  go_enter Tryd.func14, Tryd.ntmps14
  go_wp2_with (first | ((with_reducible refine gate_callee (f := 37) rfl ?_); refine goesL_ (some 6) rfl rfl Tryd.func37 (by kernel_rfl) rfl #[.string a0] rfl (by (try simp only [List.map_toArray, List.map_cons, List.map_nil]); first | done | rfl | (simp only [List.length_drop, List.length_take]; rfl)) ?_; (with_reducible refine (siglumref01_Cells.calls k a0 t147 _ A2.out).mono ?_); rintro e w3 ⟨v148, rfl, ho0, hb⟩; refine ⟨_, rfl, ?_⟩; have n0_ := Aside0.mk (Kd.R_lower ho0 (below_size (by repeat (first | (with_reducible first | exact HB.out | apply below_alloc | apply pw_below_drewN | apply below_drew1) | exact HB.out)))); have n1_ := Aside0.mk (below_step (by repeat (first | (with_reducible first | exact HB.out | apply below_alloc | apply pw_below_drewN | apply below_drew1) | exact HB.out)) hb); clear HB; have HO149 := n0_; have HB := n1_; clear n0_ n1_; (try clear hb); (try clear hb2); (try clear hk); (try clear hi); (try clear ho0)))
  go_loopg [4] k (fun kq v4 w' => ∃ (x4_1 : Int), v4 = .int .i64 x4_1 ∧ Aside0 (siglumref01_Valid.l0 kq t147 x4_1 = some r) ∧ Aside0 (kq ≤ k) ∧ Aside0 (Kd.R k67 67 w' w.heap.size (fun _ => True) v148 t147) ∧ Aside0 (Below w.heap.size w w'))
  case atStart => exact ⟨(0), (by first | rfl | (simp; done) | (simp [*]; done)), H', ⟨Nat.le_refl _⟩, ⟨by (with_reducible repeat (first | apply Kd.R_alloc | apply Kd.R_drewN | apply Kd.R_drew)); exact HO149.out⟩, ⟨by repeat (first | (with_reducible first | exact HB.out | apply below_alloc | apply pw_below_drewN | apply below_drew1) | exact HB.out)⟩⟩
  case round =>
    clear H'
    try clear c1
    try clear p2
    try clear c3
    obtain ⟨x4_1, rfl, HA, HK1, HO_3, HB⟩ := hrel
    cases gk with
    | zero => exact absurd HA.out (by simp [siglumref01_Valid.l0])
    | succ k1 =>
      have H := HA.out
      clear HA
      simp only [siglumref01_Valid.l0] at H
      by_cases c4 : x4_1 < (t147.length : Int)
      · rw [if_pos c4] at H
        have c4b0 : decide (x4_1 < (t147.length : Int)) = true := decide_eq_true c4
        clear c4
        by_cases c5 : 0 ≤ x4_1
        · rw [if_pos c5] at H
          have c5b0 : decide (0 ≤ x4_1) = true := decide_eq_true c5
          clear c5
          obtain ⟨bq6, hbq6⟩ : ∃ b_ : Bool, b_ = ((rd_T67 t147 x4_1).f3) := ⟨_, rfl⟩
          replace H : (if bq6 = true then (some false) else (siglumref01_Valid.l0 k1 t147 (wrap64 (x4_1 + 1)))) = some r := by rw [← hbq6] at H; exact H
          have Nbq6 := Aside0.mk hbq6
          clear hbq6
          by_cases c7 : bq6 = true
          · subst c7
            have H1 : (some false) = some r := by rw [if_pos rfl] at H; exact H
            clear H
            have H := H1
            clear H1
            obtain rfl := Option.some.inj H
            obtain ⟨Ao8, co8, eo8⟩ := Kd.R_slice HO_3.out
            subst eo8
            have p150 : 0 ≤ (x4_1 : Int) := of_decide_eq_true (by first | (with_reducible assumption) | assumption)
            have q150 : x4_1 < (t147.length : Int) := of_decide_eq_true (by first | (with_reducible assumption) | assumption)
            obtain ⟨ad150, e150, hx150_0, hx150_1, hx150_2, hx150_3, hx150_4⟩ := at_T67 (Kd.R_reads' HO_3.out).2.2 x4_1 p150 q150
            (try rw [← Nbq6.out] at hx150_3)
            cases e150
            replace p150 := eq_true p150
            replace q150 := eq_true q150
            go_wp2
            go_ret
            exact ⟨by first | rfl | (simp [errW_none, errW_some] <;> rfl) | (simp [*, errW_none, errW_some] <;> rfl), by repeat (first | (with_reducible first | exact HB.out | apply below_alloc | apply pw_below_drewN | apply below_drew1) | exact HB.out)⟩
          · replace c7 := Bool.eq_false_iff.mpr c7
            subst c7
            have H1 : (siglumref01_Valid.l0 k1 t147 (wrap64 (x4_1 + 1))) = some r := by rw [if_neg (show ¬ (false = true) by decide)] at H; exact H
            clear H
            have H := H1
            clear H1
            have H' := Aside0.mk H
            clear H
            obtain ⟨Ao9, co9, eo9⟩ := Kd.R_slice HO_3.out
            subst eo9
            have p150 : 0 ≤ (x4_1 : Int) := of_decide_eq_true (by first | (with_reducible assumption) | assumption)
            have q150 : x4_1 < (t147.length : Int) := of_decide_eq_true (by first | (with_reducible assumption) | assumption)
            obtain ⟨ad150, e150, hx150_0, hx150_1, hx150_2, hx150_3, hx150_4⟩ := at_T67 (Kd.R_reads' HO_3.out).2.2 x4_1 p150 q150
            (try rw [← Nbq6.out] at hx150_3)
            cases e150
            replace p150 := eq_true p150
            replace q150 := eq_true q150
            go_wp2
            go_roundg k1
            case measure => have := HK1.out; omega
            case rel => exact ⟨(wrap64 (x4_1 + 1)), (by first | rfl | (simp; done) | (simp [*]; done)), H', ⟨by have := HK1.out; omega⟩, ⟨by (with_reducible repeat (first | apply Kd.R_alloc | apply Kd.R_drewN | apply Kd.R_drew)); exact HO_3.out⟩, ⟨by repeat (first | (with_reducible first | exact HB.out | apply below_alloc | apply pw_below_drewN | apply below_drew1) | exact HB.out)⟩⟩
        · rw [if_neg c5] at H
          exact absurd H (by simp)
      · rw [if_neg c4] at H
        have c4b0 : decide (x4_1 < (t147.length : Int)) = false := decide_eq_false c4
        clear c4
        obtain rfl := Option.some.inj H
        obtain ⟨Ao10, co10, eo10⟩ := Kd.R_slice HO_3.out
        subst eo10
        go_wp2
        go_ret
        exact ⟨by first | rfl | (simp [errW_none, errW_some] <;> rfl) | (simp [*, errW_none, errW_some] <;> rfl), by repeat (first | (with_reducible first | exact HB.out | apply below_alloc | apply pw_below_drewN | apply below_drew1) | exact HB.out)⟩

/-! ### siglumlaw03_FoldMore: function 3 -/
def siglumlaw03_FoldMore.j0 : Nat → ByteArray → Int → Int → Bool → Option (Bool)
  | 0, _, _, _, _ => none
  | k + 1, x0, x1, x2, x40 => if x40 = true then (some true) else ((fold_Text.f x0 x1).bind fun bt153 => ((fold_Text.f bt153.1 x2).bind fun bt155 => ((fold_Text.f x0 x2).bind fun bt157 => (if bt157.2 = 0 then (some (bt155.1.toList == bt157.1.toList)) else (some false)))))
def siglumlaw03_FoldMore.f (k : Nat) (a0 : ByteArray) (a1 : Int) (a2 : Int) : Option (Bool) := (siglumlaw03_awake.f).bind fun t151 => (if t151 = true then (if a1 < 0 then (siglumlaw03_FoldMore.j0 k a0 a1 a2 true) else (if a1 > 31 then (siglumlaw03_FoldMore.j0 k a0 a1 a2 true) else (if a2 < 0 then (siglumlaw03_FoldMore.j0 k a0 a1 a2 true) else (if a2 > 31 then (siglumlaw03_FoldMore.j0 k a0 a1 a2 true) else (if (Go.bits .and .i64 a1 a2) = a1 then ((siglumref01_Valid.f k a0).bind fun t152 => (siglumlaw03_FoldMore.j0 k a0 a1 a2 (!t152))) else (siglumlaw03_FoldMore.j0 k a0 a1 a2 true)))))) else (some false))
theorem siglumlaw03_FoldMore.mono_l : ∀ k, (∀ y0 y1 y2 y3, LeO (siglumlaw03_FoldMore.j0 k y0 y1 y2 y3) (siglumlaw03_FoldMore.j0 (k + 1) y0 y1 y2 y3))
  | 0 => fun _ _ _ _ r h => by simp [siglumlaw03_FoldMore.j0] at h
  | k + 1 => by
    have ih0 := siglumlaw03_FoldMore.mono_l k
    · intro y0 y1 y2 y3
      unfold siglumlaw03_FoldMore.j0
      repeat' first
      | (with_reducible exact ih0 _ _ _ _)
      | (with_reducible exact siglumref01_Valid.mono _ _)
      | (with_reducible exact LeO.refl _)
      | (with_reducible exact LeO.none _)
      | (with_reducible refine LeO.ite ?_ ?_)
      | (with_reducible refine LeO.bind ?_ (fun _ => ?_))
      | exact ih0 _ _ _ _
      | exact siglumref01_Valid.mono _ _
      | exact LeO.none _
      | refine LeO.ite ?_ ?_
      | refine LeO.bind ?_ (fun _ => ?_)
theorem siglumlaw03_FoldMore.mono : ∀ a0 a1 a2 k, LeO (siglumlaw03_FoldMore.f k a0 a1 a2) (siglumlaw03_FoldMore.f (k + 1) a0 a1 a2) := by
  intro a0 a1 a2 k
  have ih0 := siglumlaw03_FoldMore.mono_l k
  unfold siglumlaw03_FoldMore.f
  repeat' first
      | (with_reducible exact ih0 _ _ _ _)
      | (with_reducible exact siglumref01_Valid.mono _ _)
      | (with_reducible exact LeO.refl _)
      | (with_reducible exact LeO.none _)
      | (with_reducible refine LeO.ite ?_ ?_)
      | (with_reducible refine LeO.bind ?_ (fun _ => ?_))
      | exact ih0 _ _ _ _
      | exact siglumref01_Valid.mono _ _
      | exact LeO.none _
      | refine LeO.ite ?_ ?_
      | refine LeO.bind ?_ (fun _ => ?_)
set_option maxHeartbeats 8000000 in
set_option maxRecDepth 100000 in
theorem siglumlaw03_FoldMore.calls (k : Nat) (a0 : ByteArray) (a1 : Int) (a2 : Int) (r : Bool) (w : World) (hG : Gu w) (h : siglumlaw03_FoldMore.f k a0 a1 a2 = some r) :
    Calls Tryd.prog 3 #[.string a0, .int .i64 a1, .int .i64 a2] w fun e w' => e = .returned (.bool r) ∧ Below w.heap.size w w' := by
  have HB := Aside0.mk (Below.refl w.heap.size w)
  have HG := Aside0.mk hG
  clear hG
  have H : ((siglumlaw03_awake.f).bind fun t151 => (if t151 = true then (if a1 < 0 then (siglumlaw03_FoldMore.j0 k a0 a1 a2 true) else (if a1 > 31 then (siglumlaw03_FoldMore.j0 k a0 a1 a2 true) else (if a2 < 0 then (siglumlaw03_FoldMore.j0 k a0 a1 a2 true) else (if a2 > 31 then (siglumlaw03_FoldMore.j0 k a0 a1 a2 true) else (if (Go.bits .and .i64 a1 a2) = a1 then ((siglumref01_Valid.f k a0).bind fun t152 => (siglumlaw03_FoldMore.j0 k a0 a1 a2 (!t152))) else (siglumlaw03_FoldMore.j0 k a0 a1 a2 true)))))) else (some false))) = some r := h
  clear h
  replace H := Option.bind_eq_some_iff.mp H
  obtain ⟨t151, A40, H⟩ := H
  replace H : (if t151 = true then (if a1 < 0 then (siglumlaw03_FoldMore.j0 k a0 a1 a2 true) else (if a1 > 31 then (siglumlaw03_FoldMore.j0 k a0 a1 a2 true) else (if a2 < 0 then (siglumlaw03_FoldMore.j0 k a0 a1 a2 true) else (if a2 > 31 then (siglumlaw03_FoldMore.j0 k a0 a1 a2 true) else (if (Go.bits .and .i64 a1 a2) = a1 then ((siglumref01_Valid.f k a0).bind fun t152 => (siglumlaw03_FoldMore.j0 k a0 a1 a2 (!t152))) else (siglumlaw03_FoldMore.j0 k a0 a1 a2 true)))))) else (some false)) = some r := H
  have A4 := Aside0.mk A40
  clear A40
  by_cases c5 : t151 = true
  · subst c5
    have H1 : (if a1 < 0 then (siglumlaw03_FoldMore.j0 k a0 a1 a2 true) else (if a1 > 31 then (siglumlaw03_FoldMore.j0 k a0 a1 a2 true) else (if a2 < 0 then (siglumlaw03_FoldMore.j0 k a0 a1 a2 true) else (if a2 > 31 then (siglumlaw03_FoldMore.j0 k a0 a1 a2 true) else (if (Go.bits .and .i64 a1 a2) = a1 then ((siglumref01_Valid.f k a0).bind fun t152 => (siglumlaw03_FoldMore.j0 k a0 a1 a2 (!t152))) else (siglumlaw03_FoldMore.j0 k a0 a1 a2 true)))))) = some r := by rw [if_pos rfl] at H; exact H
    clear H
    have H := H1
    clear H1
    have HC6 := Aside0.mk H
    clear H
    go_enter Tryd.func3, Tryd.ntmps3
    go_upto_region 3 with (first | ((with_reducible refine gate_callee (f := 13) rfl ?_); refine goesL_ (some 13) rfl rfl Tryd.func13 (by kernel_rfl) rfl #[] rfl (by (try simp only [List.map_toArray, List.map_cons, List.map_nil]); first | done | rfl | (simp only [List.length_drop, List.length_take]; rfl)) ?_; (with_reducible refine (siglumlaw03_awake.calls  true _ ?side1 A4.out).mono ?_); (case side1 => exact Gu.below HG.out (by repeat (first | (with_reducible first | exact HB.out | apply below_alloc | apply pw_below_drewN | apply below_drew1) | exact HB.out))); rintro e w7 ⟨rfl, hb⟩; refine ⟨_, rfl, ?_⟩; have n0_ := Aside0.mk (below_step (by repeat (first | (with_reducible first | exact HB.out | apply below_alloc | apply pw_below_drewN | apply below_drew1) | exact HB.out)) hb); clear HB; have HB := n0_; clear n0_; (try clear hb); (try clear hb2); (try clear hk); (try clear hi)))
    (try simp only [Act.put, List.setIfInBounds_toArray, List.set_cons_zero, List.set_cons_succ])
    go_cut [40] (fun v40 wc => ∃ (kq : Nat) (x40_5 : Bool), v40 = .bool x40_5 ∧ Aside0 (siglumlaw03_FoldMore.j0 kq a0 a1 a2 x40_5 = some r) ∧ Aside0 (kq ≤ k) ∧ Aside0 (Below w.heap.size w wc))
    case first =>
      have H := HC6.out
      clear HC6
      by_cases c8 : a1 < 0
      · rw [if_pos c8] at H
        have c8b0 : decide (a1 < 0) = true := decide_eq_true c8
        clear c8
        (first | rw [c8b0] | (simp only [i64_w, i32_w]; rw [c8b0]) | skip)
        have H' := Aside0.mk H
        clear H
        go_wp2
        go_meet
        case rel => exact ⟨_, (true), (by first | rfl | (simp; done) | (simp [*]; done)), H', ⟨by first | omega | exact Nat.le_refl _⟩, ⟨by repeat (first | (with_reducible first | exact HB.out | apply below_alloc | apply pw_below_drewN | apply below_drew1) | exact HB.out)⟩⟩
      · rw [if_neg c8] at H
        have c8b0 : decide (a1 < 0) = false := decide_eq_false c8
        clear c8
        (first | rw [c8b0] | (simp only [i64_w, i32_w]; rw [c8b0]) | skip)
        by_cases c9 : a1 > 31
        · rw [if_pos c9] at H
          have c9b0 : decide (31 < a1) = true := decide_eq_true c9
          clear c9
          have H' := Aside0.mk H
          clear H
          go_wp2
          go_meet
          case rel => exact ⟨_, (true), (by first | rfl | (simp; done) | (simp [*]; done)), H', ⟨by first | omega | exact Nat.le_refl _⟩, ⟨by repeat (first | (with_reducible first | exact HB.out | apply below_alloc | apply pw_below_drewN | apply below_drew1) | exact HB.out)⟩⟩
        · rw [if_neg c9] at H
          have c9b0 : decide (31 < a1) = false := decide_eq_false c9
          clear c9
          by_cases c10 : a2 < 0
          · rw [if_pos c10] at H
            have c10b0 : decide (a2 < 0) = true := decide_eq_true c10
            clear c10
            have H' := Aside0.mk H
            clear H
            go_wp2
            go_meet
            case rel => exact ⟨_, (true), (by first | rfl | (simp; done) | (simp [*]; done)), H', ⟨by first | omega | exact Nat.le_refl _⟩, ⟨by repeat (first | (with_reducible first | exact HB.out | apply below_alloc | apply pw_below_drewN | apply below_drew1) | exact HB.out)⟩⟩
          · rw [if_neg c10] at H
            have c10b0 : decide (a2 < 0) = false := decide_eq_false c10
            clear c10
            by_cases c11 : a2 > 31
            · rw [if_pos c11] at H
              have c11b0 : decide (31 < a2) = true := decide_eq_true c11
              clear c11
              have H' := Aside0.mk H
              clear H
              go_wp2
              go_meet
              case rel => exact ⟨_, (true), (by first | rfl | (simp; done) | (simp [*]; done)), H', ⟨by first | omega | exact Nat.le_refl _⟩, ⟨by repeat (first | (with_reducible first | exact HB.out | apply below_alloc | apply pw_below_drewN | apply below_drew1) | exact HB.out)⟩⟩
            · rw [if_neg c11] at H
              have c11b0 : decide (31 < a2) = false := decide_eq_false c11
              clear c11
              by_cases c12 : (Go.bits .and .i64 a1 a2) = a1
              · rw [if_pos c12] at H
                have c12b0 : ((Go.bits .and .i64 a1 a2) == a1) = true := beq_iff_eq.mpr c12
                have c12b1 : ((Go.bits .and .i64 a1 a2) != a1) = false := bne_eq_false_iff_eq.mpr c12
                clear c12
                replace H := Option.bind_eq_some_iff.mp H
                obtain ⟨t152, A130, H⟩ := H
                replace H : (siglumlaw03_FoldMore.j0 k a0 a1 a2 (!t152)) = some r := H
                have A13 := Aside0.mk A130
                clear A130
                have H' := Aside0.mk H
                clear H
                go_wp2_with (first | (go_at_call 14; (with_reducible refine (siglumref01_Valid.calls k a0 t152 _ A13.out).mono ?_); rintro e w14 ⟨rfl, hb⟩; have n0_ := Aside0.mk (below_step (by repeat (first | (with_reducible first | exact HB.out | apply below_alloc | apply pw_below_drewN | apply below_drew1) | exact HB.out)) hb); clear HB; have HB := n0_; clear n0_; (try clear hb); (try clear hb2); (try clear hk); (try clear hi)))
                go_meet
                case rel => exact ⟨_, (!t152), (by first | rfl | (simp; done) | (simp [*]; done)), H', ⟨by first | omega | exact Nat.le_refl _⟩, ⟨by repeat (first | (with_reducible first | exact HB.out | apply below_alloc | apply pw_below_drewN | apply below_drew1) | exact HB.out)⟩⟩
              · rw [if_neg c12] at H
                have c12b0 : ((Go.bits .and .i64 a1 a2) == a1) = false := beq_eq_false_iff_ne.mpr c12
                have c12b1 : ((Go.bits .and .i64 a1 a2) != a1) = true := bne_iff_ne.mpr c12
                have H' := Aside0.mk H
                clear H
                go_wp2
                go_meet
                case rel => exact ⟨_, (true), (by first | rfl | (simp; done) | (simp [*]; done)), H', ⟨by first | omega | exact Nat.le_refl _⟩, ⟨by repeat (first | (with_reducible first | exact HB.out | apply below_alloc | apply pw_below_drewN | apply below_drew1) | exact HB.out)⟩⟩
    case rest =>
      clear HC6
      try clear c1
      try clear p2
      try clear c3
      try clear c5
      try clear c8
      try clear c8b0
      try clear c9
      try clear c9b0
      try clear c10
      try clear c10b0
      try clear c11
      try clear c11b0
      try clear c12
      try clear c12b0
      try clear c12b1
      try clear c13
      obtain ⟨kq, x40_5, rfl, HA, HJ5, HB⟩ := hcut
      cases kq with
      | zero => exact absurd HA.out (by simp [siglumlaw03_FoldMore.j0])
      | succ kj5 =>
        have H := HA.out
        clear HA
        simp only [siglumlaw03_FoldMore.j0] at H
        by_cases c15 : x40_5 = true
        · subst c15
          have H1 : (some true) = some r := by rw [if_pos rfl] at H; exact H
          clear H
          have H := H1
          clear H1
          obtain rfl := Option.some.inj H
          go_wp2
          go_ret
          exact ⟨by first | rfl | (simp [errW_none, errW_some] <;> rfl) | (simp [*, errW_none, errW_some] <;> rfl), by repeat (first | (with_reducible first | exact HB.out | apply below_alloc | apply pw_below_drewN | apply below_drew1) | exact HB.out)⟩
        · replace c15 := Bool.eq_false_iff.mpr c15
          subst c15
          have H1 : ((fold_Text.f a0 a1).bind fun bt153 => ((fold_Text.f bt153.1 a2).bind fun bt155 => ((fold_Text.f a0 a2).bind fun bt157 => (if bt157.2 = 0 then (some (bt155.1.toList == bt157.1.toList)) else (some false))))) = some r := by rw [if_neg (show ¬ (false = true) by decide)] at H; exact H
          clear H
          have H := H1
          clear H1
          replace H := Option.bind_eq_some_iff.mp H
          obtain ⟨⟨t153, t154⟩, A160, H⟩ := H
          replace H : ((fold_Text.f t153 a2).bind fun bt155 => ((fold_Text.f a0 a2).bind fun bt157 => (if bt157.2 = 0 then (some (bt155.1.toList == bt157.1.toList)) else (some false)))) = some r := H
          have A16 := Aside0.mk A160
          clear A160
          replace H := Option.bind_eq_some_iff.mp H
          obtain ⟨⟨t155, t156⟩, A170, H⟩ := H
          replace H : ((fold_Text.f a0 a2).bind fun bt157 => (if bt157.2 = 0 then (some (t155.toList == bt157.1.toList)) else (some false))) = some r := H
          have A17 := Aside0.mk A170
          clear A170
          replace H := Option.bind_eq_some_iff.mp H
          obtain ⟨⟨t157, t158⟩, A180, H⟩ := H
          replace H : (if t158 = 0 then (some (t155.toList == t157.toList)) else (some false)) = some r := H
          have A18 := Aside0.mk A180
          clear A180
          by_cases c19 : t158 = 0
          · rw [if_pos c19] at H
            have c19b0 : (t158 == 0) = true := beq_iff_eq.mpr c19
            have c19b1 : (t158 != 0) = false := bne_eq_false_iff_eq.mpr c19
            clear c19
            obtain rfl := Option.some.inj H
            go_wp2_with (first | ((with_reducible refine gate_callee (f := 15) rfl ?_); refine goesL_ (some 44) rfl rfl Tryd.func15 (by kernel_rfl) rfl #[.string a0, .int .i64 a1] rfl (by (try simp only [List.map_toArray, List.map_cons, List.map_nil]); first | done | rfl | (simp only [List.length_drop, List.length_take]; rfl)) ?_; (with_reducible refine (fold_Text.calls a0 a1 t153 t154 _ ?side1 A16.out).mono ?_); (case side1 => exact Gu.below HG.out (by repeat (first | (with_reducible first | exact HB.out | apply below_alloc | apply pw_below_drewN | apply below_drew1) | exact HB.out))); rintro e w20 ⟨rfl, hb⟩; refine ⟨_, rfl, ?_⟩; have n0_ := Aside0.mk (below_step (by repeat (first | (with_reducible first | exact HB.out | apply below_alloc | apply pw_below_drewN | apply below_drew1) | exact HB.out)) hb); clear HB; have HB := n0_; clear n0_; (try clear hb); (try clear hb2); (try clear hk); (try clear hi)) | ((with_reducible refine gate_callee (f := 15) rfl ?_); refine goesL_ (some 50) rfl rfl Tryd.func15 (by kernel_rfl) rfl #[.string t153, .int .i64 a2] rfl (by (try simp only [List.map_toArray, List.map_cons, List.map_nil]); first | done | rfl | (simp only [List.length_drop, List.length_take]; rfl)) ?_; (with_reducible refine (fold_Text.calls t153 a2 t155 t156 _ ?side1 A17.out).mono ?_); (case side1 => exact Gu.below HG.out (by repeat (first | (with_reducible first | exact HB.out | apply below_alloc | apply pw_below_drewN | apply below_drew1) | exact HB.out))); rintro e w21 ⟨rfl, hb⟩; refine ⟨_, rfl, ?_⟩; have n0_ := Aside0.mk (below_step (by repeat (first | (with_reducible first | exact HB.out | apply below_alloc | apply pw_below_drewN | apply below_drew1) | exact HB.out)) hb); clear HB; have HB := n0_; clear n0_; (try clear hb); (try clear hb2); (try clear hk); (try clear hi)) | ((with_reducible refine gate_callee (f := 15) rfl ?_); refine goesL_ (some 56) rfl rfl Tryd.func15 (by kernel_rfl) rfl #[.string a0, .int .i64 a2] rfl (by (try simp only [List.map_toArray, List.map_cons, List.map_nil]); first | done | rfl | (simp only [List.length_drop, List.length_take]; rfl)) ?_; (with_reducible refine (fold_Text.calls a0 a2 t157 t158 _ ?side1 A18.out).mono ?_); (case side1 => exact Gu.below HG.out (by repeat (first | (with_reducible first | exact HB.out | apply below_alloc | apply pw_below_drewN | apply below_drew1) | exact HB.out))); rintro e w22 ⟨rfl, hb⟩; refine ⟨_, rfl, ?_⟩; have n0_ := Aside0.mk (below_step (by repeat (first | (with_reducible first | exact HB.out | apply below_alloc | apply pw_below_drewN | apply below_drew1) | exact HB.out)) hb); clear HB; have HB := n0_; clear n0_; (try clear hb); (try clear hb2); (try clear hk); (try clear hi)))
            go_ret
            exact ⟨by first | rfl | (simp [errW_none, errW_some] <;> rfl) | (simp [*, errW_none, errW_some] <;> rfl), by repeat (first | (with_reducible first | exact HB.out | apply below_alloc | apply pw_below_drewN | apply below_drew1) | exact HB.out)⟩
          · rw [if_neg c19] at H
            have c19b0 : (t158 == 0) = false := beq_eq_false_iff_ne.mpr c19
            have c19b1 : (t158 != 0) = true := bne_iff_ne.mpr c19
            obtain rfl := Option.some.inj H
            go_wp2_with (first | ((with_reducible refine gate_callee (f := 15) rfl ?_); refine goesL_ (some 44) rfl rfl Tryd.func15 (by kernel_rfl) rfl #[.string a0, .int .i64 a1] rfl (by (try simp only [List.map_toArray, List.map_cons, List.map_nil]); first | done | rfl | (simp only [List.length_drop, List.length_take]; rfl)) ?_; (with_reducible refine (fold_Text.calls a0 a1 t153 t154 _ ?side1 A16.out).mono ?_); (case side1 => exact Gu.below HG.out (by repeat (first | (with_reducible first | exact HB.out | apply below_alloc | apply pw_below_drewN | apply below_drew1) | exact HB.out))); rintro e w23 ⟨rfl, hb⟩; refine ⟨_, rfl, ?_⟩; have n0_ := Aside0.mk (below_step (by repeat (first | (with_reducible first | exact HB.out | apply below_alloc | apply pw_below_drewN | apply below_drew1) | exact HB.out)) hb); clear HB; have HB := n0_; clear n0_; (try clear hb); (try clear hb2); (try clear hk); (try clear hi)) | ((with_reducible refine gate_callee (f := 15) rfl ?_); refine goesL_ (some 50) rfl rfl Tryd.func15 (by kernel_rfl) rfl #[.string t153, .int .i64 a2] rfl (by (try simp only [List.map_toArray, List.map_cons, List.map_nil]); first | done | rfl | (simp only [List.length_drop, List.length_take]; rfl)) ?_; (with_reducible refine (fold_Text.calls t153 a2 t155 t156 _ ?side1 A17.out).mono ?_); (case side1 => exact Gu.below HG.out (by repeat (first | (with_reducible first | exact HB.out | apply below_alloc | apply pw_below_drewN | apply below_drew1) | exact HB.out))); rintro e w24 ⟨rfl, hb⟩; refine ⟨_, rfl, ?_⟩; have n0_ := Aside0.mk (below_step (by repeat (first | (with_reducible first | exact HB.out | apply below_alloc | apply pw_below_drewN | apply below_drew1) | exact HB.out)) hb); clear HB; have HB := n0_; clear n0_; (try clear hb); (try clear hb2); (try clear hk); (try clear hi)) | ((with_reducible refine gate_callee (f := 15) rfl ?_); refine goesL_ (some 56) rfl rfl Tryd.func15 (by kernel_rfl) rfl #[.string a0, .int .i64 a2] rfl (by (try simp only [List.map_toArray, List.map_cons, List.map_nil]); first | done | rfl | (simp only [List.length_drop, List.length_take]; rfl)) ?_; (with_reducible refine (fold_Text.calls a0 a2 t157 t158 _ ?side1 A18.out).mono ?_); (case side1 => exact Gu.below HG.out (by repeat (first | (with_reducible first | exact HB.out | apply below_alloc | apply pw_below_drewN | apply below_drew1) | exact HB.out))); rintro e w25 ⟨rfl, hb⟩; refine ⟨_, rfl, ?_⟩; have n0_ := Aside0.mk (below_step (by repeat (first | (with_reducible first | exact HB.out | apply below_alloc | apply pw_below_drewN | apply below_drew1) | exact HB.out)) hb); clear HB; have HB := n0_; clear n0_; (try clear hb); (try clear hb2); (try clear hk); (try clear hi)))
            go_ret
            exact ⟨by first | rfl | (simp [errW_none, errW_some] <;> rfl) | (simp [*, errW_none, errW_some] <;> rfl), by repeat (first | (with_reducible first | exact HB.out | apply below_alloc | apply pw_below_drewN | apply below_drew1) | exact HB.out)⟩
  · replace c5 := Bool.eq_false_iff.mpr c5
    subst c5
    have H1 : (some false) = some r := by rw [if_neg (show ¬ (false = true) by decide)] at H; exact H
    clear H
    have H := H1
    clear H1
    obtain rfl := Option.some.inj H
    go_enter Tryd.func3, Tryd.ntmps3
    go_wp2_with (first | ((with_reducible refine gate_callee (f := 13) rfl ?_); refine goesL_ (some 13) rfl rfl Tryd.func13 (by kernel_rfl) rfl #[] rfl (by (try simp only [List.map_toArray, List.map_cons, List.map_nil]); first | done | rfl | (simp only [List.length_drop, List.length_take]; rfl)) ?_; (with_reducible refine (siglumlaw03_awake.calls  false _ ?side1 A4.out).mono ?_); (case side1 => exact Gu.below HG.out (by repeat (first | (with_reducible first | exact HB.out | apply below_alloc | apply pw_below_drewN | apply below_drew1) | exact HB.out))); rintro e w26 ⟨rfl, hb⟩; refine ⟨_, rfl, ?_⟩; have n0_ := Aside0.mk (below_step (by repeat (first | (with_reducible first | exact HB.out | apply below_alloc | apply pw_below_drewN | apply below_drew1) | exact HB.out)) hb); clear HB; have HB := n0_; clear n0_; (try clear hb); (try clear hb2); (try clear hk); (try clear hi)))
    go_ret
    exact ⟨by first | rfl | (simp [errW_none, errW_some] <;> rfl) | (simp [*, errW_none, errW_some] <;> rfl), by repeat (first | (with_reducible first | exact HB.out | apply below_alloc | apply pw_below_drewN | apply below_drew1) | exact HB.out)⟩

end Go.Proofs.YtblpiceallbfjaaDoor.Pr
