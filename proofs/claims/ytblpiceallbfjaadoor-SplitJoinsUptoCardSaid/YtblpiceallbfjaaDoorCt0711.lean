/- Texts of this claim, one behind the other, of each what the row uses: Pr23, PureUtf, PureRef1, PureScan, PureWords, PureRight, Pr3, Pr13, PureFold, PureRef3, PureFoldTexts. -/
import Derived.Test.YtblpiceallbfjaaDoorCt072
import Derived.Test.YtblpiceallbfjaaDoorCt077
import Derived.Test.YtblpiceallbfjaaDoorCt0710
import Derived.Test.YtblpiceallbfjaaDoorCt076
import Derived.Test.YtblpiceallbfjaaDoorCt075
import Derived.Lib.MapLaws
import Derived.Test.YtblpiceallbfjaaDoorCt073
import Derived.Test.YtblpiceallbfjaaDoorCt079
import Derived.Test.YtblpiceallbfjaaDoorCt078
namespace Go.Proofs.YtblpiceallbfjaaDoor.Pr
open Go.RowKit Go.Proofs.YtblpiceallbfjaaDoorW.PrintWords Go.Proofs.YtblpiceallbfjaaDoorW.PrintLast Go.Proofs.YtblpiceallbfjaaDoorW.PrintMore
attribute [local go_sem] max2_int min2_int max_two min_two max_three min_three max_four min_four   -- for this text's walks alone
set_option linter.unusedVariables false
set_option linter.unusedSimpArgs false
mutual
def siglumlaw07_SplitJoins.j0 : Nat → List (S87) → Int → Bool → Option (Bool)
  | 0, _, _, _ => none
  | k + 1, x1, x2, x29 => if x29 = true then (some false) else ((split_Keys.f k x1 x2).bind fun bt363 => ((siglumref07_Keys.f k x1 x2).bind fun bt367 => (if bt363.2 = bt367.2 then (siglumlaw07_SplitJoins.j1 k bt363.1 bt367.1 ((bt363.1.length : Int) != (bt367.1.length : Int))) else (siglumlaw07_SplitJoins.j1 k bt363.1 bt367.1 true))))
def siglumlaw07_SplitJoins.j1 : Nat → List ByteArray → List ByteArray → Bool → Option (Bool)
  | 0, _, _, _ => none
  | k + 1, x7, x9, x51 => if x51 = true then (some false) else (siglumlaw07_SplitJoins.l0 k x7 x9 (x7.length : Int) 0)
def siglumlaw07_SplitJoins.l0 : Nat → List ByteArray → List ByteArray → Int → Int → Option (Bool)
  | 0, _, _, _, _ => none
  | k + 1, x7, x9, x53, x54 => if x54 < x53 then (if 0 ≤ x54 then (if x54 < (x7.length : Int) then (if x54 < (x9.length : Int) then (if (rdOf ByteArray.empty x7 x54).toList = (rdOf ByteArray.empty x9 x54).toList then (siglumlaw07_SplitJoins.l0 k x7 x9 x53 (wrap64 (x54 + 1))) else (some false)) else (none)) else (none)) else (none)) else (some true)
end
def siglumlaw07_SplitJoins.f (k : Nat) (a0 : ByteArray) (l1 : List (S87)) (a2 : Int) : Option (Bool) := (siglumlaw07_awake.f k).bind fun t358 => (if t358 = true then ((split_Join.f a0 l1).bind fun t359 => ((siglumref07_Join.f a0 l1).bind fun t360 => (if t359.toList = t360.toList then ((split_Right.f k a0 l1).bind fun t361 => ((siglumref07_Right.f k a0 l1).bind fun t362 => (siglumlaw07_SplitJoins.j0 k l1 a2 (t361 != t362)))) else (siglumlaw07_SplitJoins.j0 k l1 a2 true)))) else (some false))
theorem siglumlaw07_SplitJoins.mono_l : ∀ k, (∀ y0 y1 y2, LeO (siglumlaw07_SplitJoins.j0 k y0 y1 y2) (siglumlaw07_SplitJoins.j0 (k + 1) y0 y1 y2)) ∧ (∀ y0 y1 y2, LeO (siglumlaw07_SplitJoins.j1 k y0 y1 y2) (siglumlaw07_SplitJoins.j1 (k + 1) y0 y1 y2)) ∧ (∀ y0 y1 y2 y3, LeO (siglumlaw07_SplitJoins.l0 k y0 y1 y2 y3) (siglumlaw07_SplitJoins.l0 (k + 1) y0 y1 y2 y3))
  | 0 => ⟨fun _ _ _ r h => by simp [siglumlaw07_SplitJoins.j0] at h, fun _ _ _ r h => by simp [siglumlaw07_SplitJoins.j1] at h, fun _ _ _ _ r h => by simp [siglumlaw07_SplitJoins.l0] at h⟩
  | k + 1 => by
    obtain ⟨ih0, ih1, ih2⟩ := siglumlaw07_SplitJoins.mono_l k
    refine ⟨?_, ?_, ?_⟩
    · intro y0 y1 y2
      unfold siglumlaw07_SplitJoins.j0
      repeat' first
      | (with_reducible exact ih0 _ _ _)
      | (with_reducible exact ih1 _ _ _)
      | (with_reducible exact ih2 _ _ _ _)
      | (with_reducible exact siglumlaw07_awake.mono _)
      | (with_reducible exact siglumref07_Keys.mono _ _ _)
      | (with_reducible exact siglumref07_Right.mono _ _ _)
      | (with_reducible exact split_Keys.mono _ _ _)
      | (with_reducible exact split_Right.mono _ _ _)
      | (with_reducible exact LeO.refl _)
      | (with_reducible exact LeO.none _)
      | (with_reducible refine LeO.ite ?_ ?_)
      | (with_reducible refine LeO.bind ?_ (fun _ => ?_))
      | exact ih0 _ _ _
      | exact ih1 _ _ _
      | exact ih2 _ _ _ _
      | exact siglumlaw07_awake.mono _
      | exact siglumref07_Keys.mono _ _ _
      | exact siglumref07_Right.mono _ _ _
      | exact split_Keys.mono _ _ _
      | exact split_Right.mono _ _ _
      | exact LeO.none _
      | refine LeO.ite ?_ ?_
      | refine LeO.bind ?_ (fun _ => ?_)
    · intro y0 y1 y2
      unfold siglumlaw07_SplitJoins.j1
      repeat' first
      | (with_reducible exact ih0 _ _ _)
      | (with_reducible exact ih1 _ _ _)
      | (with_reducible exact ih2 _ _ _ _)
      | (with_reducible exact siglumlaw07_awake.mono _)
      | (with_reducible exact siglumref07_Keys.mono _ _ _)
      | (with_reducible exact siglumref07_Right.mono _ _ _)
      | (with_reducible exact split_Keys.mono _ _ _)
      | (with_reducible exact split_Right.mono _ _ _)
      | (with_reducible exact LeO.refl _)
      | (with_reducible exact LeO.none _)
      | (with_reducible refine LeO.ite ?_ ?_)
      | (with_reducible refine LeO.bind ?_ (fun _ => ?_))
      | exact ih0 _ _ _
      | exact ih1 _ _ _
      | exact ih2 _ _ _ _
      | exact siglumlaw07_awake.mono _
      | exact siglumref07_Keys.mono _ _ _
      | exact siglumref07_Right.mono _ _ _
      | exact split_Keys.mono _ _ _
      | exact split_Right.mono _ _ _
      | exact LeO.none _
      | refine LeO.ite ?_ ?_
      | refine LeO.bind ?_ (fun _ => ?_)
    · intro y0 y1 y2 y3
      unfold siglumlaw07_SplitJoins.l0
      repeat' first
      | (with_reducible exact ih0 _ _ _)
      | (with_reducible exact ih1 _ _ _)
      | (with_reducible exact ih2 _ _ _ _)
      | (with_reducible exact siglumlaw07_awake.mono _)
      | (with_reducible exact siglumref07_Keys.mono _ _ _)
      | (with_reducible exact siglumref07_Right.mono _ _ _)
      | (with_reducible exact split_Keys.mono _ _ _)
      | (with_reducible exact split_Right.mono _ _ _)
      | (with_reducible exact LeO.refl _)
      | (with_reducible exact LeO.none _)
      | (with_reducible refine LeO.ite ?_ ?_)
      | (with_reducible refine LeO.bind ?_ (fun _ => ?_))
      | exact ih0 _ _ _
      | exact ih1 _ _ _
      | exact ih2 _ _ _ _
      | exact siglumlaw07_awake.mono _
      | exact siglumref07_Keys.mono _ _ _
      | exact siglumref07_Right.mono _ _ _
      | exact split_Keys.mono _ _ _
      | exact split_Right.mono _ _ _
      | exact LeO.none _
      | refine LeO.ite ?_ ?_
      | refine LeO.bind ?_ (fun _ => ?_)
theorem siglumlaw07_SplitJoins.mono : ∀ a0 a1 a2 k, LeO (siglumlaw07_SplitJoins.f k a0 a1 a2) (siglumlaw07_SplitJoins.f (k + 1) a0 a1 a2) := by
  intro a0 a1 a2 k
  obtain ⟨ih0, ih1, ih2⟩ := siglumlaw07_SplitJoins.mono_l k
  unfold siglumlaw07_SplitJoins.f
  repeat' first
      | (with_reducible exact ih0 _ _ _)
      | (with_reducible exact ih1 _ _ _)
      | (with_reducible exact ih2 _ _ _ _)
      | (with_reducible exact siglumlaw07_awake.mono _)
      | (with_reducible exact siglumref07_Keys.mono _ _ _)
      | (with_reducible exact siglumref07_Right.mono _ _ _)
      | (with_reducible exact split_Keys.mono _ _ _)
      | (with_reducible exact split_Right.mono _ _ _)
      | (with_reducible exact LeO.refl _)
      | (with_reducible exact LeO.none _)
      | (with_reducible refine LeO.ite ?_ ?_)
      | (with_reducible refine LeO.bind ?_ (fun _ => ?_))
      | exact ih0 _ _ _
      | exact ih1 _ _ _
      | exact ih2 _ _ _ _
      | exact siglumlaw07_awake.mono _
      | exact siglumref07_Keys.mono _ _ _
      | exact siglumref07_Right.mono _ _ _
      | exact split_Keys.mono _ _ _
      | exact split_Right.mono _ _ _
      | exact LeO.none _
      | refine LeO.ite ?_ ?_
      | refine LeO.bind ?_ (fun _ => ?_)
set_option maxHeartbeats 8000000 in
set_option maxRecDepth 100000 in
theorem siglumlaw07_SplitJoins.calls (k : Nat) (a0 : ByteArray) (A1 : Option Addr) (c1 : Nat) (l1 : List (S87)) (a2 : Int) (r : Bool) (w : World) (hr1 : Kd.C k87 w A1 l1.length l1) (hc1 : l1.length ≤ c1) (hG : Gu w) (h : siglumlaw07_SplitJoins.f k a0 l1 a2 = some r) :
    Calls Tryd.prog 6 #[.string a0, .slice A1 l1.length c1, .int .i64 a2] w fun e w' => e = .returned (.bool r) ∧ Below w.heap.size w w' := by
  have HR1 := Aside0.mk hr1
  have HC1 := Aside0.mk hc1
  clear hr1 hc1
  have HB := Aside0.mk (Below.refl w.heap.size w)
  have HG := Aside0.mk hG
  clear hG
  have H : ((siglumlaw07_awake.f k).bind fun t358 => (if t358 = true then ((split_Join.f a0 l1).bind fun t359 => ((siglumref07_Join.f a0 l1).bind fun t360 => (if t359.toList = t360.toList then ((split_Right.f k a0 l1).bind fun t361 => ((siglumref07_Right.f k a0 l1).bind fun t362 => (siglumlaw07_SplitJoins.j0 k l1 a2 (t361 != t362)))) else (siglumlaw07_SplitJoins.j0 k l1 a2 true)))) else (some false))) = some r := h
  clear h
  replace H := Option.bind_eq_some_iff.mp H
  obtain ⟨t358, A40, H⟩ := H
  replace H : (if t358 = true then ((split_Join.f a0 l1).bind fun t359 => ((siglumref07_Join.f a0 l1).bind fun t360 => (if t359.toList = t360.toList then ((split_Right.f k a0 l1).bind fun t361 => ((siglumref07_Right.f k a0 l1).bind fun t362 => (siglumlaw07_SplitJoins.j0 k l1 a2 (t361 != t362)))) else (siglumlaw07_SplitJoins.j0 k l1 a2 true)))) else (some false)) = some r := H
  have A4 := Aside0.mk A40
  clear A40
  by_cases c5 : t358 = true
  · subst c5
    have H1 : ((split_Join.f a0 l1).bind fun t359 => ((siglumref07_Join.f a0 l1).bind fun t360 => (if t359.toList = t360.toList then ((split_Right.f k a0 l1).bind fun t361 => ((siglumref07_Right.f k a0 l1).bind fun t362 => (siglumlaw07_SplitJoins.j0 k l1 a2 (t361 != t362)))) else (siglumlaw07_SplitJoins.j0 k l1 a2 true)))) = some r := by rw [if_pos rfl] at H; exact H
    clear H
    have H := H1
    clear H1
    have HC6 := Aside0.mk H
    clear H
    go_enter Tryd.func6, Tryd.ntmps6
    go_upto_region 3 with (first | (go_at_call 20; (with_reducible refine (siglumlaw07_awake.calls k  true _ ?side1 A4.out).mono ?_); (case side1 => exact Gu.below HG.out (by repeat (first | (with_reducible first | exact HB.out | apply below_alloc | apply pw_below_drewN | apply below_drew1) | exact HB.out))); rintro e w7 ⟨rfl, hb⟩; have n0_ := Aside0.mk (below_step (by repeat (first | (with_reducible first | exact HB.out | apply below_alloc | apply pw_below_drewN | apply below_drew1) | exact HB.out)) hb); clear HB; have HB := n0_; clear n0_; (try clear hb); (try clear hb2); (try clear hk); (try clear hi)))
    repeat (go_quiet (first | (go_at_call 20; (with_reducible refine (siglumlaw07_awake.calls k  true _ ?side1 A4.out).mono ?_); (case side1 => exact Gu.below HG.out (by repeat (first | (with_reducible first | exact HB.out | apply below_alloc | apply pw_below_drewN | apply below_drew1) | exact HB.out))); rintro e w7 ⟨rfl, hb⟩; have n0_ := Aside0.mk (below_step (by repeat (first | (with_reducible first | exact HB.out | apply below_alloc | apply pw_below_drewN | apply below_drew1) | exact HB.out)) hb); clear HB; have HB := n0_; clear n0_; (try clear hb); (try clear hb2); (try clear hk); (try clear hi))); go_upto_region 3 with (first | (go_at_call 20; (with_reducible refine (siglumlaw07_awake.calls k  true _ ?side1 A4.out).mono ?_); (case side1 => exact Gu.below HG.out (by repeat (first | (with_reducible first | exact HB.out | apply below_alloc | apply pw_below_drewN | apply below_drew1) | exact HB.out))); rintro e w7 ⟨rfl, hb⟩; have n0_ := Aside0.mk (below_step (by repeat (first | (with_reducible first | exact HB.out | apply below_alloc | apply pw_below_drewN | apply below_drew1) | exact HB.out)) hb); clear HB; have HB := n0_; clear n0_; (try clear hb); (try clear hb2); (try clear hk); (try clear hi))))
    (try simp only [Act.put, List.setIfInBounds_toArray, List.set_cons_zero, List.set_cons_succ])
    go_cut [29] (fun v29 wc => ∃ (kq : Nat) (x29_5 : Bool), v29 = .bool x29_5 ∧ Aside0 (siglumlaw07_SplitJoins.j0 kq l1 a2 x29_5 = some r) ∧ Aside0 (kq ≤ k) ∧ Aside0 (Below w.heap.size w wc))
    case first =>
      have H := HC6.out
      clear HC6
      replace H := Option.bind_eq_some_iff.mp H
      obtain ⟨t359, A80, H⟩ := H
      replace H : ((siglumref07_Join.f a0 l1).bind fun t360 => (if t359.toList = t360.toList then ((split_Right.f k a0 l1).bind fun t361 => ((siglumref07_Right.f k a0 l1).bind fun t362 => (siglumlaw07_SplitJoins.j0 k l1 a2 (t361 != t362)))) else (siglumlaw07_SplitJoins.j0 k l1 a2 true))) = some r := H
      have A8 := Aside0.mk A80
      clear A80
      replace H := Option.bind_eq_some_iff.mp H
      obtain ⟨t360, A90, H⟩ := H
      replace H : (if t359.toList = t360.toList then ((split_Right.f k a0 l1).bind fun t361 => ((siglumref07_Right.f k a0 l1).bind fun t362 => (siglumlaw07_SplitJoins.j0 k l1 a2 (t361 != t362)))) else (siglumlaw07_SplitJoins.j0 k l1 a2 true)) = some r := H
      have A9 := Aside0.mk A90
      clear A90
      by_cases c10 : t359.toList = t360.toList
      · rw [if_pos c10] at H
        have c10b0 : (t359.toList == t360.toList) = true := beq_iff_eq.mpr c10
        have c10b1 : (t359.toList != t360.toList) = false := bne_eq_false_iff_eq.mpr c10
        clear c10
        (first | rw [c10b0] | (simp only [i64_w, i32_w]; rw [c10b0]) | skip)
        replace H := Option.bind_eq_some_iff.mp H
        obtain ⟨t361, A110, H⟩ := H
        replace H : ((siglumref07_Right.f k a0 l1).bind fun t362 => (siglumlaw07_SplitJoins.j0 k l1 a2 (t361 != t362))) = some r := H
        have A11 := Aside0.mk A110
        clear A110
        replace H := Option.bind_eq_some_iff.mp H
        obtain ⟨t362, A120, H⟩ := H
        replace H : (siglumlaw07_SplitJoins.j0 k l1 a2 (t361 != t362)) = some r := H
        have A12 := Aside0.mk A120
        clear A120
        have H' := Aside0.mk H
        clear H
        go_wp2_with (first | (go_at_call 21; (with_reducible refine (split_Join.calls a0 _ _ l1 t359 _ ?side1 ?side2 A8.out).mono ?_); (case side1 => repeat (first | exact (Kd.C_below HR1.out HB.out) | (with_reducible refine Kd.C_alloc ?_ _) | (with_reducible refine Kd.C_drewN ?_ _) | (with_reducible refine Kd.C_drew ?_))); (case side2 => exact HC1.out); rintro e w13 ⟨rfl, hb⟩; have n0_ := Aside0.mk (below_step (by repeat (first | (with_reducible first | exact HB.out | apply below_alloc | apply pw_below_drewN | apply below_drew1) | exact HB.out)) hb); clear HB; have HB := n0_; clear n0_; (try clear hb); (try clear hb2); (try clear hk); (try clear hi)) | (go_at_call 22; (with_reducible refine (siglumref07_Join.calls a0 _ _ l1 t360 _ ?side1 ?side2 A9.out).mono ?_); (case side1 => repeat (first | exact (Kd.C_below HR1.out HB.out) | (with_reducible refine Kd.C_alloc ?_ _) | (with_reducible refine Kd.C_drewN ?_ _) | (with_reducible refine Kd.C_drew ?_))); (case side2 => exact HC1.out); rintro e w14 ⟨rfl, hb⟩; have n0_ := Aside0.mk (below_step (by repeat (first | (with_reducible first | exact HB.out | apply below_alloc | apply pw_below_drewN | apply below_drew1) | exact HB.out)) hb); clear HB; have HB := n0_; clear n0_; (try clear hb); (try clear hb2); (try clear hk); (try clear hi)) | (go_at_call 23; (with_reducible refine (split_Right.calls k a0 _ _ l1 t361 _ ?side1 ?side2 ?side3 A11.out).mono ?_); (case side1 => repeat (first | exact (Kd.C_below HR1.out HB.out) | (with_reducible refine Kd.C_alloc ?_ _) | (with_reducible refine Kd.C_drewN ?_ _) | (with_reducible refine Kd.C_drew ?_))); (case side2 => exact HC1.out); (case side3 => exact Gu.below HG.out (by repeat (first | (with_reducible first | exact HB.out | apply below_alloc | apply pw_below_drewN | apply below_drew1) | exact HB.out))); rintro e w15 ⟨rfl, hb⟩; have n0_ := Aside0.mk (below_step (by repeat (first | (with_reducible first | exact HB.out | apply below_alloc | apply pw_below_drewN | apply below_drew1) | exact HB.out)) hb); clear HB; have HB := n0_; clear n0_; (try clear hb); (try clear hb2); (try clear hk); (try clear hi)) | (go_at_call 24; (with_reducible refine (siglumref07_Right.calls k a0 _ _ l1 t362 _ ?side1 ?side2 A12.out).mono ?_); (case side1 => repeat (first | exact (Kd.C_below HR1.out HB.out) | (with_reducible refine Kd.C_alloc ?_ _) | (with_reducible refine Kd.C_drewN ?_ _) | (with_reducible refine Kd.C_drew ?_))); (case side2 => exact HC1.out); rintro e w16 ⟨rfl, hb⟩; have n0_ := Aside0.mk (below_step (by repeat (first | (with_reducible first | exact HB.out | apply below_alloc | apply pw_below_drewN | apply below_drew1) | exact HB.out)) hb); clear HB; have HB := n0_; clear n0_; (try clear hb); (try clear hb2); (try clear hk); (try clear hi)))
        repeat (go_quiet (first | (go_at_call 21; (with_reducible refine (split_Join.calls a0 _ _ l1 t359 _ ?side1 ?side2 A8.out).mono ?_); (case side1 => repeat (first | exact (Kd.C_below HR1.out HB.out) | (with_reducible refine Kd.C_alloc ?_ _) | (with_reducible refine Kd.C_drewN ?_ _) | (with_reducible refine Kd.C_drew ?_))); (case side2 => exact HC1.out); rintro e w13 ⟨rfl, hb⟩; have n0_ := Aside0.mk (below_step (by repeat (first | (with_reducible first | exact HB.out | apply below_alloc | apply pw_below_drewN | apply below_drew1) | exact HB.out)) hb); clear HB; have HB := n0_; clear n0_; (try clear hb); (try clear hb2); (try clear hk); (try clear hi)) | (go_at_call 22; (with_reducible refine (siglumref07_Join.calls a0 _ _ l1 t360 _ ?side1 ?side2 A9.out).mono ?_); (case side1 => repeat (first | exact (Kd.C_below HR1.out HB.out) | (with_reducible refine Kd.C_alloc ?_ _) | (with_reducible refine Kd.C_drewN ?_ _) | (with_reducible refine Kd.C_drew ?_))); (case side2 => exact HC1.out); rintro e w14 ⟨rfl, hb⟩; have n0_ := Aside0.mk (below_step (by repeat (first | (with_reducible first | exact HB.out | apply below_alloc | apply pw_below_drewN | apply below_drew1) | exact HB.out)) hb); clear HB; have HB := n0_; clear n0_; (try clear hb); (try clear hb2); (try clear hk); (try clear hi)) | (go_at_call 23; (with_reducible refine (split_Right.calls k a0 _ _ l1 t361 _ ?side1 ?side2 ?side3 A11.out).mono ?_); (case side1 => repeat (first | exact (Kd.C_below HR1.out HB.out) | (with_reducible refine Kd.C_alloc ?_ _) | (with_reducible refine Kd.C_drewN ?_ _) | (with_reducible refine Kd.C_drew ?_))); (case side2 => exact HC1.out); (case side3 => exact Gu.below HG.out (by repeat (first | (with_reducible first | exact HB.out | apply below_alloc | apply pw_below_drewN | apply below_drew1) | exact HB.out))); rintro e w15 ⟨rfl, hb⟩; have n0_ := Aside0.mk (below_step (by repeat (first | (with_reducible first | exact HB.out | apply below_alloc | apply pw_below_drewN | apply below_drew1) | exact HB.out)) hb); clear HB; have HB := n0_; clear n0_; (try clear hb); (try clear hb2); (try clear hk); (try clear hi)) | (go_at_call 24; (with_reducible refine (siglumref07_Right.calls k a0 _ _ l1 t362 _ ?side1 ?side2 A12.out).mono ?_); (case side1 => repeat (first | exact (Kd.C_below HR1.out HB.out) | (with_reducible refine Kd.C_alloc ?_ _) | (with_reducible refine Kd.C_drewN ?_ _) | (with_reducible refine Kd.C_drew ?_))); (case side2 => exact HC1.out); rintro e w16 ⟨rfl, hb⟩; have n0_ := Aside0.mk (below_step (by repeat (first | (with_reducible first | exact HB.out | apply below_alloc | apply pw_below_drewN | apply below_drew1) | exact HB.out)) hb); clear HB; have HB := n0_; clear n0_; (try clear hb); (try clear hb2); (try clear hk); (try clear hi))); try go_wp2_with (first | (go_at_call 21; (with_reducible refine (split_Join.calls a0 _ _ l1 t359 _ ?side1 ?side2 A8.out).mono ?_); (case side1 => repeat (first | exact (Kd.C_below HR1.out HB.out) | (with_reducible refine Kd.C_alloc ?_ _) | (with_reducible refine Kd.C_drewN ?_ _) | (with_reducible refine Kd.C_drew ?_))); (case side2 => exact HC1.out); rintro e w13 ⟨rfl, hb⟩; have n0_ := Aside0.mk (below_step (by repeat (first | (with_reducible first | exact HB.out | apply below_alloc | apply pw_below_drewN | apply below_drew1) | exact HB.out)) hb); clear HB; have HB := n0_; clear n0_; (try clear hb); (try clear hb2); (try clear hk); (try clear hi)) | (go_at_call 22; (with_reducible refine (siglumref07_Join.calls a0 _ _ l1 t360 _ ?side1 ?side2 A9.out).mono ?_); (case side1 => repeat (first | exact (Kd.C_below HR1.out HB.out) | (with_reducible refine Kd.C_alloc ?_ _) | (with_reducible refine Kd.C_drewN ?_ _) | (with_reducible refine Kd.C_drew ?_))); (case side2 => exact HC1.out); rintro e w14 ⟨rfl, hb⟩; have n0_ := Aside0.mk (below_step (by repeat (first | (with_reducible first | exact HB.out | apply below_alloc | apply pw_below_drewN | apply below_drew1) | exact HB.out)) hb); clear HB; have HB := n0_; clear n0_; (try clear hb); (try clear hb2); (try clear hk); (try clear hi)) | (go_at_call 23; (with_reducible refine (split_Right.calls k a0 _ _ l1 t361 _ ?side1 ?side2 ?side3 A11.out).mono ?_); (case side1 => repeat (first | exact (Kd.C_below HR1.out HB.out) | (with_reducible refine Kd.C_alloc ?_ _) | (with_reducible refine Kd.C_drewN ?_ _) | (with_reducible refine Kd.C_drew ?_))); (case side2 => exact HC1.out); (case side3 => exact Gu.below HG.out (by repeat (first | (with_reducible first | exact HB.out | apply below_alloc | apply pw_below_drewN | apply below_drew1) | exact HB.out))); rintro e w15 ⟨rfl, hb⟩; have n0_ := Aside0.mk (below_step (by repeat (first | (with_reducible first | exact HB.out | apply below_alloc | apply pw_below_drewN | apply below_drew1) | exact HB.out)) hb); clear HB; have HB := n0_; clear n0_; (try clear hb); (try clear hb2); (try clear hk); (try clear hi)) | (go_at_call 24; (with_reducible refine (siglumref07_Right.calls k a0 _ _ l1 t362 _ ?side1 ?side2 A12.out).mono ?_); (case side1 => repeat (first | exact (Kd.C_below HR1.out HB.out) | (with_reducible refine Kd.C_alloc ?_ _) | (with_reducible refine Kd.C_drewN ?_ _) | (with_reducible refine Kd.C_drew ?_))); (case side2 => exact HC1.out); rintro e w16 ⟨rfl, hb⟩; have n0_ := Aside0.mk (below_step (by repeat (first | (with_reducible first | exact HB.out | apply below_alloc | apply pw_below_drewN | apply below_drew1) | exact HB.out)) hb); clear HB; have HB := n0_; clear n0_; (try clear hb); (try clear hb2); (try clear hk); (try clear hi))))
        go_meet
        case rel => exact ⟨_, ((t361 != t362)), (by first | rfl | (simp; done) | (simp [*]; done)), H', ⟨by first | omega | exact Nat.le_refl _⟩, ⟨by repeat (first | (with_reducible first | exact HB.out | apply below_alloc | apply pw_below_drewN | apply below_drew1) | exact HB.out)⟩⟩
      · rw [if_neg c10] at H
        have c10b0 : (t359.toList == t360.toList) = false := beq_eq_false_iff_ne.mpr c10
        have c10b1 : (t359.toList != t360.toList) = true := bne_iff_ne.mpr c10
        (first | rw [c10b0] | (simp only [i64_w, i32_w]; rw [c10b0]) | skip)
        have H' := Aside0.mk H
        clear H
        go_wp2_with (first | (go_at_call 21; (with_reducible refine (split_Join.calls a0 _ _ l1 t359 _ ?side1 ?side2 A8.out).mono ?_); (case side1 => repeat (first | exact (Kd.C_below HR1.out HB.out) | (with_reducible refine Kd.C_alloc ?_ _) | (with_reducible refine Kd.C_drewN ?_ _) | (with_reducible refine Kd.C_drew ?_))); (case side2 => exact HC1.out); rintro e w17 ⟨rfl, hb⟩; have n0_ := Aside0.mk (below_step (by repeat (first | (with_reducible first | exact HB.out | apply below_alloc | apply pw_below_drewN | apply below_drew1) | exact HB.out)) hb); clear HB; have HB := n0_; clear n0_; (try clear hb); (try clear hb2); (try clear hk); (try clear hi)) | (go_at_call 22; (with_reducible refine (siglumref07_Join.calls a0 _ _ l1 t360 _ ?side1 ?side2 A9.out).mono ?_); (case side1 => repeat (first | exact (Kd.C_below HR1.out HB.out) | (with_reducible refine Kd.C_alloc ?_ _) | (with_reducible refine Kd.C_drewN ?_ _) | (with_reducible refine Kd.C_drew ?_))); (case side2 => exact HC1.out); rintro e w18 ⟨rfl, hb⟩; have n0_ := Aside0.mk (below_step (by repeat (first | (with_reducible first | exact HB.out | apply below_alloc | apply pw_below_drewN | apply below_drew1) | exact HB.out)) hb); clear HB; have HB := n0_; clear n0_; (try clear hb); (try clear hb2); (try clear hk); (try clear hi)))
        repeat (go_quiet (first | (go_at_call 21; (with_reducible refine (split_Join.calls a0 _ _ l1 t359 _ ?side1 ?side2 A8.out).mono ?_); (case side1 => repeat (first | exact (Kd.C_below HR1.out HB.out) | (with_reducible refine Kd.C_alloc ?_ _) | (with_reducible refine Kd.C_drewN ?_ _) | (with_reducible refine Kd.C_drew ?_))); (case side2 => exact HC1.out); rintro e w17 ⟨rfl, hb⟩; have n0_ := Aside0.mk (below_step (by repeat (first | (with_reducible first | exact HB.out | apply below_alloc | apply pw_below_drewN | apply below_drew1) | exact HB.out)) hb); clear HB; have HB := n0_; clear n0_; (try clear hb); (try clear hb2); (try clear hk); (try clear hi)) | (go_at_call 22; (with_reducible refine (siglumref07_Join.calls a0 _ _ l1 t360 _ ?side1 ?side2 A9.out).mono ?_); (case side1 => repeat (first | exact (Kd.C_below HR1.out HB.out) | (with_reducible refine Kd.C_alloc ?_ _) | (with_reducible refine Kd.C_drewN ?_ _) | (with_reducible refine Kd.C_drew ?_))); (case side2 => exact HC1.out); rintro e w18 ⟨rfl, hb⟩; have n0_ := Aside0.mk (below_step (by repeat (first | (with_reducible first | exact HB.out | apply below_alloc | apply pw_below_drewN | apply below_drew1) | exact HB.out)) hb); clear HB; have HB := n0_; clear n0_; (try clear hb); (try clear hb2); (try clear hk); (try clear hi))); try go_wp2_with (first | (go_at_call 21; (with_reducible refine (split_Join.calls a0 _ _ l1 t359 _ ?side1 ?side2 A8.out).mono ?_); (case side1 => repeat (first | exact (Kd.C_below HR1.out HB.out) | (with_reducible refine Kd.C_alloc ?_ _) | (with_reducible refine Kd.C_drewN ?_ _) | (with_reducible refine Kd.C_drew ?_))); (case side2 => exact HC1.out); rintro e w17 ⟨rfl, hb⟩; have n0_ := Aside0.mk (below_step (by repeat (first | (with_reducible first | exact HB.out | apply below_alloc | apply pw_below_drewN | apply below_drew1) | exact HB.out)) hb); clear HB; have HB := n0_; clear n0_; (try clear hb); (try clear hb2); (try clear hk); (try clear hi)) | (go_at_call 22; (with_reducible refine (siglumref07_Join.calls a0 _ _ l1 t360 _ ?side1 ?side2 A9.out).mono ?_); (case side1 => repeat (first | exact (Kd.C_below HR1.out HB.out) | (with_reducible refine Kd.C_alloc ?_ _) | (with_reducible refine Kd.C_drewN ?_ _) | (with_reducible refine Kd.C_drew ?_))); (case side2 => exact HC1.out); rintro e w18 ⟨rfl, hb⟩; have n0_ := Aside0.mk (below_step (by repeat (first | (with_reducible first | exact HB.out | apply below_alloc | apply pw_below_drewN | apply below_drew1) | exact HB.out)) hb); clear HB; have HB := n0_; clear n0_; (try clear hb); (try clear hb2); (try clear hk); (try clear hi))))
        go_meet
        case rel => exact ⟨_, (true), (by first | rfl | (simp; done) | (simp [*]; done)), H', ⟨by first | omega | exact Nat.le_refl _⟩, ⟨by repeat (first | (with_reducible first | exact HB.out | apply below_alloc | apply pw_below_drewN | apply below_drew1) | exact HB.out)⟩⟩
    case rest =>
      clear HC6
      try clear c1
      try clear p2
      try clear c5
      try clear c6
      try clear c10
      try clear c10b0
      try clear c10b1
      obtain ⟨kq, x29_5, rfl, HA, HJ5, HB⟩ := hcut
      cases kq with
      | zero => exact absurd HA.out (by simp [siglumlaw07_SplitJoins.j0])
      | succ kj5 =>
        have H := HA.out
        clear HA
        simp only [siglumlaw07_SplitJoins.j0] at H
        by_cases c19 : x29_5 = true
        · subst c19
          have H1 : (some false) = some r := by rw [if_pos rfl] at H; exact H
          clear H
          have H := H1
          clear H1
          obtain rfl := Option.some.inj H
          go_wp2
          repeat (go_quiet (fail); try go_wp2)
          go_ret
          exact ⟨by first | rfl | (simp [errW_none, errW_some] <;> rfl) | (simp [*, errW_none, errW_some] <;> rfl), by repeat (first | (with_reducible first | exact HB.out | apply below_alloc | apply pw_below_drewN | apply below_drew1) | exact HB.out)⟩
        · replace c19 := Bool.eq_false_iff.mpr c19
          subst c19
          have H1 : ((split_Keys.f kj5 l1 a2).bind fun bt363 => ((siglumref07_Keys.f kj5 l1 a2).bind fun bt367 => (if bt363.2 = bt367.2 then (siglumlaw07_SplitJoins.j1 kj5 bt363.1 bt367.1 ((bt363.1.length : Int) != (bt367.1.length : Int))) else (siglumlaw07_SplitJoins.j1 kj5 bt363.1 bt367.1 true)))) = some r := by rw [if_neg (show ¬ (false = true) by decide)] at H; exact H
          clear H
          have H := H1
          clear H1
          replace H := Option.bind_eq_some_iff.mp H
          obtain ⟨⟨t363, t364⟩, A200, H⟩ := H
          replace H : ((siglumref07_Keys.f kj5 l1 a2).bind fun bt367 => (if t364 = bt367.2 then (siglumlaw07_SplitJoins.j1 kj5 t363 bt367.1 ((t363.length : Int) != (bt367.1.length : Int))) else (siglumlaw07_SplitJoins.j1 kj5 t363 bt367.1 true))) = some r := H
          have A20 := Aside0.mk A200
          clear A200
          replace H := Option.bind_eq_some_iff.mp H
          obtain ⟨⟨t367, t368⟩, A210, H⟩ := H
          replace H : (if t364 = t368 then (siglumlaw07_SplitJoins.j1 kj5 t363 t367 ((t363.length : Int) != (t367.length : Int))) else (siglumlaw07_SplitJoins.j1 kj5 t363 t367 true)) = some r := H
          have A21 := Aside0.mk A210
          clear A210
          have HC22 := Aside0.mk H
          clear H
          go_upto_region 7 with (first | (go_at_call 25; (with_reducible refine (split_Keys.calls kj5 _ _ l1 a2 t363 t364 _ ?side1 ?side2 ?side3 A20.out).mono ?_); (case side1 => repeat (first | exact (Kd.C_below HR1.out HB.out) | (with_reducible refine Kd.C_alloc ?_ _) | (with_reducible refine Kd.C_drewN ?_ _) | (with_reducible refine Kd.C_drew ?_))); (case side2 => exact HC1.out); (case side3 => exact Gu.below HG.out (by repeat (first | (with_reducible first | exact HB.out | apply below_alloc | apply pw_below_drewN | apply below_drew1) | exact HB.out))); rintro e w23 ⟨v365, rfl, ho0, hb⟩; have n0_ := Aside0.mk (Kd.R_lower ho0 (below_size (by repeat (first | (with_reducible first | exact HB.out | apply below_alloc | apply pw_below_drewN | apply below_drew1) | exact HB.out)))); have n1_ := Aside0.mk (below_step (by repeat (first | (with_reducible first | exact HB.out | apply below_alloc | apply pw_below_drewN | apply below_drew1) | exact HB.out)) hb); clear HB; have HO366 := n0_; have HB := n1_; clear n0_ n1_; (try clear hb); (try clear hb2); (try clear hk); (try clear hi); (try clear ho0)) | (go_at_call 26; (with_reducible refine (siglumref07_Keys.calls kj5 _ _ l1 a2 t367 t368 _ ?side1 ?side2 A21.out).mono ?_); (case side1 => repeat (first | exact (Kd.C_below HR1.out HB.out) | (with_reducible refine Kd.C_alloc ?_ _) | (with_reducible refine Kd.C_drewN ?_ _) | (with_reducible refine Kd.C_drew ?_))); (case side2 => exact HC1.out); rintro e w24 ⟨v369, rfl, ho0, hb⟩; have n0_ := Aside0.mk (Kd.R_elder' (by (with_reducible repeat (first | apply Kd.R_alloc | apply Kd.R_drewN | apply Kd.R_drew)); exact HO366.out) (Kd.R_base ho0) hb); have n1_ := Aside0.mk (Kd.R_lower (Kd.R_new' ho0 (Kd.R_lt (by (with_reducible repeat (first | apply Kd.R_alloc | apply Kd.R_drewN | apply Kd.R_drew)); exact HO366.out))) (below_size (by repeat (first | (with_reducible first | exact HB.out | apply below_alloc | apply pw_below_drewN | apply below_drew1) | exact HB.out)))); have n2_ := Aside0.mk (below_step (by repeat (first | (with_reducible first | exact HB.out | apply below_alloc | apply pw_below_drewN | apply below_drew1) | exact HB.out)) hb); clear HO366; clear HB; have HO366 := n0_; have HO370 := n1_; have HB := n2_; clear n0_ n1_ n2_; (try clear hb); (try clear hb2); (try clear hk); (try clear hi); (try clear ho0)))
          repeat (go_quiet (first | (go_at_call 25; (with_reducible refine (split_Keys.calls kj5 _ _ l1 a2 t363 t364 _ ?side1 ?side2 ?side3 A20.out).mono ?_); (case side1 => repeat (first | exact (Kd.C_below HR1.out HB.out) | (with_reducible refine Kd.C_alloc ?_ _) | (with_reducible refine Kd.C_drewN ?_ _) | (with_reducible refine Kd.C_drew ?_))); (case side2 => exact HC1.out); (case side3 => exact Gu.below HG.out (by repeat (first | (with_reducible first | exact HB.out | apply below_alloc | apply pw_below_drewN | apply below_drew1) | exact HB.out))); rintro e w23 ⟨v365, rfl, ho0, hb⟩; have n0_ := Aside0.mk (Kd.R_lower ho0 (below_size (by repeat (first | (with_reducible first | exact HB.out | apply below_alloc | apply pw_below_drewN | apply below_drew1) | exact HB.out)))); have n1_ := Aside0.mk (below_step (by repeat (first | (with_reducible first | exact HB.out | apply below_alloc | apply pw_below_drewN | apply below_drew1) | exact HB.out)) hb); clear HB; have HO366 := n0_; have HB := n1_; clear n0_ n1_; (try clear hb); (try clear hb2); (try clear hk); (try clear hi); (try clear ho0)) | (go_at_call 26; (with_reducible refine (siglumref07_Keys.calls kj5 _ _ l1 a2 t367 t368 _ ?side1 ?side2 A21.out).mono ?_); (case side1 => repeat (first | exact (Kd.C_below HR1.out HB.out) | (with_reducible refine Kd.C_alloc ?_ _) | (with_reducible refine Kd.C_drewN ?_ _) | (with_reducible refine Kd.C_drew ?_))); (case side2 => exact HC1.out); rintro e w24 ⟨v369, rfl, ho0, hb⟩; have n0_ := Aside0.mk (Kd.R_elder' (by (with_reducible repeat (first | apply Kd.R_alloc | apply Kd.R_drewN | apply Kd.R_drew)); exact HO366.out) (Kd.R_base ho0) hb); have n1_ := Aside0.mk (Kd.R_lower (Kd.R_new' ho0 (Kd.R_lt (by (with_reducible repeat (first | apply Kd.R_alloc | apply Kd.R_drewN | apply Kd.R_drew)); exact HO366.out))) (below_size (by repeat (first | (with_reducible first | exact HB.out | apply below_alloc | apply pw_below_drewN | apply below_drew1) | exact HB.out)))); have n2_ := Aside0.mk (below_step (by repeat (first | (with_reducible first | exact HB.out | apply below_alloc | apply pw_below_drewN | apply below_drew1) | exact HB.out)) hb); clear HO366; clear HB; have HO366 := n0_; have HO370 := n1_; have HB := n2_; clear n0_ n1_ n2_; (try clear hb); (try clear hb2); (try clear hk); (try clear hi); (try clear ho0))); go_upto_region 7 with (first | (go_at_call 25; (with_reducible refine (split_Keys.calls kj5 _ _ l1 a2 t363 t364 _ ?side1 ?side2 ?side3 A20.out).mono ?_); (case side1 => repeat (first | exact (Kd.C_below HR1.out HB.out) | (with_reducible refine Kd.C_alloc ?_ _) | (with_reducible refine Kd.C_drewN ?_ _) | (with_reducible refine Kd.C_drew ?_))); (case side2 => exact HC1.out); (case side3 => exact Gu.below HG.out (by repeat (first | (with_reducible first | exact HB.out | apply below_alloc | apply pw_below_drewN | apply below_drew1) | exact HB.out))); rintro e w23 ⟨v365, rfl, ho0, hb⟩; have n0_ := Aside0.mk (Kd.R_lower ho0 (below_size (by repeat (first | (with_reducible first | exact HB.out | apply below_alloc | apply pw_below_drewN | apply below_drew1) | exact HB.out)))); have n1_ := Aside0.mk (below_step (by repeat (first | (with_reducible first | exact HB.out | apply below_alloc | apply pw_below_drewN | apply below_drew1) | exact HB.out)) hb); clear HB; have HO366 := n0_; have HB := n1_; clear n0_ n1_; (try clear hb); (try clear hb2); (try clear hk); (try clear hi); (try clear ho0)) | (go_at_call 26; (with_reducible refine (siglumref07_Keys.calls kj5 _ _ l1 a2 t367 t368 _ ?side1 ?side2 A21.out).mono ?_); (case side1 => repeat (first | exact (Kd.C_below HR1.out HB.out) | (with_reducible refine Kd.C_alloc ?_ _) | (with_reducible refine Kd.C_drewN ?_ _) | (with_reducible refine Kd.C_drew ?_))); (case side2 => exact HC1.out); rintro e w24 ⟨v369, rfl, ho0, hb⟩; have n0_ := Aside0.mk (Kd.R_elder' (by (with_reducible repeat (first | apply Kd.R_alloc | apply Kd.R_drewN | apply Kd.R_drew)); exact HO366.out) (Kd.R_base ho0) hb); have n1_ := Aside0.mk (Kd.R_lower (Kd.R_new' ho0 (Kd.R_lt (by (with_reducible repeat (first | apply Kd.R_alloc | apply Kd.R_drewN | apply Kd.R_drew)); exact HO366.out))) (below_size (by repeat (first | (with_reducible first | exact HB.out | apply below_alloc | apply pw_below_drewN | apply below_drew1) | exact HB.out)))); have n2_ := Aside0.mk (below_step (by repeat (first | (with_reducible first | exact HB.out | apply below_alloc | apply pw_below_drewN | apply below_drew1) | exact HB.out)) hb); clear HO366; clear HB; have HO366 := n0_; have HO370 := n1_; have HB := n2_; clear n0_ n1_ n2_; (try clear hb); (try clear hb2); (try clear hk); (try clear hi); (try clear ho0))))
          (try simp only [Act.put, List.setIfInBounds_toArray, List.set_cons_zero, List.set_cons_succ])
          go_cut [51] (fun v51 wc => ∃ (kq : Nat) (x51_21 : Bool), v51 = .bool x51_21 ∧ Aside0 (siglumlaw07_SplitJoins.j1 kq t363 t367 x51_21 = some r) ∧ Aside0 (kq ≤ kj5) ∧ Aside0 (Kd.R Kd.string 9 wc w.heap.size (fun k_ => some k_ ≠ (v369 : Value).ownBlock) v365 t363) ∧ Aside0 (Kd.R Kd.string 9 wc w.heap.size (fun k_ => some k_ ≠ (v365 : Value).ownBlock) v369 t367) ∧ Aside0 (Below w.heap.size w wc))
          case first =>
            have H := HC22.out
            clear HC22
            by_cases c25 : t364 = t368
            · rw [if_pos c25] at H
              have c25b0 : (t364 == t368) = true := beq_iff_eq.mpr c25
              have c25b1 : (t364 != t368) = false := bne_eq_false_iff_eq.mpr c25
              clear c25
              (first | rw [c25b0] | (simp only [i64_w, i32_w]; rw [c25b0]) | skip)
              have H' := Aside0.mk H
              clear H
              obtain ⟨Ao26, co26, eo26⟩ := Kd.R_slice HO366.out
              subst eo26
              obtain ⟨Ao27, co27, eo27⟩ := Kd.R_slice HO370.out
              subst eo27
              go_wp2
              repeat (go_quiet (fail); try go_wp2)
              go_meet
              case rel => exact ⟨_, (((t363.length : Int) != (t367.length : Int))), (by first | rfl | (simp; done) | (simp [*]; done)), H', ⟨by have := HJ5.out; first | omega | exact Nat.le_refl _⟩, ⟨by (with_reducible repeat (first | apply Kd.R_alloc | apply Kd.R_drewN | apply Kd.R_drew)); exact Kd.R_mono HO366.out (fun _ hk => hk.2)⟩, ⟨by (with_reducible repeat (first | apply Kd.R_alloc | apply Kd.R_drewN | apply Kd.R_drew)); exact Kd.R_mono HO370.out (fun _ hk => hk.2)⟩, ⟨by repeat (first | (with_reducible first | exact HB.out | apply below_alloc | apply pw_below_drewN | apply below_drew1) | exact HB.out)⟩⟩
            · rw [if_neg c25] at H
              have c25b0 : (t364 == t368) = false := beq_eq_false_iff_ne.mpr c25
              have c25b1 : (t364 != t368) = true := bne_iff_ne.mpr c25
              (first | rw [c25b0] | (simp only [i64_w, i32_w]; rw [c25b0]) | skip)
              have H' := Aside0.mk H
              clear H
              go_wp2
              repeat (go_quiet (fail); try go_wp2)
              go_meet
              case rel => exact ⟨_, (true), (by first | rfl | (simp; done) | (simp [*]; done)), H', ⟨by have := HJ5.out; first | omega | exact Nat.le_refl _⟩, ⟨by (with_reducible repeat (first | apply Kd.R_alloc | apply Kd.R_drewN | apply Kd.R_drew)); exact Kd.R_mono HO366.out (fun _ hk => hk.2)⟩, ⟨by (with_reducible repeat (first | apply Kd.R_alloc | apply Kd.R_drewN | apply Kd.R_drew)); exact Kd.R_mono HO370.out (fun _ hk => hk.2)⟩, ⟨by repeat (first | (with_reducible first | exact HB.out | apply below_alloc | apply pw_below_drewN | apply below_drew1) | exact HB.out)⟩⟩
          case rest =>
            clear HC22
            try clear c1
            try clear c2
            try clear p2
            try clear c5
            try clear c6
            try clear c10
            try clear c10b0
            try clear c10b1
            try clear c19
            try clear c25
            try clear c25b0
            try clear c25b1
            try clear p2
            obtain ⟨kq, x51_21, rfl, HA, HJ21, HO_7, HO_9, HB⟩ := hcut
            cases kq with
            | zero => exact absurd HA.out (by simp [siglumlaw07_SplitJoins.j1])
            | succ kj21 =>
              have H := HA.out
              clear HA
              simp only [siglumlaw07_SplitJoins.j1] at H
              by_cases c28 : x51_21 = true
              · subst c28
                have H1 : (some false) = some r := by rw [if_pos rfl] at H; exact H
                clear H
                have H := H1
                clear H1
                obtain rfl := Option.some.inj H
                go_wp2
                repeat (go_quiet (fail); try go_wp2)
                go_ret
                exact ⟨by first | rfl | (simp [errW_none, errW_some] <;> rfl) | (simp [*, errW_none, errW_some] <;> rfl), by repeat (first | (with_reducible first | exact HB.out | apply below_alloc | apply pw_below_drewN | apply below_drew1) | exact HB.out)⟩
              · replace c28 := Bool.eq_false_iff.mpr c28
                subst c28
                have H1 : (siglumlaw07_SplitJoins.l0 kj21 t363 t367 (t363.length : Int) 0) = some r := by rw [if_neg (show ¬ (false = true) by decide)] at H; exact H
                clear H
                have H := H1
                clear H1
                have H' := Aside0.mk H
                clear H
                obtain ⟨Ao29, co29, eo29⟩ := Kd.R_slice HO_7.out
                subst eo29
                go_wp2
                repeat (go_quiet (fail); try go_wp2)
                go_loopg [54] kj21 (fun kq v54 w' => ∃ (x54_3 : Int), v54 = .int .i64 x54_3 ∧ Aside0 (siglumlaw07_SplitJoins.l0 kq t363 t367 (t363.length : Int) x54_3 = some r) ∧ Aside0 (kq ≤ kj21) ∧ Aside0 (Kd.R Kd.string 9 w' w.heap.size (fun k_ => some k_ ≠ (v369 : Value).ownBlock) (.slice Ao29 t363.length co29) t363) ∧ Aside0 (Kd.R Kd.string 9 w' w.heap.size (fun k_ => some k_ ≠ ((.slice Ao29 t363.length co29) : Value).ownBlock) v369 t367) ∧ Aside0 (Below w.heap.size w w'))
                case atStart => exact ⟨(0), (by first | rfl | (simp; done) | (simp [*]; done)), H', ⟨Nat.le_refl _⟩, ⟨by (with_reducible repeat (first | apply Kd.R_alloc | apply Kd.R_drewN | apply Kd.R_drew)); exact HO_7.out⟩, ⟨by (with_reducible repeat (first | apply Kd.R_alloc | apply Kd.R_drewN | apply Kd.R_drew)); exact HO_9.out⟩, ⟨by repeat (first | (with_reducible first | exact HB.out | apply below_alloc | apply pw_below_drewN | apply below_drew1) | exact HB.out)⟩⟩
                case round =>
                  clear H'
                  try clear c1
                  try clear c2
                  try clear p2
                  try clear c5
                  try clear c6
                  try clear c10
                  try clear c10b0
                  try clear c10b1
                  try clear c19
                  try clear c25
                  try clear c25b0
                  try clear c25b1
                  try clear c28
                  try clear p2
                  obtain ⟨x54_3, rfl, HA, HK3, HO_7, HO_9, HB⟩ := hrel
                  cases gk with
                  | zero => exact absurd HA.out (by simp [siglumlaw07_SplitJoins.l0])
                  | succ k3 =>
                    have H := HA.out
                    clear HA
                    simp only [siglumlaw07_SplitJoins.l0] at H
                    by_cases c30 : x54_3 < (t363.length : Int)
                    · rw [if_pos c30] at H
                      have c30b0 : decide (x54_3 < (t363.length : Int)) = true := decide_eq_true c30
                      clear c30
                      by_cases c31 : 0 ≤ x54_3
                      · rw [if_pos c31] at H
                        have c31b0 : decide (0 ≤ x54_3) = true := decide_eq_true c31
                        clear c31
                        by_cases c32 : x54_3 < (t363.length : Int)
                        · rw [if_pos c32] at H
                          have c32b0 : decide (x54_3 < (t363.length : Int)) = true := decide_eq_true c32
                          clear c32
                          by_cases c33 : x54_3 < (t367.length : Int)
                          · rw [if_pos c33] at H
                            have c33b0 : decide (x54_3 < (t367.length : Int)) = true := decide_eq_true c33
                            clear c33
                            by_cases c34 : (rdOf ByteArray.empty t363 x54_3).toList = (rdOf ByteArray.empty t367 x54_3).toList
                            · rw [if_pos c34] at H
                              have c34b0 : ((rdOf ByteArray.empty t363 x54_3).toList == (rdOf ByteArray.empty t367 x54_3).toList) = true := beq_iff_eq.mpr c34
                              have c34b1 : ((rdOf ByteArray.empty t363 x54_3).toList != (rdOf ByteArray.empty t367 x54_3).toList) = false := bne_eq_false_iff_eq.mpr c34
                              clear c34
                              have H' := Aside0.mk H
                              clear H
                              have p371 : 0 ≤ (x54_3 : Int) := of_decide_eq_true (by first | (with_reducible assumption) | assumption)
                              have q371 : x54_3 < (t363.length : Int) := of_decide_eq_true (by first | (with_reducible assumption) | assumption)
                              obtain ⟨ad371, e371, hx371_0⟩ := Kd.at_string (Kd.R_reads' HO_7.out).2.2 x54_3 p371 q371
                              cases e371
                              replace p371 := eq_true p371
                              replace q371 := eq_true q371
                              obtain ⟨Ao35, co35, eo35⟩ := Kd.R_slice HO_9.out
                              subst eo35
                              have p372 : 0 ≤ (x54_3 : Int) := of_decide_eq_true (by first | (with_reducible assumption) | assumption)
                              have q372 : x54_3 < (t367.length : Int) := of_decide_eq_true (by first | (with_reducible assumption) | assumption)
                              obtain ⟨ad372, e372, hx372_0⟩ := Kd.at_string (Kd.R_reads' HO_9.out).2.2 x54_3 p372 q372
                              cases e372
                              replace p372 := eq_true p372
                              replace q372 := eq_true q372
                              go_wp2
                              repeat (go_quiet (fail); try go_wp2)
                              go_roundg k3
                              case measure => have := HJ5.out; have := HJ21.out; have := HK3.out; omega
                              case rel => exact ⟨(wrap64 (x54_3 + 1)), (by first | rfl | (simp; done) | (simp [*]; done)), H', ⟨by have := HJ5.out; have := HJ21.out; have := HK3.out; omega⟩, ⟨by (with_reducible repeat (first | apply Kd.R_alloc | apply Kd.R_drewN | apply Kd.R_drew)); exact HO_7.out⟩, ⟨by (with_reducible repeat (first | apply Kd.R_alloc | apply Kd.R_drewN | apply Kd.R_drew)); exact HO_9.out⟩, ⟨by repeat (first | (with_reducible first | exact HB.out | apply below_alloc | apply pw_below_drewN | apply below_drew1) | exact HB.out)⟩⟩
                            · rw [if_neg c34] at H
                              have c34b0 : ((rdOf ByteArray.empty t363 x54_3).toList == (rdOf ByteArray.empty t367 x54_3).toList) = false := beq_eq_false_iff_ne.mpr c34
                              have c34b1 : ((rdOf ByteArray.empty t363 x54_3).toList != (rdOf ByteArray.empty t367 x54_3).toList) = true := bne_iff_ne.mpr c34
                              obtain rfl := Option.some.inj H
                              have p371 : 0 ≤ (x54_3 : Int) := of_decide_eq_true (by first | (with_reducible assumption) | assumption)
                              have q371 : x54_3 < (t363.length : Int) := of_decide_eq_true (by first | (with_reducible assumption) | assumption)
                              obtain ⟨ad371, e371, hx371_0⟩ := Kd.at_string (Kd.R_reads' HO_7.out).2.2 x54_3 p371 q371
                              cases e371
                              replace p371 := eq_true p371
                              replace q371 := eq_true q371
                              obtain ⟨Ao36, co36, eo36⟩ := Kd.R_slice HO_9.out
                              subst eo36
                              have p372 : 0 ≤ (x54_3 : Int) := of_decide_eq_true (by first | (with_reducible assumption) | assumption)
                              have q372 : x54_3 < (t367.length : Int) := of_decide_eq_true (by first | (with_reducible assumption) | assumption)
                              obtain ⟨ad372, e372, hx372_0⟩ := Kd.at_string (Kd.R_reads' HO_9.out).2.2 x54_3 p372 q372
                              cases e372
                              replace p372 := eq_true p372
                              replace q372 := eq_true q372
                              go_wp2
                              repeat (go_quiet (fail); try go_wp2)
                              go_ret
                              exact ⟨by first | rfl | (simp [errW_none, errW_some] <;> rfl) | (simp [*, errW_none, errW_some] <;> rfl), by repeat (first | (with_reducible first | exact HB.out | apply below_alloc | apply pw_below_drewN | apply below_drew1) | exact HB.out)⟩
                          · rw [if_neg c33] at H
                            exact absurd H (by simp)
                        · rw [if_neg c32] at H
                          exact absurd H (by simp)
                      · rw [if_neg c31] at H
                        exact absurd H (by simp)
                    · rw [if_neg c30] at H
                      have c30b0 : decide (x54_3 < (t363.length : Int)) = false := decide_eq_false c30
                      clear c30
                      obtain rfl := Option.some.inj H
                      go_wp2
                      repeat (go_quiet (fail); try go_wp2)
                      go_ret
                      exact ⟨by first | rfl | (simp [errW_none, errW_some] <;> rfl) | (simp [*, errW_none, errW_some] <;> rfl), by repeat (first | (with_reducible first | exact HB.out | apply below_alloc | apply pw_below_drewN | apply below_drew1) | exact HB.out)⟩
  · replace c5 := Bool.eq_false_iff.mpr c5
    subst c5
    have H1 : (some false) = some r := by rw [if_neg (show ¬ (false = true) by decide)] at H; exact H
    clear H
    have H := H1
    clear H1
    obtain rfl := Option.some.inj H
    go_enter Tryd.func6, Tryd.ntmps6
    go_wp2_with (first | (go_at_call 20; (with_reducible refine (siglumlaw07_awake.calls k  false _ ?side1 A4.out).mono ?_); (case side1 => exact Gu.below HG.out (by repeat (first | (with_reducible first | exact HB.out | apply below_alloc | apply pw_below_drewN | apply below_drew1) | exact HB.out))); rintro e w37 ⟨rfl, hb⟩; have n0_ := Aside0.mk (below_step (by repeat (first | (with_reducible first | exact HB.out | apply below_alloc | apply pw_below_drewN | apply below_drew1) | exact HB.out)) hb); clear HB; have HB := n0_; clear n0_; (try clear hb); (try clear hb2); (try clear hk); (try clear hi)))
    repeat (go_quiet (first | (go_at_call 20; (with_reducible refine (siglumlaw07_awake.calls k  false _ ?side1 A4.out).mono ?_); (case side1 => exact Gu.below HG.out (by repeat (first | (with_reducible first | exact HB.out | apply below_alloc | apply pw_below_drewN | apply below_drew1) | exact HB.out))); rintro e w37 ⟨rfl, hb⟩; have n0_ := Aside0.mk (below_step (by repeat (first | (with_reducible first | exact HB.out | apply below_alloc | apply pw_below_drewN | apply below_drew1) | exact HB.out)) hb); clear HB; have HB := n0_; clear n0_; (try clear hb); (try clear hb2); (try clear hk); (try clear hi))); try go_wp2_with (first | (go_at_call 20; (with_reducible refine (siglumlaw07_awake.calls k  false _ ?side1 A4.out).mono ?_); (case side1 => exact Gu.below HG.out (by repeat (first | (with_reducible first | exact HB.out | apply below_alloc | apply pw_below_drewN | apply below_drew1) | exact HB.out))); rintro e w37 ⟨rfl, hb⟩; have n0_ := Aside0.mk (below_step (by repeat (first | (with_reducible first | exact HB.out | apply below_alloc | apply pw_below_drewN | apply below_drew1) | exact HB.out)) hb); clear HB; have HB := n0_; clear n0_; (try clear hb); (try clear hb2); (try clear hk); (try clear hi))))
    go_ret
    exact ⟨by first | rfl | (simp [errW_none, errW_some] <;> rfl) | (simp [*, errW_none, errW_some] <;> rfl), by repeat (first | (with_reducible first | exact HB.out | apply below_alloc | apply pw_below_drewN | apply below_drew1) | exact HB.out)⟩
end Go.Proofs.YtblpiceallbfjaaDoor.Pr
/- Plain facts on cells, no program in sight: what is written of a list of runes reads as just these runes. -/
set_option linter.unusedVariables false
set_option linter.unusedSimpArgs false
namespace Go.Proofs.YtblpiceallbfjaaDoor.Pr
open Go.RowKit
/-- A scalar value. -/
def Scal (r : Int) : Prop := 0 ≤ r ∧ r ≤ 1114111 ∧ ¬ (55296 ≤ r ∧ r ≤ 57343)
instance (r : Int) : Decidable (Scal r) := by unfold Scal; exact inferInstance
theorem encI_cases (r : Int) (h : Scal r) :
    (r < 128 ∧ encI r = [UInt8.ofNat r.toNat]) ∨ (128 ≤ r ∧ r < 2048 ∧ encI r = [UInt8.ofNat (192 + r.toNat / 64), UInt8.ofNat (128 + r.toNat % 64)]) ∨
    (2048 ≤ r ∧ r < 65536 ∧ encI r = [UInt8.ofNat (224 + r.toNat / 4096), UInt8.ofNat (128 + r.toNat / 64 % 64), UInt8.ofNat (128 + r.toNat % 64)]) ∨
    (65536 ≤ r ∧ encI r = [UInt8.ofNat (240 + r.toNat / 262144), UInt8.ofNat (128 + r.toNat / 4096 % 64), UInt8.ofNat (128 + r.toNat / 64 % 64), UInt8.ofNat (128 + r.toNat % 64)]) := by
  obtain ⟨h0, h1, h2⟩ := h
  have hv : Utf8.valid r = true := by
    unfold Utf8.valid
    simp only [Bool.or_eq_true, Bool.and_eq_true, decide_eq_true_eq]
    omega
  unfold encI Utf8.encode
  rw [hv]
  simp only [if_true]
  by_cases c1 : r.toNat < 128
  · left; rw [if_pos c1]; exact ⟨by omega, rfl⟩
  by_cases c2 : r.toNat < 2048
  · right; left; rw [if_neg c1, if_pos c2]; exact ⟨by omega, by omega, rfl⟩
  by_cases c3 : r.toNat < 65536
  · right; right; left; rw [if_neg c1, if_neg c2, if_pos c3]; exact ⟨by omega, by omega, rfl⟩
  · right; right; right; rw [if_neg c1, if_neg c2, if_neg c3]; exact ⟨by omega, rfl⟩
theorem toN (n : Nat) (h : n < 256) : (UInt8.ofNat n).toNat = n := by simp [UInt8.toNat_ofNat', Nat.mod_eq_of_lt h]
end Go.Proofs.YtblpiceallbfjaaDoor.Pr
/- The document's cells (byte by byte) are the model's own decoding. -/
set_option linter.unusedVariables false
set_option linter.unusedSimpArgs false
namespace Go.Proofs.YtblpiceallbfjaaDoor.Pr
open Go.RowKit Go.Proofs.YtblpiceallbfjaaDoorW.PrintWords Go.Proofs.YtblpiceallbfjaaDoorW.PrintLast Go.Proofs.YtblpiceallbfjaaDoorW.PrintMore
theorem or_i32 (x y n : Nat) (hy : y < 2 ^ n) (hx : x * 2 ^ n + y < 2147483648) : Go.bits .or .i32 ((x * 2 ^ n : Nat) : Int) (y : Int) = ((x * 2 ^ n + y : Nat) : Int) := by
  show IntKind.i32.wrap ((BitVec.ofInt 32 ((x * 2 ^ n : Nat) : Int) ||| BitVec.ofInt 32 (y : Int)).toNat : Int) = _
  rw [BitVec.toNat_or, BitVec.ofInt_natCast, BitVec.ofInt_natCast, BitVec.toNat_ofNat, BitVec.toNat_ofNat, Nat.mod_eq_of_lt (by omega), Nat.mod_eq_of_lt (by omega), ← Nat.shiftLeft_eq, ← Nat.shiftLeft_add_eq_or_of_lt hy, Nat.shiftLeft_eq, Lib.wrap_i32_small _ (by omega)]
theorem and31 : ∀ b : Fin 256, Go.bits .and .u8 (b.val : Int) 31 = ((b.val % 32 : Nat) : Int) := by decide +kernel
theorem and15 : ∀ b : Fin 256, Go.bits .and .u8 (b.val : Int) 15 = ((b.val % 16 : Nat) : Int) := by decide +kernel
theorem and7 : ∀ b : Fin 256, Go.bits .and .u8 (b.val : Int) 7 = ((b.val % 8 : Nat) : Int) := by decide +kernel
theorem and63 : ∀ b : Fin 256, Go.bits .and .u8 (b.val : Int) 63 = ((b.val % 64 : Nat) : Int) := by decide +kernel
theorem and31' (b : Nat) (h : b < 256) : Go.bits .and .u8 (b : Int) 31 = ((b % 32 : Nat) : Int) := and31 ⟨b, h⟩
theorem and15' (b : Nat) (h : b < 256) : Go.bits .and .u8 (b : Int) 15 = ((b % 16 : Nat) : Int) := and15 ⟨b, h⟩
theorem and7' (b : Nat) (h : b < 256) : Go.bits .and .u8 (b : Int) 7 = ((b % 8 : Nat) : Int) := and7 ⟨b, h⟩
theorem and63' (b : Nat) (h : b < 256) : Go.bits .and .u8 (b : Int) 63 = ((b % 64 : Nat) : Int) := and63 ⟨b, h⟩
theorem w32 (n : Nat) (h : n < 2147483648) : wrap32 (n : Int) = (n : Int) := by unfold wrap32; omega
theorem between_f (a b c : Int) : siglumref01_between.f a b c = some (decide (b ≤ a ∧ a ≤ c)) := by
  unfold siglumref01_between.f
  by_cases h : a ≥ b
  · rw [if_pos h]; congr 1; simp; omega
  · rw [if_neg h]; congr 1; simp; omega
def secP (a b : Int) : Prop := (if a = 224 then 160 else if a = 240 then 144 else 128) ≤ b ∧ b ≤ (if a = 237 then 159 else if a = 244 then 143 else 191)
instance (a b : Int) : Decidable (secP a b) := by unfold secP; exact inferInstance
theorem second_f (a b : Int) : siglumref01_second.f a b = some (decide (secP a b)) := by
  unfold siglumref01_second.f secP
  simp only [between_f, Option.bind_some]
  by_cases h1 : a = 224
  · subst h1; rfl
  by_cases h2 : a = 237
  · subst h2; rfl
  by_cases h3 : a = 240
  · subst h3; rfl
  by_cases h4 : a = 244
  · subst h4; rfl
  · simp only [if_neg h1, if_neg h2, if_neg h3, if_neg h4]
/-- How many bytes. -/
def wantN (b : Int) : Int := if b < 128 then 1 else if 194 ≤ b ∧ b ≤ 223 then 2 else if 224 ≤ b ∧ b ≤ 239 then 3 else if 240 ≤ b ∧ b ≤ 244 then 4 else 0
theorem wants_f (b : Int) : siglumref01_wants.f b = some (wantN b) := by
  unfold siglumref01_wants.f wantN
  simp only [between_f, Option.bind_some, decide_eq_true_eq]
  repeat' split
  all_goals first | rfl | (exfalso; omega)
section
variable (s : ByteArray) (pos : Nat) (hp : pos < s.size) (hs : s.size ≤ 1099511627776)
omit hs in
theorem fl_end (k : Nat) (n i : Int) (h : n ≤ i) : siglumref01_fits.l0 (k + 2) s (pos : Int) n i = some i := by
  simp only [siglumref01_fits.l0, siglumref01_fits.j1]
  rw [if_neg (by omega)]
  simp
include hp hs
theorem fl_1 (k : Nat) (n : Int) (h : 1 < n) : siglumref01_fits.l0 (k + 2) s (pos : Int) n 1 = if pos + 1 < s.size ∧ secP (bt s pos) (bt s ((pos + 1 : Nat) : Int)) then siglumref01_fits.l0 k s (pos : Int) n 2 else some 1 := by
  have e : wrap64 ((pos : Int) + 1) = ((pos + 1 : Nat) : Int) := by unfold wrap64; omega
  simp only [siglumref01_fits.l0, siglumref01_fits.j1, e, second_f, Option.bind_some]
  rw [if_pos h]
  by_cases c : pos + 1 < s.size
  · rw [if_pos (by simp; omega), if_pos (by omega), if_pos (by omega), if_pos trivial, if_pos (by omega), if_pos (by omega)]
    by_cases c2 : secP (bt s pos) (bt s ((pos + 1 : Nat) : Int))
    · rw [if_pos (by simpa using c2), if_neg (by omega), if_pos ⟨c, c2⟩, show wrap64 (1 + 1) = 2 by unfold wrap64; omega]
    · rw [if_neg (by simpa using c2), if_neg (fun h => c2 h.2)]
  · rw [if_neg (by simp; omega), if_neg (fun h => c h.1)]
theorem fl_i (k : Nat) (n : Int) (i : Nat) (h1 : 1 < i) (h2 : i < 4) (h : (i : Int) < n) : siglumref01_fits.l0 (k + 2) s (pos : Int) n (i : Int) = if pos + i < s.size ∧ 128 ≤ bt s ((pos + i : Nat) : Int) ∧ bt s ((pos + i : Nat) : Int) ≤ 191 then siglumref01_fits.l0 k s (pos : Int) n ((i + 1 : Nat) : Int) else some (i : Int) := by
  have e : wrap64 ((pos : Int) + (i : Int)) = ((pos + i : Nat) : Int) := by unfold wrap64; omega
  have e2 : wrap64 ((i : Int) + 1) = ((i + 1 : Nat) : Int) := by unfold wrap64; omega
  simp only [siglumref01_fits.l0, siglumref01_fits.j1, e, e2, between_f, Option.bind_some]
  rw [if_pos h]
  by_cases c : pos + i < s.size
  · rw [if_pos (by simp; omega), if_pos (by omega), if_pos (by omega), if_neg (by omega), if_pos (by omega)]
    by_cases c2 : 128 ≤ bt s ((pos + i : Nat) : Int) ∧ bt s ((pos + i : Nat) : Int) ≤ 191
    · rw [if_pos (by simpa using c2), if_pos ⟨c, c2⟩]
    · rw [if_neg (by simpa using c2), if_neg (fun h => c2 h.2)]
  · rw [if_neg (by simp; omega), if_neg (fun h => c h.1)]
end
theorem bt_get (s : ByteArray) (i : Nat) (h : i < s.size) : bt s (i : Int) = ((s.get! i).toNat : Int) := by
  have := bt_at s (i : Int) (by simpa using h)
  rw [← this]
  show _ = ((s.data[i]!).toNat : Int)
  rw [getElem!_pos s.data i h]
  rfl
theorem cell_bad (k : Nat) (s : ByteArray) (pos : Nat) (n : Int) (hp : pos < s.size) : siglumref01_cell.j0 (k + 1) s (pos : Int) n true = some ((pos : Int), 1, 65533, true, bt s pos) := by
  simp only [siglumref01_cell.j0, if_true]
  rw [if_pos (by omega), if_pos (by omega)]
theorem ref_cell (k : Nat) (s : ByteArray) (pos : Nat) (hp : pos < s.size) (hs : s.size ≤ 1099511627776) :
    siglumref01_cell.f (k + 12) s (pos : Int) = some ((cellAt s pos).f0, (cellAt s pos).f1, (cellAt s pos).f2, (cellAt s pos).f3, (cellAt s pos).f4) := by
  have hd := Lib.decode_at s pos
  have g0 := bt_get s pos hp
  have g1 := bt_get s (pos + 1)
  have g2 := bt_get s (pos + 2)
  have g3 := bt_get s (pos + 3)
  have l0 := (s.get! pos).toNat_lt
  have l1 := (s.get! (pos + 1)).toNat_lt
  have l2 := (s.get! (pos + 2)).toNat_lt
  have l3 := (s.get! (pos + 3)).toNat_lt
  have hbad : Utf8.decode s pos = (65533, 1) → some ((pos : Int), (1 : Int), (65533 : Int), true, bt s pos) = some ((cellAt s pos).f0, (cellAt s pos).f1, (cellAt s pos).f2, (cellAt s pos).f3, (cellAt s pos).f4) := by
    intro h
    rw [cellAt_bad h]
  have hgood : ∀ (r w : Nat), Utf8.decode s pos = (r, w) → ¬ (w = 1 ∧ r = 65533) → some ((pos : Int), (w : Int), (r : Int), false, (0 : Int)) = some ((cellAt s pos).f0, (cellAt s pos).f1, (cellAt s pos).f2, (cellAt s pos).f3, (cellAt s pos).f4) := by
    intro r w h hn
    rw [cellAt_good (by rw [h]; intro e; exact hn ⟨congrArg Prod.snd e, congrArg Prod.fst e⟩), h]
  have e1 : wrap64 ((pos : Int) + 1) = ((pos + 1 : Nat) : Int) := by unfold wrap64; omega
  have e2 : wrap64 ((pos : Int) + 2) = ((pos + 2 : Nat) : Int) := by unfold wrap64; omega
  have e3 : wrap64 ((pos : Int) + 3) = ((pos + 3 : Nat) : Int) := by unfold wrap64; omega
  generalize hb0 : (s.get! pos).toNat = b0 at *
  generalize hb1 : (s.get! (pos + 1)).toNat = b1 at *
  generalize hb2 : (s.get! (pos + 2)).toNat = b2 at *
  generalize hb3 : (s.get! (pos + 3)).toNat = b3 at *
  clear hb0 hb1 hb2 hb3
  generalize Utf8.decode s pos = D at *
  have hw : (wantN b0 = 0 ∧ ((128 ≤ b0 ∧ b0 < 194) ∨ 245 ≤ b0)) ∨ (wantN b0 = 1 ∧ b0 < 128) ∨ (wantN b0 = 2 ∧ 194 ≤ b0 ∧ b0 ≤ 223) ∨ (wantN b0 = 3 ∧ 224 ≤ b0 ∧ b0 ≤ 239) ∨ (wantN b0 = 4 ∧ 240 ≤ b0 ∧ b0 ≤ 244) := by
    unfold wantN
    repeat' split
    all_goals omega
  unfold siglumref01_cell.f siglumref01_fits.f
  rw [if_pos (by omega), if_pos (by omega), g0, wants_f]
  simp only [Option.bind_some]
  generalize wantN (b0 : Int) = n at *
  rcases hw with ⟨rfl, hw⟩ | ⟨rfl, hw⟩ | ⟨rfl, hw, hw'⟩ | ⟨rfl, hw, hw'⟩ | ⟨rfl, hw, hw'⟩
  · rw [if_pos rfl, cell_bad _ _ _ _ hp]
    refine hbad ?_
    rw [hd]
    unfold Lib.decodeN
    repeat' split
    all_goals first | rfl | (exfalso; omega)
  · rw [if_neg (by omega), if_pos (by omega), if_pos (by omega), if_neg (by omega), fl_end _ _ _ _ _ (by omega)]
    simp only [Option.bind_some]
    rw [show decide ((1 : Int) < 1) = false from rfl]
    simp only [siglumref01_cell.j0, Bool.false_eq_true, if_false]
    rw [if_pos (by omega), if_pos (by omega), if_neg (by omega), if_neg (by omega), if_neg (by omega), g0, w32 _ (by omega)]
    refine hgood b0 1 ?_ (by omega)
    rw [hd]
    unfold Lib.decodeN
    rw [if_pos hw]
  · rw [if_neg (by omega), if_pos (by omega), if_pos (by omega), if_neg (by omega), fl_1 _ _ hp hs _ _ (by omega), g0]
    by_cases c1 : pos + 1 < s.size ∧ secP (b0 : Int) (bt s ((pos + 1 : Nat) : Int))
    · rw [if_pos c1, fl_end _ _ _ _ _ (by omega)]
      simp only [Option.bind_some]
      rw [show decide ((2 : Int) < 2) = false from rfl]
      simp only [siglumref01_cell.j0, Bool.false_eq_true, if_false]
      obtain ⟨c1, c2⟩ := c1
      have g1 := g1 c1
      rw [g1] at c2
      rw [if_pos (by omega), if_pos (by omega), if_pos trivial, e1, if_pos (by omega), if_pos (by omega), g0, g1, and31' b0 l0, and63' b1 l1, w32 _ (by omega), w32 _ (by omega)]
      rw [show ((b0 % 32 : Nat) : Int) * 64 = ((b0 % 32 * 2 ^ 6 : Nat) : Int) by omega, w32 _ (by omega), or_i32 _ _ 6 (by omega) (by omega)]
      refine hgood _ 2 ?_ (by omega)
      rw [hd]
      unfold secP at c2
      rw [if_neg (by omega), if_neg (by omega), if_neg (by omega), if_neg (by omega)] at c2
      unfold Lib.decodeN
      rw [if_neg (by omega), if_pos ⟨by omega, by omega, by omega⟩, if_pos (by omega)]
    · rw [if_neg c1]
      simp only [Option.bind_some]
      rw [show decide ((1 : Int) < 2) = true from rfl, cell_bad _ _ _ _ hp]
      refine hbad ?_
      rw [hd]
      unfold Lib.decodeN
      have : ¬ (1 < s.size - pos ∧ b1 / 64 = 2) := by
        intro h
        refine c1 ⟨by omega, ?_⟩
        rw [g1 (by omega)]
        unfold secP
        rw [if_neg (by omega), if_neg (by omega), if_neg (by omega), if_neg (by omega)]
        omega
      repeat' split
      all_goals first | rfl | (exfalso; omega)
  · rw [if_neg (by omega), if_pos (by omega), if_pos (by omega), if_neg (by omega), fl_1 _ _ hp hs _ _ (by omega), g0]
    by_cases c1 : pos + 1 < s.size ∧ secP (b0 : Int) (bt s ((pos + 1 : Nat) : Int))
    · rw [if_pos c1, show (2 : Int) = ((2 : Nat) : Int) from rfl, fl_i _ _ hp hs _ _ 2 (by omega) (by omega) (by omega)]
      obtain ⟨c1, c2⟩ := c1
      have g1 := g1 c1
      rw [g1] at c2
      unfold secP at c2
      have c2' : b1 / 64 = 2 ∧ (b0 = 224 → 160 ≤ b1) ∧ (b0 = 237 → b1 ≤ 159) := by
        repeat' split at c2
        all_goals omega
      by_cases c3 : pos + 2 < s.size ∧ 128 ≤ bt s ((pos + 2 : Nat) : Int) ∧ bt s ((pos + 2 : Nat) : Int) ≤ 191
      · rw [if_pos c3, fl_end _ _ _ _ _ (by omega)]
        obtain ⟨c3, c4⟩ := c3
        have g2 := g2 c3
        rw [g2] at c4
        simp only [Option.bind_some]
        rw [show decide (((2 + 1 : Nat) : Int) < 3) = false from rfl]
        simp only [siglumref01_cell.j0, Bool.false_eq_true, if_false]
        rw [if_pos (by omega), if_pos (by omega), if_neg (by omega), if_pos trivial, e1, if_pos (by omega), if_pos (by omega), e2, if_pos (by omega), if_pos (by omega), g0, g1, g2, and15' b0 l0, and63' b1 l1, and63' b2 l2, w32 _ (by omega), w32 _ (by omega), w32 _ (by omega)]
        rw [show ((b0 % 16 : Nat) : Int) * 4096 = ((b0 % 16 * 64 * 2 ^ 6 : Nat) : Int) by omega, show ((b1 % 64 : Nat) : Int) * 64 = ((b1 % 64 * 64 : Nat) : Int) by omega, w32 _ (by omega), w32 _ (by omega), show b0 % 16 * 64 * 2 ^ 6 = b0 % 16 * 2 ^ 12 by omega, or_i32 _ _ 12 (by omega) (by omega), show b0 % 16 * 2 ^ 12 + b1 % 64 * 64 = (b0 % 16 * 64 + b1 % 64) * 2 ^ 6 by omega, or_i32 _ _ 6 (by omega) (by omega)]
        refine hgood _ 3 ?_ (by omega)
        rw [hd]
        unfold Lib.decodeN
        rw [if_neg (by omega), if_neg (by omega), if_pos ⟨by omega, ⟨by omega, by omega⟩, by omega, by omega⟩, if_pos (by omega)]
        congr 1
        omega
      · rw [if_neg c3]
        simp only [Option.bind_some]
        rw [show decide (((2 : Nat) : Int) < 3) = true from rfl, cell_bad _ _ _ _ hp]
        refine hbad ?_
        rw [hd]
        unfold Lib.decodeN
        have : ¬ (2 < s.size - pos ∧ b2 / 64 = 2) := by
          intro h
          have e := g2 (by omega)
          exact c3 ⟨by omega, by rw [e]; omega, by rw [e]; omega⟩
        repeat' split
        all_goals first | rfl | (exfalso; omega)
    · rw [if_neg c1]
      simp only [Option.bind_some]
      rw [show decide ((1 : Int) < 3) = true from rfl, cell_bad _ _ _ _ hp]
      refine hbad ?_
      rw [hd]
      unfold Lib.decodeN
      have : ¬ (1 < s.size - pos ∧ b1 / 64 = 2 ∧ (b0 = 224 → 160 ≤ b1) ∧ (b0 = 237 → b1 ≤ 159)) := by
        intro h
        refine c1 ⟨by omega, ?_⟩
        rw [g1 (by omega)]
        unfold secP
        repeat' split
        all_goals omega
      repeat' split
      all_goals first | rfl | (exfalso; omega)
  · rw [if_neg (by omega), if_pos (by omega), if_pos (by omega), if_neg (by omega), fl_1 _ _ hp hs _ _ (by omega), g0]
    by_cases c1 : pos + 1 < s.size ∧ secP (b0 : Int) (bt s ((pos + 1 : Nat) : Int))
    · rw [if_pos c1, show (2 : Int) = ((2 : Nat) : Int) from rfl, fl_i _ _ hp hs _ _ 2 (by omega) (by omega) (by omega)]
      obtain ⟨c1, c2⟩ := c1
      have g1 := g1 c1
      rw [g1] at c2
      unfold secP at c2
      have c2' : b1 / 64 = 2 ∧ (b0 = 240 → 144 ≤ b1) ∧ (b0 = 244 → b1 ≤ 143) := by
        repeat' split at c2
        all_goals omega
      by_cases c3 : pos + 2 < s.size ∧ 128 ≤ bt s ((pos + 2 : Nat) : Int) ∧ bt s ((pos + 2 : Nat) : Int) ≤ 191
      · rw [if_pos c3, fl_i _ _ hp hs _ _ 3 (by omega) (by omega) (by omega)]
        obtain ⟨c3, c4⟩ := c3
        have g2 := g2 c3
        rw [g2] at c4
        by_cases c5 : pos + 3 < s.size ∧ 128 ≤ bt s ((pos + 3 : Nat) : Int) ∧ bt s ((pos + 3 : Nat) : Int) ≤ 191
        · rw [if_pos c5, fl_end _ _ _ _ _ (by omega)]
          obtain ⟨c5, c6⟩ := c5
          have g3 := g3 c5
          rw [g3] at c6
          simp only [Option.bind_some]
          rw [show decide (((3 + 1 : Nat) : Int) < 4) = false from rfl]
          simp only [siglumref01_cell.j0, Bool.false_eq_true, if_false]
          rw [if_pos (by omega), if_pos (by omega), if_neg (by omega), if_neg (by omega), if_pos trivial, e1, if_pos (by omega), if_pos (by omega), e2, if_pos (by omega), if_pos (by omega), e3, if_pos (by omega), if_pos (by omega), g0, g1, g2, g3, and7' b0 l0, and63' b1 l1, and63' b2 l2, and63' b3 l3, w32 _ (by omega), w32 _ (by omega), w32 _ (by omega), w32 _ (by omega)]
          rw [show ((b0 % 8 : Nat) : Int) * 262144 = ((b0 % 8 * 2 ^ 18 : Nat) : Int) by omega, show ((b1 % 64 : Nat) : Int) * 4096 = ((b1 % 64 * 4096 : Nat) : Int) by omega, show ((b2 % 64 : Nat) : Int) * 64 = ((b2 % 64 * 64 : Nat) : Int) by omega, w32 _ (by omega), w32 _ (by omega), w32 _ (by omega), or_i32 _ _ 18 (by omega) (by omega), show b0 % 8 * 2 ^ 18 + b1 % 64 * 4096 = (b0 % 8 * 64 + b1 % 64) * 2 ^ 12 by omega, or_i32 _ _ 12 (by omega) (by omega), show (b0 % 8 * 64 + b1 % 64) * 2 ^ 12 + b2 % 64 * 64 = (b0 % 8 * 4096 + b1 % 64 * 64 + b2 % 64) * 2 ^ 6 by omega, or_i32 _ _ 6 (by omega) (by omega)]
          refine hgood _ 4 ?_ (by omega)
          rw [hd]
          unfold Lib.decodeN
          rw [if_neg (by omega), if_neg (by omega), if_neg (by omega), if_pos ⟨by omega, ⟨by omega, by omega⟩, ⟨by omega, by omega⟩, by omega, by omega⟩, if_pos (by omega)]
          congr 1
          omega
        · rw [if_neg c5]
          simp only [Option.bind_some]
          rw [show decide (((3 : Nat) : Int) < 4) = true from rfl, cell_bad _ _ _ _ hp]
          refine hbad ?_
          rw [hd]
          unfold Lib.decodeN
          have : ¬ (3 < s.size - pos ∧ b3 / 64 = 2) := by
            intro h
            have e := g3 (by omega)
            exact c5 ⟨by omega, by rw [e]; omega, by rw [e]; omega⟩
          repeat' split
          all_goals first | rfl | (exfalso; omega)
      · rw [if_neg c3]
        simp only [Option.bind_some]
        rw [show decide (((2 : Nat) : Int) < 4) = true from rfl, cell_bad _ _ _ _ hp]
        refine hbad ?_
        rw [hd]
        unfold Lib.decodeN
        have : ¬ (2 < s.size - pos ∧ b2 / 64 = 2) := by
          intro h
          have e := g2 (by omega)
          exact c3 ⟨by omega, by rw [e]; omega, by rw [e]; omega⟩
        repeat' split
        all_goals first | rfl | (exfalso; omega)
    · rw [if_neg c1]
      simp only [Option.bind_some]
      rw [show decide ((1 : Int) < 4) = true from rfl, cell_bad _ _ _ _ hp]
      refine hbad ?_
      rw [hd]
      unfold Lib.decodeN
      have : ¬ (1 < s.size - pos ∧ b1 / 64 = 2 ∧ (b0 = 240 → 144 ≤ b1) ∧ (b0 = 244 → b1 ≤ 143)) := by
        intro h
        refine c1 ⟨by omega, ?_⟩
        rw [g1 (by omega)]
        unfold secP
        repeat' split
        all_goals omega
      repeat' split
      all_goals first | rfl | (exfalso; omega)
theorem width_le (s : ByteArray) (pos : Nat) (h : pos < s.size) : pos + (Utf8.decode s pos).2 ≤ s.size := by
  rw [Lib.decode_at]
  unfold Lib.decodeN
  repeat' split
  all_goals (simp only; omega)
theorem refCells_l0 (s : ByteArray) (hs : s.size ≤ 1099511627776) : ∀ (fuel pos : Nat) (acc : List S67), s.size ≤ pos + fuel → pos ≤ s.size → acc.length ≤ pos → ∀ k, fuel + 13 ≤ k → siglumref01_Cells.l0 k s acc (pos : Int) = some (acc ++ cellsFrom s fuel pos) := by
  intro fuel
  induction fuel with
  | zero =>
    intro pos acc h1 h2 h3 k hk
    obtain ⟨k, rfl⟩ : ∃ k', k = k' + 1 := ⟨k - 1, by omega⟩
    simp only [siglumref01_Cells.l0]
    rw [if_neg (by omega)]
    simp [cellsFrom]
  | succ f ih =>
    intro pos acc h1 h2 h3 k hk
    obtain ⟨k, rfl⟩ : ∃ k', k = k' + 12 + 1 := ⟨k - 13, by omega⟩
    simp only [siglumref01_Cells.l0]
    by_cases hp : pos < s.size
    · rw [if_pos (by omega), ref_cell _ s pos hp hs]
      simp only [Option.bind_some]
      rw [if_pos (by omega)]
      have hw := Utf.width_pos s pos hp
      have hd1 := width_le s pos hp
      have e : (cellAt s pos).f1 = ((Utf8.decode s pos).2 : Int) := by
        by_cases hb : Utf8.decode s pos = (65533, 1)
        · rw [cellAt_bad hb, hb]; rfl
        · rw [cellAt_good hb]
      rw [cellsFrom_at _ _ _ hp, e, show wrap64 ((pos : Int) + ((Utf8.decode s pos).2 : Int)) = ((pos + (Utf8.decode s pos).2 : Nat) : Int) by unfold wrap64; omega]
      have e2 := ih (pos + (Utf8.decode s pos).2) (acc ++ [cellAt s pos]) (by omega) (by omega) (by simp; omega) (k + 12) (by omega)
      rw [← e]
      rw [List.append_assoc] at e2
      exact e2
    · rw [if_neg (by omega), cellsFrom_end _ _ _ hp, List.append_nil]
/-- The document's cells are the program's. -/
theorem refCells (s : ByteArray) (hs : s.size ≤ 1099511627776) (k : Nat) (hk : s.size + 13 ≤ k) : siglumref01_Cells.f k s = some (cells s) := by
  unfold siglumref01_Cells.f cells
  exact refCells_l0 s hs s.size 0 [] (by omega) (by omega) (by simp) k hk
end Go.Proofs.YtblpiceallbfjaaDoor.Pr
/- The document's tokens (siglumref04) are the program's: plain facts, no program in sight. -/
set_option linter.unusedVariables false
set_option linter.unusedSimpArgs false
namespace Go.Proofs.YtblpiceallbfjaaDoor.Pr
open Go.RowKit
theorem rd_at_cell (cs : List S67) (i : Nat) (h : i < cs.length) : rd_T67 cs (i : Int) = cs[i] := by simp [rd_T67, List.getD_eq_getElem?_getD, h]
theorem kinds_at (cs : List S67) (i : Nat) (h : i < cs.length) : (kindsL cs).getD i 0 = kOf (rd_T67 cs (i : Int)) := by
  rw [rd_at_cell cs i h]
  unfold kindsL
  simp [List.getD_eq_getElem?_getD, List.getElem?_append, h]
theorem ref_kind (c : S67) : siglumref02_Cell.f c.f0 c.f1 c.f2 c.f3 c.f4 = some (kOf c) := by
  unfold siglumref02_Cell.f kOf siglumref02_Of.f
  cases c.f3 <;> rfl
theorem ref_wordy (c : S67) : siglumref04_wordy.f c.f0 c.f1 c.f2 c.f3 c.f4 = some (wordyI (kOf c)) := by
  unfold siglumref04_wordy.f
  rw [ref_kind]
  simp only [Option.bind_some]
  unfold wordyI
  by_cases h1 : kOf c = 1
  · rw [if_pos h1, h1]; rfl
  · by_cases h2 : kOf c = 2
    · rw [if_neg h1, if_pos h2, h2]; rfl
    · rw [if_neg h1, if_neg h2]
      simp [h1, h2]
section
variable (cs : List S67) (hn : cs.length ≤ 1099511627776)
include hn
theorem ref_word : ∀ (d i k : Nat), cs.length - i ≤ d → i ≤ cs.length → d < k → siglumref04_word.l0 k cs (i : Int) = some ((wordEnd (kindsL cs) cs.length i : Nat) : Int) := by
  intro d
  induction d with
  | zero =>
    intro i k h hi hk
    obtain ⟨k, rfl⟩ : ∃ k', k = k' + 1 := ⟨k - 1, by omega⟩
    have e : i = cs.length := by omega
    subst e
    simp only [siglumref04_word.l0]
    rw [if_neg (by omega), wordEnd_stop cs cs.length cs.length (by rw [kinds_end]; decide) (by rw [kinds_end]; exact fun h => absurd h.1 (by decide))]
  | succ d ih =>
    intro i k h hi hk
    obtain ⟨k, rfl⟩ : ∃ k', k = k' + 1 := ⟨k - 1, by omega⟩
    by_cases hlt : i < cs.length
    · simp only [siglumref04_word.l0]
      rw [if_pos (by omega), if_pos (by omega), ref_wordy, ref_kind]
      simp only [Option.bind_some]
      rw [← kinds_at cs i hlt]
      have e1 : wrap64 ((i : Int) + 1) = ((i + 1 : Nat) : Int) := by unfold wrap64; omega
      have e2 : wrap64 ((i : Int) + 2) = ((i + 2 : Nat) : Int) := by unfold wrap64; omega
      by_cases hw : wordyI ((kindsL cs).getD i 0) = true
      · rw [if_pos hw, e1, ih (i + 1) k (by omega) (by omega) (by omega), wordEnd_go cs i hlt (.inl hw)]
      · rw [if_neg hw]
        by_cases h4 : (kindsL cs).getD i 0 = 4
        · rw [if_pos h4, e1]
          by_cases hl2 : i + 1 < cs.length
          · rw [if_pos (by omega), if_pos (by omega), ref_wordy]
            simp only [Option.bind_some]
            rw [← kinds_at cs (i + 1) hl2]
            by_cases hw2 : wordyI ((kindsL cs).getD (i + 1) 0) = true
            · rw [if_pos hw2, e2, ih (i + 2) k (by omega) (by omega) (by omega), wordEnd_go cs i hlt (.inr ⟨h4, hw2⟩), wordEnd_go cs (i + 1) hl2 (.inl hw2)]
            · rw [if_neg hw2, wordEnd_stop cs i cs.length hw (fun h => hw2 h.2)]
          · have e : i + 1 = cs.length := by omega
            rw [if_neg (by omega), wordEnd_stop cs i cs.length hw (fun h => by have h2 := h.2; rw [e, kinds_end] at h2; exact absurd h2 (by decide))]
        · rw [if_neg h4, wordEnd_stop cs i cs.length hw (fun h => h4 h.1)]
    · have e : i = cs.length := by omega
      subst e
      simp only [siglumref04_word.l0]
      rw [if_neg (by omega), wordEnd_stop cs cs.length cs.length (by rw [kinds_end]; decide) (by rw [kinds_end]; exact fun h => absurd h.1 (by decide))]
theorem ref_blank : ∀ (d i k : Nat), cs.length - i ≤ d → i ≤ cs.length → d < k → siglumref04_token.l0 k cs (i : Int) = some (2, ((blankEnd (kindsL cs) cs.length i : Nat) : Int)) := by
  intro d
  induction d with
  | zero =>
    intro i k h hi hk
    obtain ⟨k, rfl⟩ : ∃ k', k = k' + 1 := ⟨k - 1, by omega⟩
    have e : i = cs.length := by omega
    subst e
    simp only [siglumref04_token.l0]
    rw [if_neg (by omega), blankEnd_stop cs cs.length cs.length (by rw [kinds_end]; decide)]
  | succ d ih =>
    intro i k h hi hk
    obtain ⟨k, rfl⟩ : ∃ k', k = k' + 1 := ⟨k - 1, by omega⟩
    by_cases hlt : i < cs.length
    · simp only [siglumref04_token.l0]
      rw [if_pos (by omega), if_pos (by omega), ref_kind]
      simp only [Option.bind_some]
      rw [← kinds_at cs i hlt]
      have e1 : wrap64 ((i : Int) + 1) = ((i + 1 : Nat) : Int) := by unfold wrap64; omega
      by_cases hw : (kindsL cs).getD i 0 = 5
      · rw [if_pos hw, e1, ih (i + 1) k (by omega) (by omega) (by omega), blankEnd_go cs i hlt hw]
      · rw [if_neg hw, blankEnd_stop cs i cs.length hw]
    · have e : i = cs.length := by omega
      subst e
      simp only [siglumref04_token.l0]
      rw [if_neg (by omega), blankEnd_stop cs cs.length cs.length (by rw [kinds_end]; decide)]
theorem ref_token (i k : Nat) (hlt : i < cs.length) (hk : cs.length < k) : siglumref04_token.f k cs (i : Int) = some ((tokAt cs i).1, (((tokAt cs i).2 : Nat) : Int)) := by
  unfold siglumref04_token.f
  rw [if_pos (by omega), if_pos (by omega), ref_kind, ref_wordy]
  simp only [Option.bind_some]
  rw [← kinds_at cs i hlt]
  have e1 : wrap64 ((i : Int) + 1) = ((i + 1 : Nat) : Int) := by unfold wrap64; omega
  have e2 : wrap64 ((i : Int) + 2) = ((i + 2 : Nat) : Int) := by unfold wrap64; omega
  unfold tokAt
  by_cases hw : wordyI ((kindsL cs).getD i 0) = true
  · rw [if_pos hw, if_pos hw]
    unfold siglumref04_word.f
    rw [ref_word cs hn cs.length i k (by omega) (by omega) hk]
    rfl
  · rw [if_neg hw, if_neg hw]
    by_cases h5 : (kindsL cs).getD i 0 = 5
    · rw [if_pos h5, if_pos h5, ref_blank cs hn cs.length i k (by omega) (by omega) hk]
    · rw [if_neg h5, if_neg h5]
      by_cases h6 : (kindsL cs).getD i 0 = 6
      · rw [if_pos h6, if_pos h6, e1, e2]
        by_cases h13 : (rd_T67 cs (i : Int)).f2 = 13
        · rw [if_pos h13]
          by_cases hl : i + 1 < cs.length
          · rw [if_pos (by omega), if_pos (by omega)]
            by_cases h10 : (rd_T67 cs ((i + 1 : Nat) : Int)).f2 = 10
            · rw [if_pos h10, if_pos ⟨h13, hl, h10⟩]
            · rw [if_neg h10, if_neg (fun h => h10 h.2.2)]
          · rw [if_neg (by omega), if_neg (fun h => hl h.2.1)]
        · rw [if_neg h13, if_neg (fun h => h13 h.1)]
      · rw [if_neg h6, if_neg h6, e1]
        by_cases h7 : (kindsL cs).getD i 0 = 7
        · rw [if_pos h7, if_pos (.inl h7)]
        · rw [if_neg h7]
          by_cases h4 : (kindsL cs).getD i 0 = 4
          · rw [if_pos h4, if_pos (.inr h4)]
          · rw [if_neg h4, if_neg (fun h => h.elim h7 h4)]
end
theorem place_in (s : ByteArray) (cs : List S67) (i : Nat) (h : i < cs.length) : placeOf s cs i = (rd_T67 cs (i : Int)).f0 := by unfold placeOf; rw [if_pos h]
theorem place_end (s : ByteArray) (cs : List S67) (i : Nat) (h : ¬ i < cs.length) : placeOf s cs i = (s.size : Int) := by unfold placeOf; rw [if_neg h]
theorem ref_toks (s : ByteArray) (hs : s.size ≤ 1099511627776) : ∀ (f i k : Nat) (acc : List S125), i ≤ (cells s).length → (cells s).length ≤ i + f → acc.length ≤ i → f + (cells s).length + 2 ≤ k →
    siglumref04_Tokens.l0 k s (cells s) acc (i : Int) = some (acc ++ toksL s 0 (cells s) f i, 0) := by
  have hcl := cells_len s
  have PL := placeOf_mono s
  intro f
  induction f with
  | zero =>
    intro i k acc hi hf ha hk
    obtain ⟨k, rfl⟩ : ∃ k', k = k' + 1 := ⟨k - 1, by omega⟩
    simp only [siglumref04_Tokens.l0]
    rw [if_neg (by omega)]
    simp [toksL]
  | succ f ih =>
    intro i k acc hi hf ha hk
    obtain ⟨k, rfl⟩ : ∃ k', k = k' + 1 := ⟨k - 1, by omega⟩
    simp only [siglumref04_Tokens.l0]
    by_cases hlt : i < (cells s).length
    · have hb := tokAt_bounds (cells s) i hlt
      obtain ⟨p0, p1, p2⟩ := PL i (tokAt (cells s) i).2 (by omega) hb.2
      rw [if_pos (by omega), ref_token (cells s) (by omega) i k hlt (by omega)]
      simp only [Option.bind_some, toksL]
      rw [if_pos hlt, ← place_in s (cells s) i hlt]
      by_cases hj : (tokAt (cells s) i).2 < (cells s).length
      · rw [if_pos (by omega), if_pos (by omega), if_pos (by omega), if_pos p0, ← place_in s (cells s) _ hj, if_pos p1, if_pos p2, if_pos (by omega), ih _ k _ hb.2 (by omega) (by simp; omega) (by omega)]
        simp [mkTok]
      · have pe := place_end s (cells s) _ hj
        rw [if_neg (by omega), if_pos (by omega), if_pos p0, if_pos (by omega), if_pos (by omega), if_pos (by omega), ih _ k _ hb.2 (by omega) (by simp; omega) (by omega)]
        simp [mkTok, pe]
    · rw [if_neg (by omega)]
      simp only [toksL]
      rw [if_neg hlt]
      simp
/-- The tokens of a text. -/
def toksOf (s : ByteArray) : List S125 := toksL s 0 (cells s) (cells s).length 0
theorem ref_Tokens (s : ByteArray) (hs : s.size ≤ 65536) (k : Nat) (hk : 2 * s.size + 20 ≤ k) : siglumref04_Tokens.f k s = some (toksOf s, 0) := by
  have hcl := cells_len s
  unfold siglumref04_Tokens.f
  rw [if_neg (by omega), refCells s (by omega) k (by omega)]
  simp only [Option.bind_some]
  have h := ref_toks s (by omega) (cells s).length 0 k [] (by omega) (by omega) (by simp) (by omega)
  rw [List.nil_append] at h
  exact h
theorem ref_Tokens_long (s : ByteArray) (hs : 65536 < s.size) (k : Nat) : siglumref04_Tokens.f k s = some ([], 1) := by
  unfold siglumref04_Tokens.f
  rw [if_pos (by omega)]
theorem prog_Tokens (s : ByteArray) (hs : s.size ≤ 65536) : scan_Tokens.f s = some (toksOf s, 0) := by
  unfold scan_Tokens.f scan_tokens.f
  rw [if_neg (by omega), if_pos ⟨by omega, by omega, by omega⟩]
  rfl
theorem prog_Tokens_long (s : ByteArray) (hs : 65536 < s.size) : scan_Tokens.f s = some ([], 1) := by
  unfold scan_Tokens.f
  rw [if_pos (by omega)]
/-- The tokens stand one behind the other, from p on to the text's end, none of them empty. -/
def Cov (s : ByteArray) : Nat → List S125 → Prop
  | p, [] => p = s.size
  | p, t :: r => ∃ q, t.f1 = (p : Int) ∧ p < q ∧ q ≤ s.size ∧ t.f2 = s.extract p q ∧ Cov s q r
theorem place_lt (s : ByteArray) (i j : Nat) (h : i < j) (hj : j ≤ (cells s).length) : placeOf s (cells s) i < placeOf s (cells s) j := by
  obtain ⟨h1, h2⟩ := cellsFrom_place s s.size 0
  change (∀ c ∈ cells s, _) at h1
  change (cells s).Pairwise _ at h2
  have hi : i < (cells s).length := by omega
  rw [place_in s (cells s) i hi, rd_at_cell (cells s) i hi]
  by_cases hji : j < (cells s).length
  · rw [place_in s (cells s) j hji, rd_at_cell (cells s) j hji]
    exact List.pairwise_iff_getElem.1 h2 i j hi hji h
  · rw [place_end s (cells s) j hji]
    exact (h1 _ (List.getElem_mem hi)).2
theorem cov_toks (s : ByteArray) : ∀ (f i : Nat), i ≤ (cells s).length → (cells s).length ≤ i + f → Cov s (placeOf s (cells s) i).toNat (toksL s 0 (cells s) f i) := by
  intro f
  induction f with
  | zero =>
    intro i hi hf
    simp only [toksL, Cov]
    rw [place_end s (cells s) i (by omega)]
    rfl
  | succ f ih =>
    intro i hi hf
    simp only [toksL]
    by_cases hlt : i < (cells s).length
    · have hb := tokAt_bounds (cells s) i hlt
      have hl := place_lt s i (tokAt (cells s) i).2 hb.1 hb.2
      obtain ⟨p0, p1, p2⟩ := placeOf_mono s i (tokAt (cells s) i).2 (by omega) hb.2
      rw [if_pos hlt]
      refine ⟨(placeOf s (cells s) (tokAt (cells s) i).2).toNat, ?_, by omega, by omega, ?_, ih _ hb.2 (by omega)⟩
      · show 0 + placeOf s (cells s) i = _
        omega
      · rfl
    · rw [if_neg hlt]
      simp only [Cov]
      rw [place_end s (cells s) i hlt]
      rfl
theorem cov_of (s : ByteArray) : Cov s 0 (toksOf s) := by
  have h := cov_toks s (cells s).length 0 (by omega) (by omega)
  have e : (placeOf s (cells s) 0).toNat = 0 := by
    by_cases h0 : 0 < (cells s).length
    · rw [place_in s (cells s) 0 h0]
      unfold cells at h0 ⊢
      cases hz : s.size with
      | zero => rw [hz] at h0; simp [cellsFrom] at h0
      | succ n =>
        rw [cellsFrom_at s n 0 (by omega)]
        unfold cellAt
        simp only [rd_T67]
        split <;> rfl
    · rw [place_end s (cells s) 0 h0]
      unfold cells at h0
      cases hz : s.size with
      | zero => rfl
      | succ n => rw [hz, cellsFrom_at s n 0 (by omega)] at h0; simp at h0
  rw [e] at h
  exact h
end Go.Proofs.YtblpiceallbfjaaDoor.Pr
/- split.Words and the document's Words: both come to one plain answer out of the text's tokens. -/
set_option linter.unusedVariables false
set_option linter.unusedSimpArgs false
namespace Go.Proofs.YtblpiceallbfjaaDoor.Pr
open Go.RowKit Go.Proofs.YtblpiceallbfjaaDoorW.PrintWords
/-- Where words begin, and where they end. -/
def goW : List S125 → List Nat → List Nat → List Nat × List Nat
  | [], a, e => (a, e)
  | t :: r, a, e => if t.f0 = 1 then goW r (a ++ [t.f1.toNat]) (e ++ [t.f1.toNat + t.f2.size]) else goW r a e
/-- The words: from each beginning to its end, and from there to the next beginning. -/
def wordAt (s : ByteArray) (a e : List Nat) (i : Nat) : S87 := ⟨s.extract (a.getD i 0) (e.getD i 0), s.extract (e.getD i 0) (a.getD (i + 1) 0)⟩
def mkW (s : ByteArray) (a e : List Nat) : List S87 := (List.range e.length).map (wordAt s a e)
/-- What a text's words are: the head, the words, an error's number. -/
def wordsR (s : ByteArray) : ByteArray × List S87 × Int :=
  if 65536 < s.size then (⟨#[]⟩, [], 1)
  else if 1024 < (goW (toksOf s) [] []).1.length then (⟨#[]⟩, [], 1)
  else (s.extract 0 (((goW (toksOf s) [] []).1 ++ [s.size]).getD 0 0), mkW s ((goW (toksOf s) [] []).1 ++ [s.size]) (goW (toksOf s) [] []).2, 0)
/-- Beginnings and ends up to p, in their order. -/
structure Chain (s : ByteArray) (p : Nat) (a e : List Nat) : Prop where
  len : a.length = e.length
  step : ∀ i, i < e.length → (a ++ [p]).getD i 0 ≤ e.getD i 0 ∧ e.getD i 0 ≤ (a ++ [p]).getD (i + 1) 0
  top : ∀ i, i ≤ e.length → (a ++ [p]).getD i 0 ≤ p
  le : p ≤ s.size
theorem getD_app (a : List Nat) (x : Nat) (i : Nat) (h : i < a.length) : (a ++ [x]).getD i 0 = a.getD i 0 := by
  simp [List.getD_eq_getElem?_getD, List.getElem?_append, h]
theorem getD_last (a : List Nat) (x : Nat) (i : Nat) (h : i = a.length) : (a ++ [x]).getD i 0 = x := by
  subst h
  simp [List.getD_eq_getElem?_getD]
theorem Chain.word {s : ByteArray} {p q : Nat} {a e : List Nat} (h : Chain s p a e) (hpq : p ≤ q) (hq : q ≤ s.size) : Chain s q (a ++ [p]) (e ++ [q]) := by
  have hl := h.len
  refine ⟨by simp [h.len], fun i hi => ?_, fun i hi => ?_, hq⟩
  · simp only [List.length_append, List.length_singleton] at hi
    by_cases hie : i < e.length
    · have hs := h.step i hie
      rw [getD_app (a ++ [p]) q i (by simp; omega), getD_app e q i hie, getD_app (a ++ [p]) q (i + 1) (by simp; omega)]
      exact hs
    · have e1 : i = e.length := by omega
      rw [getD_app (a ++ [p]) q i (by simp; omega), getD_last e q i e1, getD_last a p i (by omega), getD_last (a ++ [p]) q (i + 1) (by simp; omega)]
      omega
  · simp only [List.length_append, List.length_singleton] at hi
    by_cases hie : i ≤ e.length
    · have := h.top i hie
      rw [getD_app (a ++ [p]) q i (by simp; omega)]
      omega
    · rw [getD_last (a ++ [p]) q i (by simp; omega)]
      omega
theorem Chain.other {s : ByteArray} {p q : Nat} {a e : List Nat} (h : Chain s p a e) (hpq : p ≤ q) (hq : q ≤ s.size) : Chain s q a e := by
  have hl := h.len
  refine ⟨h.len, fun i hi => ?_, fun i hi => ?_, hq⟩
  · have hs := h.step i hi
    rw [getD_app a q i (by omega)]
    rw [getD_app a p i (by omega)] at hs
    refine ⟨hs.1, ?_⟩
    by_cases hie : i + 1 < a.length
    · rw [getD_app a q _ hie]
      rw [getD_app a p _ hie] at hs
      exact hs.2
    · rw [getD_last a q _ (by omega)]
      rw [getD_last a p _ (by omega)] at hs
      omega
  · by_cases hie : i < a.length
    · have := h.top i hi
      rw [getD_app a q i hie]
      rw [getD_app a p i hie] at this
      omega
    · rw [getD_last a q i (by omega)]
      omega
theorem Chain.nil (s : ByteArray) : Chain s 0 [] [] := ⟨rfl, fun i hi => by simp at hi, fun i hi => by
  simp only [List.length_nil, Nat.le_zero] at hi
  subst hi
  simp, by omega⟩
theorem mkW_length (s : ByteArray) (a e : List Nat) : (mkW s a e).length = e.length := by simp [mkW]
theorem mkW_get (s : ByteArray) (a e : List Nat) (i : Nat) (h : i < (mkW s a e).length) : (mkW s a e)[i] = wordAt s a e i := by simp [mkW]
theorem mkW_word (s : ByteArray) (p q : Nat) (a e : List Nat) (hl : a.length = e.length) : mkW s (a ++ [p]) e ++ [⟨s.extract p q, ⟨#[]⟩⟩] = mkW s ((a ++ [p]) ++ [q]) (e ++ [q]) := by
  refine List.ext_getElem (by simp [mkW_length]) fun i h1 h2 => ?_
  rw [mkW_get]
  rw [List.length_append, mkW_length] at h1
  simp only [List.length_singleton] at h1
  unfold wordAt
  by_cases hie : i < e.length
  · rw [List.getElem_append_left (by rw [mkW_length]; exact hie), mkW_get]
    unfold wordAt
    rw [getD_app (a ++ [p]) q i (by simp; omega), getD_app e q i hie, getD_app (a ++ [p]) q (i + 1) (by simp; omega)]
  · have e1 : i = e.length := by omega
    rw [List.getElem_append_right (by rw [mkW_length]; omega)]
    simp only [List.getElem_singleton]
    rw [getD_app (a ++ [p]) q i (by simp; omega), getD_last e q i e1, getD_last a p i (by omega), getD_last (a ++ [p]) q (i + 1) (by simp; omega)]
    congr 1
    simp
    rfl
theorem extract_two (s : ByteArray) (a b c : Nat) (h1 : a ≤ b) (h2 : b ≤ c) : s.extract a b ++ s.extract b c = s.extract a c := by
  apply ByteArray.ext
  simp only [ByteArray.data_append, ByteArray.data_extract]
  rw [Array.extract_append_extract]
  congr 1 <;> omega
theorem mkW_other (s : ByteArray) (p q : Nat) (a e : List Nat) (h : Chain s p a e) (hpq : p ≤ q) (hq : q ≤ s.size) (he : 0 < e.length) (x : S87)
    (hx : x = wordAt s (a ++ [p]) e (e.length - 1)) : (mkW s (a ++ [p]) e).set (e.length - 1) ⟨x.f0, x.f1 ++ s.extract p q⟩ = mkW s (a ++ [q]) e := by
  subst hx
  have hl := h.len
  refine List.ext_getElem (by simp [mkW_length]) fun i h1 h2 => ?_
  rw [mkW_length] at h2
  rw [mkW_get, List.getElem_set]
  by_cases hie : e.length - 1 = i
  · subst hie
    rw [if_pos rfl]
    unfold wordAt
    have e1 : e.length - 1 + 1 = a.length := by omega
    have hs := h.step (e.length - 1) (by omega)
    rw [e1, getD_last a p _ rfl] at hs
    rw [e1, getD_last a p _ rfl, getD_last a q _ rfl, getD_app a p _ (by omega), getD_app a q _ (by omega)]
    simp only
    rw [extract_two s _ p q hs.2 hpq]
  · rw [if_neg hie, mkW_get]
    unfold wordAt
    rw [getD_app a p _ (by omega), getD_app a q _ (by omega), getD_app a p _ (by omega), getD_app a q _ (by omega)]
theorem rd_tok (T : List S125) (i : Nat) (h : i < T.length) : rd_T125 T (i : Int) = T[i] := by simp [rd_T125, List.getD_eq_getElem?_getD, h]
theorem rd_word (T : List S87) (i : Nat) (h : i < T.length) : rd_T87 T (i : Int) = T[i] := by simp [rd_T87, List.getD_eq_getElem?_getD, h]
theorem rd_nat (a : List Nat) (i : Nat) : rd (a.map fun (n : Nat) => (n : Int)) (i : Int) = ((a.getD i 0 : Nat) : Int) := by
  simp only [rd, Int.toNat_natCast, List.getD_eq_getElem?_getD, List.getElem?_map]
  cases a[i]? <;> rfl
theorem extract_size (s : ByteArray) (a b : Nat) (h : b ≤ s.size) : (s.extract a b).size = b - a := by
  simp only [ByteArray.size_extract]
  omega
/-- What holds at the tokens' end. -/
theorem goW_chain (s : ByteArray) : ∀ (T : List S125) (p : Nat) (a e : List Nat), Cov s p T → Chain s p a e → Chain s s.size (goW T a e).1 (goW T a e).2 := by
  intro T
  induction T with
  | nil => intro p a e hc h; simp only [Cov] at hc; subst hc; exact h
  | cons t r ih =>
    intro p a e ⟨q, h1, hpq, hq, h2, hc⟩ h
    unfold goW
    split
    · rw [h2, extract_size s p q hq, h1]
      simp only [Int.toNat_natCast]
      rw [show p + (q - p) = q by omega]
      exact ih q _ _ hc (h.word (by omega) hq)
    · exact ih q a e hc (h.other (by omega) hq)
theorem ref_words_l0 (s : ByteArray) (hs : s.size ≤ 1048576) (T : List S125) : ∀ (d i p k : Nat) (a e : List Nat), i + d = T.length → d < k → T.length ≤ 4000000 → e.length ≤ i → Cov s p (T.drop i) → Chain s p a e →
    siglumref07_Words.l0 k T (s.extract 0 ((a ++ [p]).getD 0 0)) (mkW s (a ++ [p]) e) (i : Int) =
      some (if 1024 < (goW (T.drop i) a e).1.length then (⟨#[]⟩, [], 1) else (s.extract 0 (((goW (T.drop i) a e).1 ++ [s.size]).getD 0 0), mkW s ((goW (T.drop i) a e).1 ++ [s.size]) (goW (T.drop i) a e).2, 0)) := by
  intro d
  induction d with
  | zero =>
    intro i p k a e h hk hT he hc hch
    obtain ⟨k, rfl⟩ : ∃ k', k = k' + 1 := ⟨k - 1, by omega⟩
    have hd : T.drop i = [] := List.drop_eq_nil_of_le (by omega)
    rw [hd] at hc ⊢
    simp only [Cov] at hc
    subst hc
    rw [show goW [] a e = (a, e) from rfl]
    simp only [siglumref07_Words.l0]
    have hl := hch.len
    rw [if_neg (by omega), mkW_length]
    by_cases h1 : 1024 < e.length
    · rw [if_pos (by omega), if_pos (by omega)]
    · rw [if_neg (by omega), if_neg (by omega)]
  | succ d ih =>
    intro i p k a e h hk hT he hc hch
    obtain ⟨k, rfl⟩ : ∃ k', k = k' + 1 := ⟨k - 1, by omega⟩
    have hi : i < T.length := by omega
    have hd : T.drop i = T[i] :: T.drop (i + 1) := List.drop_eq_getElem_cons hi
    rw [hd] at hc ⊢
    obtain ⟨q, h1, hpq, hq, h2, hc⟩ := hc
    have e1 : wrap64 ((i : Int) + 1) = ((i + 1 : Nat) : Int) := by unfold wrap64; omega
    have hl := hch.len
    have hle := hch.le
    rw [show goW (T[i] :: T.drop (i + 1)) a e = if T[i].f0 = 1 then goW (T.drop (i + 1)) (a ++ [T[i].f1.toNat]) (e ++ [T[i].f1.toNat + T[i].f2.size]) else goW (T.drop (i + 1)) a e from rfl]
    simp only [siglumref07_Words.l0]
    rw [if_pos (by omega), if_pos (by omega), rd_tok T i hi, mkW_length]
    by_cases hw : T[i].f0 = 1
    · rw [if_pos hw, if_pos hw, if_pos (by omega), e1, h2, mkW_word s p q a e hl, h1, extract_size s p q hq]
      simp only [Int.toNat_natCast]
      rw [show p + (q - p) = q by omega]
      have hz : (a ++ [p]).getD 0 0 = ((a ++ [p]) ++ [q]).getD 0 0 := by rw [getD_app (a ++ [p]) q 0 (by simp)]
      rw [hz]
      exact ih (i + 1) q k (a ++ [p]) (e ++ [q]) (by omega) (by omega) hT (by simp; omega) hc (hch.word (by omega) hq)
    · rw [if_neg hw, if_neg hw]
      by_cases he0 : e.length = 0
      · have ha0 : a = [] := List.eq_nil_of_length_eq_zero (by omega)
        have he1 : e = [] := List.eq_nil_of_length_eq_zero he0
        subst ha0 he1
        simp only [List.nil_append, List.getD_eq_getElem?_getD, List.length_nil, Int.natCast_zero, if_true]
        rw [if_pos (by simp only [h2, ByteArray.size_extract]; simp; omega), e1, h2]
        have := ih (i + 1) q k [] [] (by omega) (by omega) hT (by simp) hc (hch.other (by omega) hq)
        simp only [List.nil_append, List.getD_eq_getElem?_getD] at this
        have hx : s.extract 0 (([p] : List Nat)[0]?.getD 0) ++ s.extract p q = s.extract 0 (([q] : List Nat)[0]?.getD 0) := by
          show s.extract 0 p ++ s.extract p q = s.extract 0 q
          exact extract_two s 0 p q (by omega) (by omega)
        rw [hx]
        exact this
      · have e2 : wrap64 ((e.length : Int) - 1) = ((e.length - 1 : Nat) : Int) := by unfold wrap64; omega
        have hlast : rd_T87 (mkW s (a ++ [p]) e) ((e.length - 1 : Nat) : Int) = wordAt s (a ++ [p]) e (e.length - 1) := by
          rw [rd_word _ _ (by rw [mkW_length]; omega), mkW_get]
        rw [if_neg (by omega), e2, if_pos (by omega), if_pos (by omega), hlast]
        have hsz : (wordAt s (a ++ [p]) e (e.length - 1)).f1.size + T[i].f2.size ≤ 9223372036854775807 := by
          rw [h2]
          simp only [wordAt, ByteArray.size_extract]
          omega
        rw [if_pos hsz, e1, h2]
        simp only [Int.toNat_natCast]
        rw [mkW_other s p q a e hch (by omega) hq (by omega) _ rfl]
        have ha0 : 0 < a.length := by omega
        have hz : (a ++ [p]).getD 0 0 = (a ++ [q]).getD 0 0 := by rw [getD_app a p 0 ha0, getD_app a q 0 ha0]
        rw [hz]
        exact ih (i + 1) q k a e (by omega) (by omega) hT (by omega) hc (hch.other (by omega) hq)
theorem toksL_len (s : ByteArray) (base : Int) (cs : List S67) : ∀ f i, (toksL s base cs f i).length ≤ f := by
  intro f
  induction f with
  | zero => intro i; simp [toksL]
  | succ f ih =>
    intro i
    simp only [toksL]
    split
    · have := ih (tokAt cs i).2
      simp; omega
    · simp
theorem toksOf_len (s : ByteArray) : (toksOf s).length ≤ s.size := by
  have h1 := toksL_len s 0 (cells s) (cells s).length 0
  have h2 := cells_len s
  unfold toksOf
  omega
theorem ref_Words (s : ByteArray) (k : Nat) (hk : 2 * s.size + 20 ≤ k) : siglumref07_Words.f k s = some (wordsR s) := by
  unfold siglumref07_Words.f wordsR
  by_cases hs : 65536 < s.size
  · rw [ref_Tokens_long s hs k, if_pos hs]
    rfl
  · rw [ref_Tokens s (by omega) k hk, if_neg hs]
    simp only [Option.bind_some, if_true]
    have hl := toksOf_len s
    have h := ref_words_l0 s (by omega) (toksOf s) (toksOf s).length 0 0 k [] [] (by omega) (by omega) (by omega) (by simp) (cov_of s) (Chain.nil s)
    simp only [List.drop_zero] at h
    rw [← h]
    congr 1
    simp
    rfl
theorem set_take {α : Type} (d : α) (f : Nat → α) (n i : Nat) (hi : i < n) (L : List α) (hL : L.length = n) (h : ∀ j, j < i → L[j]? = some (f j)) : (∀ j, j < i + 1 → (L.set i (f i))[j]? = some (f j)) := by
  intro j hj
  rw [List.getElem?_set]
  by_cases e : i = j
  · subst e; rw [if_pos rfl, if_pos (by omega)]
  · rw [if_neg e]; exact h j (by omega)
theorem prog_words_l1 (s : ByteArray) (hs : s.size ≤ 1048576) (a e : List Nat) (hch : Chain s s.size a e) (hn : e.length ≤ 100000) : ∀ (d i k : Nat) (L : List S87), i + d = e.length → d < k → L.length = e.length → (∀ j, j < i → L[j]? = some (wordAt s (a ++ [s.size]) e j)) →
    split_Words.l1 k s ((a ++ [s.size]).map fun (n : Nat) => (n : Int)) (e.map fun (n : Nat) => (n : Int)) L (e.length : Int) (i : Int) = some (s.extract 0 ((a ++ [s.size]).getD 0 0), mkW s (a ++ [s.size]) e, 0) := by
  have hl := hch.len
  have hA : ∀ i, i ≤ e.length → (a ++ [s.size]).getD i 0 ≤ s.size := hch.top
  intro d
  induction d with
  | zero =>
    intro i k L h hk hL hj
    obtain ⟨k, rfl⟩ : ∃ k', k = k' + 1 := ⟨k - 1, by omega⟩
    have h0 := hA 0 (by omega)
    simp only [split_Words.l1]
    rw [if_neg (by omega), if_pos (by simp <;> omega)]
    rw [show (0 : Int) = ((0 : Nat) : Int) from rfl, rd_nat]
    rw [if_pos (by omega), if_pos (by omega)]
    have hLe : L = mkW s (a ++ [s.size]) e := by
      refine List.ext_getElem? fun j => ?_
      by_cases hj2 : j < e.length
      · rw [hj j (by omega), List.getElem?_eq_getElem (by rw [mkW_length]; exact hj2), mkW_get]
      · rw [List.getElem?_eq_none (by omega), List.getElem?_eq_none (by rw [mkW_length]; omega)]
    rw [hLe]
    simp
  | succ d ih =>
    intro i k L h hk hL hj
    obtain ⟨k, rfl⟩ : ∃ k', k = k' + 1 := ⟨k - 1, by omega⟩
    have hi : i < e.length := by omega
    have e1 : wrap64 ((i : Int) + 1) = ((i + 1 : Nat) : Int) := by unfold wrap64; omega
    obtain ⟨s1, s2⟩ := hch.step i hi
    have hA1 := hA (i + 1) (by omega)
    simp only [split_Words.l1]
    rw [e1]
    rw [rd_nat, rd_nat, rd_nat]
    simp only [List.length_map, List.length_append, List.length_singleton]
    rw [if_pos (by omega), if_pos (by omega), if_pos (by omega), if_pos (by omega), if_pos (by omega), if_pos (by omega), if_pos (by omega), if_pos (by omega), if_pos (by omega), if_pos (by omega), if_pos (by omega), if_pos (by omega), if_pos (by omega)]
    simp only [Int.toNat_natCast]
    exact ih (i + 1) k _ (by omega) (by omega) (by simp [hL]) (set_take ⟨⟨#[]⟩, ⟨#[]⟩⟩ (wordAt s (a ++ [s.size]) e) e.length i hi L hL hj)
theorem prog_words_l0 (s : ByteArray) (hs : s.size ≤ 1048576) (T : List S125) : ∀ (d i p k : Nat) (a e : List Nat), i + d = T.length → d + (e.length + d) + 3 < k → T.length ≤ 100000 → e.length ≤ i → Cov s p (T.drop i) → Chain s p a e →
    split_Words.l0 k s (a.map fun (n : Nat) => (n : Int)) (e.map fun (n : Nat) => (n : Int)) T (T.length : Int) (i : Int) =
      some (if 1024 < (goW (T.drop i) a e).1.length then (⟨#[]⟩, [], 1) else (s.extract 0 (((goW (T.drop i) a e).1 ++ [s.size]).getD 0 0), mkW s ((goW (T.drop i) a e).1 ++ [s.size]) (goW (T.drop i) a e).2, 0)) := by
  intro d
  induction d with
  | zero =>
    intro i p k a e h hk hT he hc hch
    obtain ⟨k, rfl⟩ : ∃ k', k = k' + 1 := ⟨k - 1, by omega⟩
    have hd : T.drop i = [] := List.drop_eq_nil_of_le (by omega)
    rw [hd] at hc ⊢
    simp only [Cov] at hc
    subst hc
    rw [show goW [] a e = (a, e) from rfl]
    simp only [split_Words.l0]
    have hl := hch.len
    simp only [List.length_map]
    rw [if_neg (by omega)]
    by_cases h1 : 1024 < a.length
    · rw [if_pos (by omega), if_pos h1]
    · rw [if_neg (by omega), if_neg h1, if_pos (by omega), if_pos (by omega), if_pos (by omega)]
      simp only [Option.bind_some, Int.toNat_natCast, List.length_replicate]
      have h := prog_words_l1 s hs a e hch (by omega) e.length 0 k (List.replicate e.length z87) (by omega) (by omega) (by simp) (fun j hj => absurd hj (by omega))
      simp only [List.map_append, List.map_cons, List.map_nil] at h
      exact h
  | succ d ih =>
    intro i p k a e h hk hT he hc hch
    obtain ⟨k, rfl⟩ : ∃ k', k = k' + 1 := ⟨k - 1, by omega⟩
    have hi : i < T.length := by omega
    have hd : T.drop i = T[i] :: T.drop (i + 1) := List.drop_eq_getElem_cons hi
    rw [hd] at hc ⊢
    obtain ⟨q, h1, hpq, hq, h2, hc⟩ := hc
    have e1 : wrap64 ((i : Int) + 1) = ((i + 1 : Nat) : Int) := by unfold wrap64; omega
    have hl := hch.len
    have hle := hch.le
    rw [show goW (T[i] :: T.drop (i + 1)) a e = if T[i].f0 = 1 then goW (T.drop (i + 1)) (a ++ [T[i].f1.toNat]) (e ++ [T[i].f1.toNat + T[i].f2.size]) else goW (T.drop (i + 1)) a e from rfl]
    simp only [split_Words.l0]
    simp only [List.length_map]
    rw [if_pos (by omega), if_pos (by omega), if_pos (by omega), rd_tok T i hi]
    by_cases hw : T[i].f0 = 1
    · rw [if_pos hw, if_pos hw, if_pos (by omega), if_pos (by omega), e1, h1, h2, extract_size s p q hq]
      rw [show wrap64 ((p : Int) + ((q - p : Nat) : Int)) = ((q : Nat) : Int) by unfold wrap64; omega]
      simp only [Int.toNat_natCast]
      rw [show p + (q - p) = q by omega]
      have h := ih (i + 1) q k (a ++ [p]) (e ++ [q]) (by omega) (by simp; omega) hT (by simp; omega) hc (hch.word (by omega) hq)
      simp only [List.map_append, List.map_cons, List.map_nil] at h
      exact h
    · rw [if_neg hw, if_neg hw, e1]
      exact ih (i + 1) q k a e (by omega) (by omega) hT (by omega) hc (hch.other (by omega) hq)
theorem prog_Words (s : ByteArray) (k : Nat) (hk : 2 * s.size + 20 ≤ k) : split_Words.f k s = some (wordsR s) := by
  unfold split_Words.f wordsR
  by_cases hs : 65536 < s.size
  · rw [prog_Tokens_long s hs, if_pos hs]
    rfl
  · rw [prog_Tokens s (by omega), if_neg hs]
    simp only [Option.bind_some, if_true]
    have hl := toksOf_len s
    have h := prog_words_l0 s (by omega) (toksOf s) (toksOf s).length 0 0 k [] [] (by omega) (by simp; omega) (by omega) (by simp) (cov_of s) (Chain.nil s)
    simp only [List.drop_zero] at h
    rw [← h]
    rfl
end Go.Proofs.YtblpiceallbfjaaDoor.Pr
/- split.Right, Keys and the document's: plain facts. -/
set_option linter.unusedVariables false
set_option linter.unusedSimpArgs false
namespace Go.Proofs.YtblpiceallbfjaaDoor.Pr
open Go.RowKit Go.Proofs.YtblpiceallbfjaaDoorW.PrintWords
theorem toList_inj (a b : ByteArray) : a.toList = b.toList ↔ a = b := by
  rw [ByteArray.toList_eq, ByteArray.toList_eq]
  exact ⟨fun h => Go.WideShapes.bytes_inj h, fun h => by rw [h]⟩
theorem word_eq (a b : S87) : (!((a.f0.toList) == (b.f0.toList)) || (!((a.f1.toList) == (b.f1.toList)))) = true ↔ a ≠ b := by
  obtain ⟨a0, a1⟩ := a
  obtain ⟨b0, b1⟩ := b
  simp only [Bool.or_eq_true, Bool.not_eq_true', beq_eq_false_iff_ne, ne_eq, toList_inj]
  constructor
  · rintro (h | h) e
    · exact h (by injection e)
    · exact h (by injection e)
  · intro h
    by_cases e : a0 = b0
    · exact .inr (fun e2 => h (by rw [e, e2]))
    · exact .inl e
theorem same_l0 (l m : List S87) (hl : l.length = m.length) (hb : l.length ≤ 2000000) : ∀ (d i k : Nat), i + d = l.length → d < k → (∀ j, j < i → l[j]? = m[j]?) →
    ∃ b, siglumref07_Same.l0 k l m (i : Int) = some b ∧ (b = true ↔ l = m) := by
  intro d
  induction d with
  | zero =>
    intro i k h hk hj
    obtain ⟨k, rfl⟩ : ∃ k', k = k' + 1 := ⟨k - 1, by omega⟩
    refine ⟨true, ?_, ?_⟩
    · simp only [siglumref07_Same.l0]
      rw [if_neg (by omega)]
    · simp only [true_iff]
      refine List.ext_getElem? fun j => ?_
      by_cases hj2 : j < i
      · exact hj j hj2
      · rw [List.getElem?_eq_none (by omega), List.getElem?_eq_none (by omega)]
  | succ d ih =>
    intro i k h hk hj
    obtain ⟨k, rfl⟩ : ∃ k', k = k' + 1 := ⟨k - 1, by omega⟩
    have hi : i < l.length := by omega
    have hi2 : i < m.length := by omega
    simp only [siglumref07_Same.l0]
    rw [if_pos (by omega), if_pos (by omega), if_pos (by omega), rd_word l i hi, rd_word m i hi2]
    by_cases e : l[i] = m[i]
    · rw [if_neg (by rw [word_eq]; exact fun h => h e), show wrap64 ((i : Int) + 1) = ((i + 1 : Nat) : Int) by unfold wrap64; omega]
      refine ih (i + 1) k (by omega) (by omega) fun j hj2 => ?_
      by_cases e2 : j = i
      · subst e2
        rw [List.getElem?_eq_getElem hi, List.getElem?_eq_getElem hi2, e]
      · exact hj j (by omega)
    · rw [if_pos ((word_eq _ _).2 e)]
      refine ⟨false, rfl, ?_⟩
      simp only [Bool.false_eq_true, false_iff]
      rintro rfl
      exact e rfl
theorem same_f (l m : List S87) (hb : l.length ≤ 2000000) (k : Nat) (hk : l.length < k) : ∃ b, siglumref07_Same.f k l m = some b ∧ (b = true ↔ l = m) := by
  unfold siglumref07_Same.f
  by_cases hl : l.length = m.length
  · rw [if_pos (by omega)]
    exact same_l0 l m hl hb l.length 0 k (by omega) hk (fun j hj => absurd hj (by omega))
  · rw [if_neg (by omega)]
    refine ⟨false, rfl, ?_⟩
    simp only [Bool.false_eq_true, false_iff]
    rintro rfl
    exact hl rfl
theorem equal_l0 (l m : List S87) (hl : l.length = m.length) (hb : l.length ≤ 2000000) : ∀ (d i k : Nat), i + d = l.length → d < k → (∀ j, j < i → l[j]? = m[j]?) →
    ∃ b, api_Word.l0 k l m (l.length : Int) (i : Int) = some b ∧ (b = true ↔ l = m) := by
  intro d
  induction d with
  | zero =>
    intro i k h hk hj
    obtain ⟨k, rfl⟩ : ∃ k', k = k' + 1 := ⟨k - 1, by omega⟩
    refine ⟨true, ?_, ?_⟩
    · simp only [api_Word.l0]
      rw [if_neg (by omega)]
    · simp only [true_iff]
      refine List.ext_getElem? fun j => ?_
      by_cases hj2 : j < i
      · exact hj j hj2
      · rw [List.getElem?_eq_none (by omega), List.getElem?_eq_none (by omega)]
  | succ d ih =>
    intro i k h hk hj
    obtain ⟨k, rfl⟩ : ∃ k', k = k' + 1 := ⟨k - 1, by omega⟩
    have hi : i < l.length := by omega
    have hi2 : i < m.length := by omega
    simp only [api_Word.l0]
    rw [if_pos (by omega), if_pos (by omega), if_pos (by omega), if_pos (by omega), rd_word l i hi, rd_word m i hi2]
    by_cases e : l[i] = m[i]
    · rw [if_neg (by rw [word_eq]; exact fun h => h e), show wrap64 ((i : Int) + 1) = ((i + 1 : Nat) : Int) by unfold wrap64; omega]
      refine ih (i + 1) k (by omega) (by omega) fun j hj2 => ?_
      by_cases e2 : j = i
      · subst e2
        rw [List.getElem?_eq_getElem hi, List.getElem?_eq_getElem hi2, e]
      · exact hj j (by omega)
    · rw [if_pos ((word_eq _ _).2 e)]
      refine ⟨false, rfl, ?_⟩
      simp only [Bool.false_eq_true, false_iff]
      rintro rfl
      exact e rfl
theorem equal_f (l m : List S87) (hb : l.length ≤ 2000000) (k : Nat) (hk : l.length < k) : ∃ b, api_Word.f k l m = some b ∧ (b = true ↔ l = m) := by
  unfold api_Word.f
  by_cases hl : l.length = m.length
  · rw [if_pos (by omega)]
    exact equal_l0 l m hl hb l.length 0 k (by omega) hk (fun j hj => absurd hj (by omega))
  · rw [if_neg (by omega)]
    refine ⟨false, rfl, ?_⟩
    simp only [Bool.false_eq_true, false_iff]
    rintro rfl
    exact hl rfl
theorem wordsR_len (s : ByteArray) : (wordsR s).2.1.length ≤ 1024 := by
  unfold wordsR
  split
  · simp
  · split
    · simp
    · rename_i h1 h2
      have h := (goW_chain s (toksOf s) 0 [] [] (cov_of s) (Chain.nil s)).len
      simp only [mkW_length]
      omega
/-- The text of a head and words. -/
def joinS (h : ByteArray) (l : List S87) : ByteArray := ⟨(joinB h l).toArray⟩
theorem joinS_size (h : ByteArray) (l : List S87) : (joinS h l).size = (joinB h l).length := by
  simp [joinS, ByteArray.size]
/-- Is it what Words answers of a text? -/
def RightP (h : ByteArray) (l : List S87) : Prop := (wordsR (joinS h l)).2.2 = 0 ∧ (wordsR (joinS h l)).1 = h ∧ (wordsR (joinS h l)).2.1 = l
theorem prog_right (h : ByteArray) (l : List S87) (hb : (joinB h l).length ≤ 1099511627776) (hl : l.length ≤ 1099511627776) (k : Nat) (hk : 2 * (joinB h l).length + 2000 ≤ k) : ∃ b, split_Right.f k h l = some b ∧ (b = true ↔ RightP h l) := by
  have hz := joinS_size h l
  unfold split_Right.f split_Join.f RightP
  rw [if_pos ⟨by omega, by omega⟩]
  simp only [Option.bind_some]
  change ∃ b, ((split_Words.f k (joinS h l)).bind _) = some b ∧ _
  rw [prog_Words (joinS h l) k (by omega)]
  simp only [Option.bind_some]
  have hw := wordsR_len (joinS h l)
  by_cases h1 : (wordsR (joinS h l)).2.2 = 0
  · rw [if_pos h1]
    by_cases h2 : (wordsR (joinS h l)).1 = h
    · rw [if_pos ((toList_inj _ _).2 h2)]
      obtain ⟨b, e1, e2⟩ := equal_f (wordsR (joinS h l)).2.1 l (by omega) k (by omega)
      rw [e1]
      refine ⟨b, rfl, e2.trans ⟨fun e => ⟨h1, h2, e⟩, fun e => e.2.2⟩⟩
    · rw [if_neg (fun e => h2 ((toList_inj _ _).1 e))]
      exact ⟨false, rfl, by simp [h2]⟩
  · rw [if_neg h1]
    exact ⟨false, rfl, by simp [h1]⟩
theorem wordB_len (x : S87) : (wordB x).length = x.f0.size + x.f1.size := by
  unfold wordB
  rw [List.length_append, data_length, data_length]
theorem joinB_nil (h : ByteArray) : (joinB h []).length = h.size := by
  unfold joinB
  rw [List.length_append, data_length]
  rfl
theorem joinB_take_le (h : ByteArray) (l : List S87) (i : Nat) : (joinB h (l.take i)).length ≤ (joinB h l).length := by
  unfold joinB
  rw [List.length_append, List.length_append]
  have : (l.take i).flatMap wordB ++ (l.drop i).flatMap wordB = l.flatMap wordB := by rw [← List.flatMap_append, List.take_append_drop]
  rw [← this, List.length_append]
  omega
theorem ref_right_j2 (h : ByteArray) (l : List S87) (hb : (joinB h l).length ≤ 65536) (hl : l.length ≤ 1024) (k : Nat) (hk : 2 * (joinB h l).length + 2000 ≤ k) : ∃ b, siglumref07_Right.j2 k h l false = some b ∧ (b = true ↔ RightP h l) := by
  have hz := joinS_size h l
  obtain ⟨k, rfl⟩ : ∃ k', k = k' + 1 := ⟨k - 1, by omega⟩
  simp only [siglumref07_Right.j2]
  rw [if_neg (by simp)]
  unfold siglumref07_Join.f RightP
  rw [if_pos ⟨by omega, by omega⟩]
  simp only [Option.bind_some]
  change ∃ b, ((siglumref07_Words.f k (joinS h l)).bind _) = some b ∧ _
  rw [ref_Words (joinS h l) k (by omega)]
  simp only [Option.bind_some]
  have hw := wordsR_len (joinS h l)
  by_cases h1 : (wordsR (joinS h l)).2.2 = 0
  · rw [if_pos h1]
    by_cases h2 : (wordsR (joinS h l)).1 = h
    · rw [if_pos ((toList_inj _ _).2 h2)]
      obtain ⟨b, e1, e2⟩ := same_f (wordsR (joinS h l)).2.1 l (by omega) k (by omega)
      rw [e1]
      refine ⟨b, rfl, e2.trans ⟨fun e => ⟨h1, h2, e⟩, fun e => e.2.2⟩⟩
    · rw [if_neg (fun e => h2 ((toList_inj _ _).1 e))]
      exact ⟨false, rfl, by simp [h2]⟩
  · rw [if_neg h1]
    exact ⟨false, rfl, by simp [h1]⟩
theorem long_wrong (h : ByteArray) (l : List S87) (hb : 65536 < (joinB h l).length) : ¬ RightP h l := by
  have hz := joinS_size h l
  intro ⟨e, _⟩
  unfold wordsR at e
  rw [if_pos (by omega)] at e
  exact absurd e (by decide)
theorem many_wrong (h : ByteArray) (l : List S87) (hb : 1024 < l.length) : ¬ RightP h l := by
  intro ⟨_, _, e⟩
  have := wordsR_len (joinS h l)
  rw [e] at this
  omega
theorem ref_right_j1 (h : ByteArray) (l : List S87) (n : Nat) (hn : (65536 < n ∧ n ≤ (joinB h l).length) ∨ n = (joinB h l).length) (k : Nat) (hk : 2 * (joinB h l).length + 2001 ≤ k) : ∃ b, siglumref07_Right.j1 k h l (n : Int) = some b ∧ (b = true ↔ RightP h l) := by
  obtain ⟨k, rfl⟩ : ∃ k', k = k' + 1 := ⟨k - 1, by omega⟩
  obtain ⟨k', hk'⟩ : ∃ k', k = k' + 1 := ⟨k - 1, by omega⟩
  simp only [siglumref07_Right.j1]
  by_cases h1 : 65536 < n
  · rw [if_pos (by omega), hk']
    simp only [siglumref07_Right.j2]
    rw [if_pos trivial]
    exact ⟨false, rfl, by simpa using long_wrong h l (by omega)⟩
  · rw [if_neg (by omega)]
    by_cases h2 : 1024 < l.length
    · rw [show decide ((l.length : Int) > 1024) = true by simp; omega, hk']
      simp only [siglumref07_Right.j2]
      rw [if_pos trivial]
      exact ⟨false, rfl, by simpa using many_wrong h l h2⟩
    · rw [show decide ((l.length : Int) > 1024) = false by simp; omega]
      exact ref_right_j2 h l (by omega) (by omega) k (by omega)
theorem ref_right_l0 (h : ByteArray) (l : List S87) (hb : (joinB h l).length ≤ 1099511627776) (hl : l.length ≤ 1099511627776) : ∀ (d i k : Nat), i + d = l.length → d + 2 * (joinB h l).length + 2002 ≤ k →
    ∃ b, siglumref07_Right.l0 k h l ((joinB h (l.take i)).length : Int) (i : Int) = some b ∧ (b = true ↔ RightP h l) := by
  intro d
  induction d with
  | zero =>
    intro i k e hk
    obtain ⟨k, rfl⟩ : ∃ k', k = k' + 1 := ⟨k - 1, by omega⟩
    simp only [siglumref07_Right.l0]
    rw [if_neg (by omega), List.take_of_length_le (by omega)]
    exact ref_right_j1 h l _ (.inr rfl) k (by omega)
  | succ d ih =>
    intro i k e hk
    obtain ⟨k, rfl⟩ : ∃ k', k = k' + 1 := ⟨k - 1, by omega⟩
    have hi : i < l.length := by omega
    have ht := joinB_take_le h l i
    have hq := joinB_len h l i hi
    simp only [siglumref07_Right.l0]
    rw [if_pos (by omega)]
    by_cases h1 : (joinB h (l.take i)).length ≤ 65536
    · have e3 : (joinB h (l.take (i + 1))).length = (joinB h (l.take i)).length + l[i].f0.size + l[i].f1.size := by
        rw [joinB_take h l i hi, List.length_append, wordB_len]
        omega
      rw [if_pos (by omega), if_pos (by omega), rd_word l i hi, show wrap64 ((l[i].f0.size : Int) + (l[i].f1.size : Int)) = ((l[i].f0.size + l[i].f1.size : Nat) : Int) by unfold wrap64; omega,
        show wrap64 (((joinB h (l.take i)).length : Int) + ((l[i].f0.size + l[i].f1.size : Nat) : Int)) = ((joinB h (l.take (i + 1))).length : Int) by unfold wrap64; omega,
        show wrap64 ((i : Int) + 1) = ((i + 1 : Nat) : Int) by unfold wrap64; omega]
      exact ih (i + 1) k (by omega) (by omega)
    · rw [if_neg (by omega)]
      exact ref_right_j1 h l _ (.inl ⟨by omega, ht⟩) k (by omega)
theorem ref_right (h : ByteArray) (l : List S87) (hb : (joinB h l).length ≤ 1099511627776) (hl : l.length ≤ 1099511627776) (k : Nat) (hk : l.length + 2 * (joinB h l).length + 2002 ≤ k) : ∃ b, siglumref07_Right.f k h l = some b ∧ (b = true ↔ RightP h l) := by
  unfold siglumref07_Right.f
  have h0 := ref_right_l0 h l hb hl l.length 0 k (by omega) hk
  rw [List.take_zero, joinB_nil] at h0
  exact h0
end Go.Proofs.YtblpiceallbfjaaDoor.Pr
namespace Go.Proofs.YtblpiceallbfjaaDoor.Pr
open Go.RowKit Go.Proofs.YtblpiceallbfjaaDoorW.PrintWords Go.Proofs.YtblpiceallbfjaaDoorW.PrintLast Go.Proofs.YtblpiceallbfjaaDoorW.PrintMore
attribute [local go_sem] max2_int min2_int max_two min_two max_three min_three max_four min_four   -- for this text's walks alone
set_option linter.unusedVariables false
set_option linter.unusedSimpArgs false
def siglumlaw03_awake.f  : Option (Bool) := (fold_Text.f (⟨#[197, 146, 117, 118, 114, 101, 255]⟩ : ByteArray) 31).bind fun bt101 => ((fold_Text.f (⟨#[97]⟩ : ByteArray) 32).bind fun bt103 => (if bt101.1.toList = ([111, 101, 117, 117, 114, 101, 255] : List UInt8) then (if bt101.2 = 0 then (some (bt103.2 == 2)) else (some false)) else (some false)))
end Go.Proofs.YtblpiceallbfjaaDoor.Pr
namespace Go.Proofs.YtblpiceallbfjaaDoor.Pr
open Go.RowKit Go.Proofs.YtblpiceallbfjaaDoorW.PrintWords Go.Proofs.YtblpiceallbfjaaDoorW.PrintLast Go.Proofs.YtblpiceallbfjaaDoorW.PrintMore
attribute [local go_sem] max2_int min2_int max_two min_two max_three min_three max_four min_four   -- for this text's walks alone
set_option linter.unusedVariables false
set_option linter.unusedSimpArgs false
def fold_Same.f (a0 : ByteArray) (a1 : ByteArray) (a2 : Int) : Option (Bool × Int) := (fold_Text.f a0 a2).bind fun bt226 => (if bt226.2 = 0 then ((fold_Text.f a1 a2).bind fun bt228 => (some ((bt226.1.toList == bt228.1.toList), 0))) else (some (false, bt226.2)))
def siglumlaw03_FoldTexts.f (k : Nat) (a0 : ByteArray) (a1 : ByteArray) (a2 : Int) : Option (Bool) := (siglumlaw03_awake.f).bind fun t230 => (if t230 = true then ((fold_Text.f a0 a2).bind fun bt231 => ((siglumref03_Text.f k a0 a2).bind fun bt233 => ((siglumref03_Text.f k a1 a2).bind fun bt235 => ((fold_Same.f a0 a1 a2).bind fun bt237 => (if bt233.2 = 0 then (if bt231.1.toList = bt233.1.toList then (if bt231.2 = 0 then (if bt237.2 = 0 then (some (bt237.1 == (bt233.1.toList == bt235.1.toList))) else (some false)) else (some false)) else (some false)) else (if bt231.2 = bt233.2 then (if bt237.2 = bt233.2 then (if bt231.1.toList = ([] : List UInt8) then (some (!bt237.1)) else (some false)) else (some false)) else (some false))))))) else (some false))
theorem siglumlaw03_FoldTexts.mono : ∀ a0 a1 a2 k, LeO (siglumlaw03_FoldTexts.f k a0 a1 a2) (siglumlaw03_FoldTexts.f (k + 1) a0 a1 a2) := by
  intro a0 a1 a2 k
  unfold siglumlaw03_FoldTexts.f
  repeat' first
      | (with_reducible exact siglumref03_Text.mono _ _ _)
      | (with_reducible exact LeO.refl _)
      | (with_reducible exact LeO.none _)
      | (with_reducible refine LeO.ite ?_ ?_)
      | (with_reducible refine LeO.bind ?_ (fun _ => ?_))
      | exact siglumref03_Text.mono _ _ _
      | exact LeO.none _
      | refine LeO.ite ?_ ?_
      | refine LeO.bind ?_ (fun _ => ?_)
end Go.Proofs.YtblpiceallbfjaaDoor.Pr
/- Plain facts on folding runes, no program in sight: folded by less and then by more is folded by more. -/
set_option linter.unusedVariables false
set_option linter.unusedSimpArgs false
namespace Go.Proofs.YtblpiceallbfjaaDoor.Pr
open Go.RowKit
/-- The steps that a sum names. -/
def st (l u t : Bool) (x : Int) : Int := (fun y => if t then letterI y else y) ((fun y => if u then unmarkedI y else y) (if l then smallI x else x))
/-- What a rune becomes. -/
def out (l u g t j : Bool) (r : Int) : List Int :=
  if (j && kindI r == 4) || (u && kindI r == 2) then [] else if g = true ∧ ligB r ≠ [] then (ligB r).map fun b => st l u t (b.toNat : Int) else [st l u t r]
/-- The sums' own words. -/
def outO (opt r : Int) : List Int := out (decide (opt % 2 = 1)) (decide (opt / 2 % 2 = 1)) (decide (opt / 4 % 2 = 1)) (decide (opt / 8 % 2 = 1)) (decide (opt / 16 % 2 = 1)) r
theorem applyAll_st (opt x : Int) : applyAll (stepsOf opt) x = st (decide (opt % 2 = 1)) (decide (opt / 2 % 2 = 1)) (decide (opt / 8 % 2 = 1)) x := by
  have a : stepF 71 = smallI := by funext y; rfl
  have b : stepF 72 = unmarkedI := by funext y; rfl
  have c : stepF 73 = letterI := by funext y; rfl
  unfold stepsOf st applyAll
  by_cases h1 : opt % 2 = 1 <;> by_cases h2 : opt / 2 % 2 = 1 <;> by_cases h3 : opt / 8 % 2 = 1 <;> simp [h1, h2, h3, a, b, c]
theorem foldR_out (r opt : Int) : foldR (kindI r) r opt = (outO opt r).flatMap encI := by
  unfold foldR outO out dropB
  by_cases hd : ((decide (opt / 16 % 2 = 1) && kindI r == 4) || (decide (opt / 2 % 2 = 1) && kindI r == 2)) = true
  · rw [if_pos hd, if_pos hd]; rfl
  · rw [if_neg hd, if_neg hd]
    unfold runesOf
    by_cases hg : opt / 4 % 2 = 1 ∧ ligB r ≠ []
    · rw [if_pos hg, if_pos ⟨by simpa using hg.1, hg.2⟩, List.flatMap_map, List.flatMap_map]
      simp only [applyAll_st]
    · rw [if_neg hg, if_neg (fun h => hg ⟨by simpa using h.1, h.2⟩)]
      simp only [applyAll_st, List.flatMap_cons, List.flatMap_nil]
end Go.Proofs.YtblpiceallbfjaaDoor.Pr
/- The document's folding of a rune (steps over a list of runes) and of a text is the program's. -/
set_option linter.unusedVariables false
set_option linter.unusedSimpArgs false
namespace Go.Proofs.YtblpiceallbfjaaDoor.Pr
open Go.RowKit Go.Proofs.YtblpiceallbfjaaDoorW.PrintWords Go.Proofs.YtblpiceallbfjaaDoorW.PrintLast Go.Proofs.YtblpiceallbfjaaDoorW.PrintMore
def encZ (x : Int) : List Int := (encI x).map fun b => (b.toNat : Int)
theorem two31' : (2 : Int) ^ 31 = 2147483648 := by decide
theorem and63i (r : Int) (h0 : 0 ≤ r) (h1 : r ≤ 2147483646) : Go.bits .and .i32 r 63 = r % 64 := by
  have h := bits_mask .i32 31 (by decide) (fun n h0 h1 => by rw [two31'] at h1; exact wrap_i32_of n h0 h1) 6 (by decide) r h0 (by rw [two31']; omega)
  have e : ((2 : Int) ^ 6 - 1) = 63 := by decide
  rw [e] at h
  rw [h]
  omega
theorem or192 : ∀ y : Fin 32, Go.bits .or .u8 192 (y.val : Int) = ((192 + y.val : Nat) : Int) := by decide +kernel
theorem or224 : ∀ y : Fin 16, Go.bits .or .u8 224 (y.val : Int) = ((224 + y.val : Nat) : Int) := by decide +kernel
theorem or240 : ∀ y : Fin 8, Go.bits .or .u8 240 (y.val : Int) = ((240 + y.val : Nat) : Int) := by decide +kernel
theorem or128 : ∀ y : Fin 64, Go.bits .or .u8 128 (y.val : Int) = ((128 + y.val : Nat) : Int) := by decide +kernel
theorem or192' (y : Int) (h0 : 0 ≤ y) (h1 : y < 32) : Go.bits .or .u8 192 y = 192 + y := by
  have := or192 ⟨y.toNat, by omega⟩; simp only at this; rw [show ((y.toNat : Nat) : Int) = y by omega] at this; rw [this]; omega
theorem or224' (y : Int) (h0 : 0 ≤ y) (h1 : y < 16) : Go.bits .or .u8 224 y = 224 + y := by
  have := or224 ⟨y.toNat, by omega⟩; simp only at this; rw [show ((y.toNat : Nat) : Int) = y by omega] at this; rw [this]; omega
theorem or240' (y : Int) (h0 : 0 ≤ y) (h1 : y < 8) : Go.bits .or .u8 240 y = 240 + y := by
  have := or240 ⟨y.toNat, by omega⟩; simp only at this; rw [show ((y.toNat : Nat) : Int) = y by omega] at this; rw [this]; omega
theorem or128' (y : Int) (h0 : 0 ≤ y) (h1 : y < 64) : Go.bits .or .u8 128 y = 128 + y := by
  have := or128 ⟨y.toNat, by omega⟩; simp only at this; rw [show ((y.toNat : Nat) : Int) = y by omega] at this; rw [this]; omega
theorem encI_bad (x : Int) (h : ¬ Scal x) : encI x = [239, 191, 189] := by
  have hv : Utf8.valid x = false := by
    unfold Scal at h
    unfold Utf8.valid
    simp only [Bool.or_eq_false_iff, Bool.and_eq_false_iff, decide_eq_false_iff_not]
    omega
  unfold encI Utf8.encode
  rw [hv]
  simp only [Bool.false_eq_true, if_false, Utf8.runeError]
  decide
theorem written_j1 (k : Nat) (x : Int) (h : Scal x) : siglumref01_written.j1 (k + 1) x = some (encZ x) := by
  obtain ⟨h0, h1, h2⟩ := id h
  simp only [siglumref01_written.j1]
  unfold encZ
  rcases encI_cases x h with ⟨c, e⟩ | ⟨c, c', e⟩ | ⟨c, c', e⟩ | ⟨c, e⟩
  · rw [if_pos (by omega), e]
    simp only [List.map_cons, List.map_nil]
    rw [toN _ (by omega)]
    congr 2
    omega
  · rw [if_neg (by omega), if_pos (by omega), e]
    simp only [List.map_cons, List.map_nil]
    rw [toN _ (by omega), toN _ (by omega), and63i _ (by omega) (by omega), or192' _ (by omega) (by omega), or128' _ (by omega) (by omega)]
    congr 2
    · omega
    · congr 1; omega
  · rw [if_neg (by omega), if_neg (by omega), if_pos (by omega), e]
    simp only [List.map_cons, List.map_nil]
    rw [toN _ (by omega), toN _ (by omega), toN _ (by omega), and63i _ (by omega) (by omega), and63i _ (by omega) (by omega), or224' _ (by omega) (by omega), or128' _ (by omega) (by omega), or128' _ (by omega) (by omega)]
    congr 2
    · omega
    · congr 1
      · omega
      · congr 1; omega
  · rw [if_neg (by omega), if_neg (by omega), if_neg (by omega), e]
    simp only [List.map_cons, List.map_nil]
    rw [toN _ (by omega), toN _ (by omega), toN _ (by omega), toN _ (by omega), and63i _ (by omega) (by omega), and63i _ (by omega) (by omega), and63i _ (by omega) (by omega), or240' _ (by omega) (by omega), or128' _ (by omega) (by omega), or128' _ (by omega) (by omega), or128' _ (by omega) (by omega)]
    congr 2
    · omega
    · congr 1
      · omega
      · congr 1
        · omega
        · congr 1; omega
theorem written_f (k : Nat) (x : Int) : siglumref01_written.f (k + 2) x = some (encZ x) := by
  have bad : ¬ Scal x → siglumref01_written.j1 (k + 1) 65533 = some (encZ x) := by
    intro h
    rw [written_j1 k 65533 (by decide)]
    unfold encZ
    rw [encI_bad x h, show encI 65533 = [239, 191, 189] by decide +kernel]
  unfold siglumref01_written.f
  by_cases h0 : x < 0
  · rw [if_pos h0]
    simp only [siglumref01_written.j0, if_true]
    exact bad (by unfold Scal; omega)
  rw [if_neg h0]
  by_cases h1 : x > 1114111
  · rw [if_pos h1]
    simp only [siglumref01_written.j0, if_true]
    exact bad (by unfold Scal; omega)
  rw [if_neg h1]
  by_cases h2 : x ≥ 55296
  · rw [if_pos h2]
    by_cases h3 : x ≤ 57343
    · simp only [siglumref01_written.j0, h3, decide_true, if_true]
      exact bad (by unfold Scal; omega)
    · simp only [siglumref01_written.j0, h3, decide_false, Bool.false_eq_true, if_false]
      exact written_j1 k x (by unfold Scal; omega)
  · rw [if_neg h2]
    simp only [siglumref01_written.j0, Bool.false_eq_true, if_false]
    exact written_j1 k x (by unfold Scal; omega)
theorem written_f' (k : Nat) (hk : 2 ≤ k) (x : Int) : siglumref01_written.f k x = some (encZ x) := by
  obtain ⟨k, rfl⟩ : ∃ k', k = k' + 2 := ⟨k - 2, by omega⟩
  exact written_f k x
theorem encZ_len (x : Int) : (encZ x).length ≤ 4 := by
  unfold encZ
  rw [List.length_map]
  by_cases h : Scal x
  · rcases encI_cases x h with ⟨_, e⟩ | ⟨_, _, e⟩ | ⟨_, _, e⟩ | ⟨_, e⟩ <;> rw [e] <;> simp
  · rw [encI_bad x h]; simp
theorem rdi (l : List Int) (i : Nat) (h : i < l.length) : rd l (i : Int) = l[i] := by simp [rd, List.getD_eq_getElem?_getD, h]
/-- A list of numbers as a text. -/
theorem back_l0 (l : List Int) (hl : l.length ≤ 1000) : ∀ (d i k : Nat) (acc : List Int), i + d = l.length → d + 2 < k → acc.length ≤ 4 * i → siglumref01_Back.l0 k l acc (i : Int) = some (strOfNums (acc ++ (l.drop i).flatMap encZ)) := by
  intro d
  induction d with
  | zero =>
    intro i k acc h hk ha
    obtain ⟨k, rfl⟩ : ∃ k', k = k' + 1 := ⟨k - 1, by omega⟩
    simp only [siglumref01_Back.l0]
    rw [if_neg (by omega), List.drop_of_length_le (by omega)]
    simp
  | succ d ih =>
    intro i k acc h hk ha
    obtain ⟨k, rfl⟩ : ∃ k', k = k' + 1 := ⟨k - 1, by omega⟩
    simp only [siglumref01_Back.l0]
    have hlen := encZ_len (l[i]'(by omega))
    rw [if_pos (by omega), if_pos (by omega), rdi l i (by omega), written_f' k (by omega)]
    simp only [Option.bind_some]
    rw [if_pos (by omega), show wrap64 ((i : Int) + 1) = ((i + 1 : Nat) : Int) by unfold wrap64; omega, ih (i + 1) k _ (by omega) (by omega) (by rw [List.length_append]; omega), List.drop_eq_getElem_cons (by omega : i < l.length), List.flatMap_cons, List.append_assoc]
theorem back_f (l : List Int) (hl : l.length ≤ 1000) (k : Nat) (hk : l.length + 2 < k) : siglumref01_Back.f k l = some (strOfNums (l.flatMap encZ)) := by
  unfold siglumref01_Back.f
  have := back_l0 l hl l.length 0 k [] (by omega) hk (by simp)
  simpa using this
theorem str_enc (bs : List UInt8) : strOfNums (bs.map fun b => (b.toNat : Int)) = ⟨bs.toArray⟩ := by
  unfold strOfNums
  congr 2
  rw [List.map_map]
  conv => rhs; rw [← List.map_id bs]
  congr 1
  funext b
  simp
theorem flat_encZ (l : List Int) : l.flatMap encZ = (l.flatMap encI).map fun b => (b.toNat : Int) := by
  rw [List.map_flatMap]
  rfl
theorem lig_f (r : Int) : siglumref03_lig.f r = some ⟨(ligB r).toArray⟩ := by
  by_cases h0 : r = 198
  · subst h0; rfl
  by_cases h1 : r = 230
  · subst h1; rfl
  by_cases h2 : r = 338
  · subst h2; rfl
  by_cases h3 : r = 339
  · subst h3; rfl
  by_cases h4 : r = 223
  · subst h4; rfl
  by_cases h5 : r = 383
  · subst h5; rfl
  by_cases h6 : r = 306
  · subst h6; rfl
  by_cases h7 : r = 307
  · subst h7; rfl
  by_cases h8 : r = 64256
  · subst h8; rfl
  by_cases h9 : r = 64257
  · subst h9; rfl
  by_cases h10 : r = 64258
  · subst h10; rfl
  by_cases h11 : r = 64259
  · subst h11; rfl
  by_cases h12 : r = 64260
  · subst h12; rfl
  by_cases h13 : r = 64261
  · subst h13; rfl
  by_cases h14 : r = 64262
  · subst h14; rfl
  simp only [siglumref03_lig.f, ligB, if_neg h0, if_neg h1, if_neg h2, if_neg h3, if_neg h4, if_neg h5, if_neg h6, if_neg h7, if_neg h8, if_neg h9, if_neg h10, if_neg h11, if_neg h12, if_neg h13, if_neg h14]
theorem plain_f (r : Int) : siglumref03_plain.f r = some (letterI r) := by
  unfold siglumref03_plain.f letterI
  by_cases h1 : r = 118
  · subst h1; rfl
  by_cases h2 : r = 106
  · subst h2; rfl
  by_cases h3 : r = 86
  · subst h3; rfl
  by_cases h4 : r = 74
  · subst h4; rfl
  rw [if_neg h1, if_neg h2, if_neg h3, if_neg h4, if_neg (by omega)]
theorem latin_cells : (cells latinS).length = 64 ∧ ∀ j : Fin 64, (rd_T67 (cells latinS) (j.val : Int)).f2 = latinT.getD j.val 0 := by decide +kernel
theorem latinT_len : latinT.length = 64 := by decide
theorem bare_f (r : Int) (k : Nat) (hk : 100 ≤ k) : siglumref03_bare.f k r = some (unmarkedI r) := by
  unfold siglumref03_bare.f unmarkedI
  by_cases h0 : r < 192
  · rw [if_pos h0, if_pos (.inl h0)]
  by_cases h1 : r > 255
  · rw [if_neg h0, if_pos h1, if_pos (.inr h1)]
  have hsz : latinS.size ≤ 80 := by decide
  have hc : siglumref01_Cells.f k (⟨#[65, 65, 65, 65, 65, 65, 195, 134, 67, 69, 69, 69, 69, 73, 73, 73, 73, 195, 144, 78, 79, 79, 79, 79, 79, 195, 151, 79, 85, 85, 85, 85, 89, 195, 158, 195, 159, 97, 97, 97, 97, 97, 97, 195, 166, 99, 101, 101, 101, 101, 105, 105, 105, 105, 195, 176, 110, 111, 111, 111, 111, 111, 195, 183, 111, 117, 117, 117, 117, 121, 195, 190, 121]⟩ : ByteArray) = some (cells latinS) := refCells latinS (by omega) k (by omega)
  rw [if_neg h0, if_neg h1, if_neg (by omega), hc]
  simp only [Option.bind_some]
  rw [latin_cells.1, show wrap32 (r - 192) = r - 192 by unfold wrap32; omega, if_pos (by omega), if_pos (by omega)]
  have := latin_cells.2 ⟨(r - 192).toNat, by omega⟩
  simp only at this
  rw [show (((r - 192).toNat : Nat) : Int) = r - 192 by omega] at this
  rw [this]
  have hl := latinT_len
  have hj : (r - 192).toNat < latinT.length := by omega
  simp [List.getD_eq_getElem?_getD, hj]
theorem drop_nil (k : Nat) (kd : Int) : siglumref03_drop.f (k + 1) [] kd = some [] := by
  simp [siglumref03_drop.f, siglumref03_drop.l0]
theorem drop_one (k : Nat) (r kd : Int) : siglumref03_drop.f (k + 2) [r] kd = some (if kindX r = kd then [] else [r]) := by
  have e : rd [r] 0 = r := rfl
  have e2 : wrap64 (0 + 1) = 1 := by unfold wrap64; omega
  simp only [siglumref03_drop.f, siglumref03_drop.l0, siglumref02_Of.f, Option.bind_some, e, e2, List.length_cons, List.length_nil]
  by_cases h : kindX r = kd
  · simp [h]
  · simp [h]
theorem ligs_nil (k : Nat) : siglumref03_ligs.f (k + 1) [] = some [] := by
  simp [siglumref03_ligs.f, siglumref03_ligs.l0]
theorem ligs_l1 (l : List Int) (s : ByteArray) (hs : s.size ≤ 3) (r : Int) : ∀ (d i k : Nat) (acc : List Int), i + d = s.size → acc.length ≤ i + 1 → siglumref03_ligs.l1 (k + d + 2) [r] acc 0 s (i : Int) = some (acc ++ (bytesOf s).drop i) := by
  intro d
  induction d with
  | zero =>
    intro i k acc h ha
    have e2 : wrap64 (0 + 1) = 1 := by unfold wrap64; omega
    simp only [siglumref03_ligs.l1, siglumref03_ligs.l0, e2]
    rw [if_neg (by omega), List.drop_of_length_le (by rw [bytesOf_length]; omega)]
    simp
  | succ d ih =>
    intro i k acc h ha
    have e := fun acc h => ih (i + 1) k acc (by omega) h
    rw [show k + (d + 1) + 2 = (k + d + 2) + 1 by omega]
    generalize k + d + 2 = K at *
    simp only [siglumref03_ligs.l1]
    have hb := bt_range s i
    rw [if_pos (by omega), if_pos (by omega), if_pos (by omega), show wrap64 ((i : Int) + 1) = ((i + 1 : Nat) : Int) by unfold wrap64; omega, e _ (by simp; omega), show wrap32 (bt s i) = bt s i by unfold wrap32; omega, List.append_assoc]
    have hlt : i < (bytesOf s).length := by rw [bytesOf_length]; omega
    rw [List.drop_eq_getElem_cons hlt, ← rd_bytesOf, rdi _ _ hlt]
    rfl
theorem ligs_one (k : Nat) (r : Int) : siglumref03_ligs.f (k + 10) [r] = some (if ligB r ≠ [] then (ligB r).map (fun b => (b.toNat : Int)) else [r]) := by
  have e : rd [r] 0 = r := rfl
  have hl := lig_len r
  have hsz : (⟨(ligB r).toArray⟩ : ByteArray).size = (ligB r).length := by simp [ByteArray.size]
  simp only [siglumref03_ligs.f, siglumref03_ligs.l0, e, lig_f, Option.bind_some, List.length_cons, List.length_nil]
  rw [if_pos (by omega), if_pos (by omega)]
  by_cases h : ligB r = []
  · rw [if_pos (by simpa using h), if_pos (by simp)]
    simp only [siglumref03_ligs.j1]
    have := ligs_l1 [r] ⟨(ligB r).toArray⟩ (by omega) r 0 0 (k + 6) [r] (by rw [hsz, h]; rfl) (by simp)
    simp only [Int.natCast_zero] at this
    rw [show k + 6 + 0 + 2 = k + 8 by omega] at this
    refine this.trans ?_
    congr 1
    simp [bytesOf, h]
  · rw [if_neg (by simpa using h)]
    simp only [siglumref03_ligs.j1]
    have := ligs_l1 [r] ⟨(ligB r).toArray⟩ (by omega) r (ligB r).length 0 (k + 6 - (ligB r).length) [] (by rw [hsz]; omega) (by simp)
    simp only [Int.natCast_zero] at this
    rw [show k + 6 - (ligB r).length + (ligB r).length + 2 = k + 8 by omega] at this
    refine this.trans ?_
    rw [if_pos h]
    rfl
theorem tm2 (opt c : Int) (h0 : 0 ≤ opt) (h1 : opt ≤ 31) (hc : 0 < c) : Int.tmod (wrap64 (Int.tdiv opt c)) 2 = opt / c % 2 := by
  have h2 : 0 ≤ opt / c := Int.ediv_nonneg h0 (by omega)
  have h3 : opt / c ≤ opt := Int.ediv_le_self c h0
  rw [Int.tdiv_eq_ediv_of_nonneg h0, show wrap64 (opt / c) = opt / c by unfold wrap64; omega, Int.tmod_eq_emod_of_nonneg h2]
theorem tm1 (opt : Int) (h0 : 0 ≤ opt) : Int.tmod opt 2 = opt % 2 := Int.tmod_eq_emod_of_nonneg h0
theorem rd_app (a t : List Int) (x : Int) (i : Int) (h : i = (a.length : Int)) : rd (a ++ x :: t) i = x := by
  subst h
  rw [rdi _ _ (by simp)]
  simp
theorem set_app (a t : List Int) (x y : Int) (i : Int) (h : i = (a.length : Int)) : (a ++ x :: t).set i.toNat y = a ++ y :: t := by
  subst h
  simp
section
variable (opt : Int) (h0 : 0 ≤ opt) (h1 : opt ≤ 31)
include h0 h1
theorem rune_j5 (k : Nat) (hk : 100 ≤ k) (a t : List Int) (x : Int) (i : Nat) (hi : i = a.length) (hl : i ≤ 1000) :
    siglumref03_Rune.j5 (k + 1) opt (a ++ x :: t) (i : Int) = siglumref03_Rune.l0 k opt (a ++ (fun y => if decide (opt / 8 % 2 = 1) = true then letterI y else y) (if decide (opt / 2 % 2 = 1) = true then unmarkedI x else x) :: t) ((i + 1 : Nat) : Int) := by
  have hw : wrap64 ((i : Int) + 1) = ((i + 1 : Nat) : Int) := by unfold wrap64; omega
  have hia : (i : Int) = (a.length : Int) := by omega
  have hlen : (i : Int) < ((a ++ x :: t).length : Int) := by simp; omega
  simp only [siglumref03_Rune.j5, tm2 opt _ h0 h1 (by decide : (0 : Int) < 2), tm2 opt _ h0 h1 (by decide : (0 : Int) < 8), hw, rd_app a t _ _ hia, set_app a t _ _ _ hia, bare_f _ k hk, plain_f, Option.bind_some]
  by_cases u : opt / 2 % 2 = 1
  · rw [if_pos u, if_pos (by omega), if_pos hlen]
    by_cases l : opt / 8 % 2 = 1
    · rw [if_pos l]; simp [u, l]
    · rw [if_neg l]; simp [u, l]
  · rw [if_neg u]
    by_cases l : opt / 8 % 2 = 1
    · rw [if_pos l, if_pos (by omega), if_pos hlen]; simp [u, l]
    · rw [if_neg l]; simp [u, l]
theorem rune_step (k : Nat) (hk : 100 ≤ k) (a t : List Int) (x : Int) (i : Nat) (hi : i = a.length) (hl : i ≤ 1000) :
    siglumref03_Rune.l0 (k + 2) opt (a ++ x :: t) (i : Int) = siglumref03_Rune.l0 k opt (a ++ st (decide (opt % 2 = 1)) (decide (opt / 2 % 2 = 1)) (decide (opt / 8 % 2 = 1)) x :: t) ((i + 1 : Nat) : Int) := by
  have hia : (i : Int) = (a.length : Int) := by omega
  have hlen : (i : Int) < ((a ++ x :: t).length : Int) := by simp; omega
  simp only [siglumref03_Rune.l0, tm1 opt h0, rd_app a t _ _ hia, set_app a t _ _ _ hia, siglumref03_small.f, Option.bind_some]
  rw [if_pos hlen]
  by_cases l : opt % 2 = 1
  · rw [if_pos l, if_pos (by omega), rune_j5 opt h0 h1 k hk a t _ i hi hl]
    simp [st, l]
  · rw [if_neg l, rune_j5 opt h0 h1 k hk a t _ i hi hl]
    simp [st, l]
theorem rune_l0 : ∀ (t a : List Int) (k : Nat), 2 * t.length + 1100 ≤ k → a.length + t.length ≤ 900 →
    siglumref03_Rune.l0 k opt (a ++ t) (a.length : Int) = some (⟨((a ++ t.map (st (decide (opt % 2 = 1)) (decide (opt / 2 % 2 = 1)) (decide (opt / 8 % 2 = 1)))).flatMap encI).toArray⟩, 0) := by
  intro t
  induction t with
  | nil =>
    intro a k hk hl
    obtain ⟨k, rfl⟩ : ∃ k', k = k' + 1 := ⟨k - 1, by omega⟩
    simp only [List.length_nil] at hk hl
    simp only [siglumref03_Rune.l0, List.append_nil, List.map_nil]
    rw [if_neg (by omega), back_f a (by omega) k (by omega), flat_encZ, str_enc]
    rfl
  | cons x t ih =>
    intro a k hk hl
    simp only [List.length_cons] at hk hl
    obtain ⟨k, rfl⟩ : ∃ k', k = k' + 2 := ⟨k - 2, by omega⟩
    rw [rune_step opt h0 h1 k (by omega) a t x a.length rfl (by omega)]
    have := ih (a ++ [st (decide (opt % 2 = 1)) (decide (opt / 2 % 2 = 1)) (decide (opt / 8 % 2 = 1)) x]) k (by omega) (by simp; omega)
    simp only [List.append_assoc, List.cons_append, List.nil_append, List.length_append, List.length_cons, List.length_nil] at this
    rw [List.map_cons]
    exact this
theorem rune_ref (r : Int) (k : Nat) (hk : 1200 ≤ k) : siglumref03_Rune.f k r opt = some (⟨(foldR (kindI r) r opt).toArray⟩, 0) := by
  obtain ⟨k, rfl⟩ : ∃ k', k = k' + 1110 + 4 := ⟨k - 1114, by omega⟩
  unfold siglumref03_Rune.f
  rw [if_neg (by omega), show decide (opt > 31) = false by simp; omega]
  have t2 := tm2 opt 2 h0 h1 (by decide)
  have t4 := tm2 opt 4 h0 h1 (by decide)
  have t16 := tm2 opt 16 h0 h1 (by decide)
  have sJ : ∀ K : List Int → Option (ByteArray × Int), (if (Int.tmod (wrap64 (Int.tdiv opt 16)) 2) = 1 then ((siglumref03_drop.f (k + 1110 + 3) [r] 4).bind fun t => K t) else K [r]) = K (if (decide (opt / 16 % 2 = 1) && kindI r == 4) = true then [] else [r]) := by
    intro K
    rw [t16]
    by_cases b : opt / 16 % 2 = 1
    · rw [if_pos b, drop_one]
      by_cases c : kindX r = 4
      · simp [b, c]
      · simp [b, c]
    · rw [if_neg b]
      simp [b]
  have sU : ∀ (K : List Int → Option (ByteArray × Int)) (d : Bool), (if (Int.tmod (wrap64 (Int.tdiv opt 2)) 2) = 1 then ((siglumref03_drop.f (k + 1110 + 2) (if d = true then [] else [r]) 2).bind fun t => K t) else K (if d = true then [] else [r])) = K (if (d || (decide (opt / 2 % 2 = 1) && kindI r == 2)) = true then [] else [r]) := by
    intro K d
    rw [t2]
    by_cases b : opt / 2 % 2 = 1
    · rw [if_pos b]
      cases d with
      | true => rw [if_pos rfl, drop_nil]; simp
      | false =>
        rw [if_neg (by decide), drop_one]
        by_cases c : kindX r = 2
        · simp [b, c]
        · simp [b, c]
    · rw [if_neg b]
      cases d <;> simp [b]
  have sG : ∀ (K : List Int → Option (ByteArray × Int)) (d : Bool), (if (Int.tmod (wrap64 (Int.tdiv opt 4)) 2) = 1 then ((siglumref03_ligs.f (k + 1110 + 1) (if d = true then [] else [r])).bind fun t => K t) else K (if d = true then [] else [r])) = K (if d = true then [] else if decide (opt / 4 % 2 = 1) = true ∧ ligB r ≠ [] then (ligB r).map (fun b => (b.toNat : Int)) else [r]) := by
    intro K d
    rw [t4]
    by_cases b : opt / 4 % 2 = 1
    · rw [if_pos b]
      cases d with
      | true => rw [if_pos rfl, ligs_nil]; simp
      | false =>
        rw [if_neg (by decide), show k + 1110 + 1 = (k + 1101) + 10 by omega, ligs_one]
        by_cases c : ligB r = []
        · simp [b, c]
        · simp [b, c]
    · rw [if_neg b]
      cases d <;> simp [b]
  simp only [siglumref03_Rune.j0, Bool.false_eq_true, if_false, Option.bind_some]
  rw [sJ (fun l => siglumref03_Rune.j1 (k + 1110 + 3) opt l)]
  simp only [siglumref03_Rune.j1]
  rw [sU (fun l => siglumref03_Rune.j2 (k + 1110 + 2) opt l)]
  simp only [siglumref03_Rune.j2]
  rw [sG (fun l => siglumref03_Rune.j3 (k + 1110 + 1) opt l)]
  simp only [siglumref03_Rune.j3]
  rw [foldR_out]
  have hlg := lig_len r
  have fin : ∀ l : List Int, l.length ≤ 3 → siglumref03_Rune.l0 (k + 1110) opt l 0 = some (⟨((l.map (st (decide (opt % 2 = 1)) (decide (opt / 2 % 2 = 1)) (decide (opt / 8 % 2 = 1)))).flatMap encI).toArray⟩, 0) := by
    intro l hl
    have := rune_l0 opt h0 h1 l [] (k + 1110) (by omega) (by simp; omega)
    simpa using this
  rw [fin _ (by repeat' split
                all_goals simp
                omega)]
  congr 4
  unfold outO out
  generalize ((decide (opt / 16 % 2 = 1) && kindI r == 4) || (decide (opt / 2 % 2 = 1) && kindI r == 2)) = D
  cases D with
  | true => rfl
  | false =>
    simp only [Bool.false_eq_true, if_false]
    by_cases c : decide (opt / 4 % 2 = 1) = true ∧ ligB r ≠ []
    · rw [if_pos c, if_pos c, List.map_map]; rfl
    · rw [if_neg c, if_neg c]; rfl
end
end Go.Proofs.YtblpiceallbfjaaDoor.Pr
/- FoldTexts, the plain law: at every text and every sum the program's folding is the document's, and Same is to be folded the same. -/
set_option linter.unusedVariables false
namespace Go.Proofs.YtblpiceallbfjaaDoor.Pr
open Go.RowKit Go.Proofs.YtblpiceallbfjaaDoorW.PrintWords Go.Proofs.YtblpiceallbfjaaDoorW.PrintLast Go.Proofs.YtblpiceallbfjaaDoorW.PrintMore
theorem rd_cell (cs : List S67) (i : Nat) (h : i < cs.length) : rd_T67 cs (i : Int) = cs[i] := by simp [rd_T67, List.getD_eq_getElem?_getD, h]
theorem byte_nums (z : Int) (h0 : 0 ≤ z) (h1 : z ≤ 255) : [z] = ([z.toNat.toUInt8] : List UInt8).map fun b => (b.toNat : Int) := by
  have : z.toNat < 256 := by omega
  simp [Nat.toUInt8, UInt8.toNat_ofNat', Nat.mod_eq_of_lt this]
  omega
theorem text_l0 (opt : Int) (h0 : 0 ≤ opt) (h1 : opt ≤ 31) (cs : List S67) (hl : cs.length ≤ 1048576) (hc : ∀ c ∈ cs, 0 ≤ c.f4 ∧ c.f4 ≤ 255 ∧ 0 ≤ c.f2) : ∀ (d i k : Nat) (acc : List UInt8), i + d = cs.length → d + 1201 ≤ k → acc.length ≤ 12 * i →
    siglumref03_Text.l0 k opt (acc.map fun b => (b.toNat : Int)) cs (i : Int) = some (⟨(acc ++ textB opt (cs.drop i)).toArray⟩, 0) := by
  intro d
  induction d with
  | zero =>
    intro i k acc h hk ha
    obtain ⟨k, rfl⟩ : ∃ k', k = k' + 1 := ⟨k - 1, by omega⟩
    simp only [siglumref03_Text.l0]
    rw [if_neg (by omega), List.drop_of_length_le (by omega), str_enc]
    simp [textB]
  | succ d ih =>
    intro i k acc h hk ha
    obtain ⟨k, rfl⟩ : ∃ k', k = k' + 1 := ⟨k - 1, by omega⟩
    simp only [siglumref03_Text.l0]
    have hlt : i < cs.length := by omega
    rw [if_pos (by omega), if_pos (by omega), rd_cell cs i hlt, show wrap64 ((i : Int) + 1) = ((i + 1 : Nat) : Int) by unfold wrap64; omega, List.drop_eq_getElem_cons hlt]
    obtain ⟨c1, c2, c3⟩ := hc cs[i] (List.getElem_mem hlt)
    have hcl := cellB_len opt cs[i]
    have e := fun (x : List UInt8) (hx : x.length ≤ 12) => ih (i + 1) k (acc ++ x) (by omega) (by omega) (by rw [List.length_append]; omega)
    have ht : textB opt (cs[i] :: cs.drop (i + 1)) = cellB opt cs[i] ++ textB opt (cs.drop (i + 1)) := by unfold textB; rw [List.flatMap_cons]
    rw [ht]
    by_cases hb : cs[i].f3 = true
    · have hcb : cellB opt cs[i] = [cs[i].f4.toNat.toUInt8] := by unfold cellB; rw [if_pos hb]
      rw [if_pos hb, if_pos (by rw [List.length_map]; omega), byte_nums _ c1 c2, ← List.map_append, e _ (by simp), hcb, List.append_assoc]
    · have hcb : cellB opt cs[i] = foldR (kindI cs[i].f2) cs[i].f2 opt := by unfold cellB; rw [if_neg hb]
      have hlf := foldR_len (kindI cs[i].f2) cs[i].f2 opt
      rw [if_neg hb, rune_ref opt h0 h1 _ k (by omega)]
      simp only [Option.bind_some]
      rw [if_pos (by simp [ByteArray.size]; omega), show bytesOf ⟨(foldR (kindI cs[i].f2) cs[i].f2 opt).toArray⟩ = (foldR (kindI cs[i].f2) cs[i].f2 opt).map (fun b => (b.toNat : Int)) from rfl, ← List.map_append, e _ hlf, hcb, List.append_assoc]
theorem text_ref (s : ByteArray) (hs : s.size ≤ 1048576) (opt : Int) (h0 : 0 ≤ opt) (h1 : opt ≤ 31) (k : Nat) (hk : s.size + 1300 ≤ k) : siglumref03_Text.f k s opt = some (⟨(textB opt (cells s)).toArray⟩, 0) := by
  have hcl := cells_len s
  unfold siglumref03_Text.f
  rw [if_neg (by omega), show decide (opt > 31) = false by simp; omega]
  obtain ⟨k, rfl⟩ : ∃ k', k = k' + 1 := ⟨k - 1, by omega⟩
  simp only [siglumref03_Text.j0, Bool.false_eq_true, if_false]
  rw [refCells s (by omega) k (by omega)]
  simp only [Option.bind_some]
  have := text_l0 opt h0 h1 (cells s) (by omega) (cellsFrom_ok s s.size 0) (cells s).length 0 k [] (by omega) (by omega) (by simp)
  simpa using this
end Go.Proofs.YtblpiceallbfjaaDoor.Pr
