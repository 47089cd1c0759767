/- Texts of this claim, one behind the other, of each what the row uses: Pr18, ExtSmall. -/
import Derived.Test.YtblpiceallbfjaaDoorCt072
import Derived.Test.YtblpiceallbfjaaDoorCt076
import Derived.Test.YtblpiceallbfjaaDoorCt075
namespace Go.Proofs.YtblpiceallbfjaaDoor.Pr
open Go.RowKit Go.Proofs.YtblpiceallbfjaaDoorW.PrintWords Go.Proofs.YtblpiceallbfjaaDoorW.PrintLast Go.Proofs.YtblpiceallbfjaaDoorW.PrintMore
attribute [local go_sem] max2_int min2_int max_two min_two max_three min_three max_four min_four   -- for this text's walks alone
set_option linter.unusedVariables false
set_option linter.unusedSimpArgs false
attribute [local go_sem high] eqA87
def siglumlaw07_awake.f (k : Nat)  : Option (Bool) := (split_Words.f k (⟨#[45, 97, 32, 98]⟩ : ByteArray)).bind fun bt268 => (if bt268.1.toList = ([45] : List UInt8) then (if bt268.2.2 = 0 then (if (bt268.2.1.length : Int) = 2 then (if 0 < (bt268.2.1.length : Int) then (if ((((rd_T87 bt268.2.1 0).f0).toList) == ([97] : List UInt8) && ((((rd_T87 bt268.2.1 0).f1).toList) == ([32] : List UInt8))) = true then (if 1 < (bt268.2.1.length : Int) then (some ((((rd_T87 bt268.2.1 1).f0).toList) == ([98] : List UInt8) && ((((rd_T87 bt268.2.1 1).f1).toList) == ([] : List UInt8)))) else (none)) else (some false)) else (none)) else (some false)) else (some false)) else (some false))
theorem siglumlaw07_awake.mono : ∀ k, LeO (siglumlaw07_awake.f k ) (siglumlaw07_awake.f (k + 1) ) := by
  intro  k
  unfold siglumlaw07_awake.f
  repeat' first
      | (with_reducible exact split_Words.mono _ _)
      | (with_reducible exact LeO.refl _)
      | (with_reducible exact LeO.none _)
      | (with_reducible refine LeO.ite ?_ ?_)
      | (with_reducible refine LeO.bind ?_ (fun _ => ?_))
      | exact split_Words.mono _ _
      | exact LeO.none _
      | refine LeO.ite ?_ ?_
      | refine LeO.bind ?_ (fun _ => ?_)
set_option maxHeartbeats 8000000 in
set_option maxRecDepth 100000 in
theorem siglumlaw07_awake.calls (k : Nat)  (r : Bool) (w : World) (hG : Gu w) (h : siglumlaw07_awake.f k  = some r) :
    Calls Tryd.prog 20 #[] w fun e w' => e = .returned (.bool r) ∧ Below w.heap.size w w' := by
  have hu87 := Tryd.underlying87
  have HB := Aside0.mk (Below.refl w.heap.size w)
  have HG := Aside0.mk hG
  clear hG
  have H : ((split_Words.f k (⟨#[45, 97, 32, 98]⟩ : ByteArray)).bind fun bt268 => (if bt268.1.toList = ([45] : List UInt8) then (if bt268.2.2 = 0 then (if (bt268.2.1.length : Int) = 2 then (if 0 < (bt268.2.1.length : Int) then (if ((((rd_T87 bt268.2.1 0).f0).toList) == ([97] : List UInt8) && ((((rd_T87 bt268.2.1 0).f1).toList) == ([32] : List UInt8))) = true then (if 1 < (bt268.2.1.length : Int) then (some ((((rd_T87 bt268.2.1 1).f0).toList) == ([98] : List UInt8) && ((((rd_T87 bt268.2.1 1).f1).toList) == ([] : List UInt8)))) else (none)) else (some false)) else (none)) else (some false)) else (some false)) else (some false))) = some r := h
  clear h
  replace H := Option.bind_eq_some_iff.mp H
  obtain ⟨⟨t268, t269, t270⟩, A10, H⟩ := H
  replace H : (if t268.toList = ([45] : List UInt8) then (if t270 = 0 then (if (t269.length : Int) = 2 then (if 0 < (t269.length : Int) then (if ((((rd_T87 t269 0).f0).toList) == ([97] : List UInt8) && ((((rd_T87 t269 0).f1).toList) == ([32] : List UInt8))) = true then (if 1 < (t269.length : Int) then (some ((((rd_T87 t269 1).f0).toList) == ([98] : List UInt8) && ((((rd_T87 t269 1).f1).toList) == ([] : List UInt8)))) else (none)) else (some false)) else (none)) else (some false)) else (some false)) else (some false)) = some r := H
  have A1 := Aside0.mk A10
  clear A10
  by_cases c2 : t268.toList = ([45] : List UInt8)
  · rw [if_pos c2] at H
    have c2b0 : (t268.toList == ([45] : List UInt8)) = true := beq_iff_eq.mpr c2
    have c2b1 : (t268.toList != ([45] : List UInt8)) = false := bne_eq_false_iff_eq.mpr c2
    clear c2
    by_cases c3 : t270 = 0
    · rw [if_pos c3] at H
      have c3b0 : (t270 == 0) = true := beq_iff_eq.mpr c3
      have c3b1 : (t270 != 0) = false := bne_eq_false_iff_eq.mpr c3
      clear c3
      by_cases c4 : (t269.length : Int) = 2
      · rw [if_pos c4] at H
        have c4b0 : ((t269.length : Int) == 2) = true := beq_iff_eq.mpr c4
        have c4b1 : ((t269.length : Int) != 2) = false := bne_eq_false_iff_eq.mpr c4
        clear c4
        by_cases c5 : 0 < (t269.length : Int)
        · rw [if_pos c5] at H
          have c5b0 : decide (0 < (t269.length : Int)) = true := decide_eq_true c5
          have c5b1 : decide (0 < t269.length) = true := decide_eq_true (by omega)
          clear c5
          by_cases c6 : ((((rd_T87 t269 0).f0).toList) == ([97] : List UInt8) && ((((rd_T87 t269 0).f1).toList) == ([32] : List UInt8))) = true
          · rw [if_pos c6] at H
            have c6b0 : ((((rd_T87 t269 0).f0).toList) == ([97] : List UInt8) && ((((rd_T87 t269 0).f1).toList) == ([32] : List UInt8))) = true := c6
            (try (have c6b1 : decide ((((rd_T87 t269 0).f0).toList) = ([97] : List UInt8) && ((((rd_T87 t269 0).f1).toList) == ([32] : List UInt8))) = true := by simpa using c6))
            (try (have c6b2 : ((((rd_T87 t269 0).f0).toList) == ([97] : List UInt8) && ((((rd_T87 t269 0).f1).toList) == ([32] : List UInt8))) = true := by simpa using c6))
            clear c6
            by_cases c7 : 1 < (t269.length : Int)
            · rw [if_pos c7] at H
              have c7b0 : decide (1 < (t269.length : Int)) = true := decide_eq_true c7
              have c7b1 : decide (1 < t269.length) = true := decide_eq_true (by omega)
              clear c7
              obtain rfl := Option.some.inj H
              go_enter Tryd.func20, Tryd.ntmps20
              go_wp2_with (first | ((with_reducible refine gate_callee (f := 50) rfl ?_); refine goesL_ (some 5) rfl rfl Tryd.func50 (by kernel_rfl) rfl #[.string (⟨#[45, 97, 32, 98]⟩ : ByteArray)] rfl (by (try simp only [List.map_toArray, List.map_cons, List.map_nil]); first | done | rfl | (simp only [List.length_drop, List.length_take]; rfl)) ?_; (with_reducible refine (split_Words.calls k (⟨#[45, 97, 32, 98]⟩ : ByteArray) t268 t269 t270 _ ?side1 A1.out).mono ?_); (case side1 => exact Gu.below HG.out (by repeat (first | (with_reducible first | exact HB.out | apply below_alloc | apply pw_below_drewN | apply below_drew1) | exact HB.out))); rintro e w8 ⟨v271, rfl, ho0, hb⟩; refine ⟨_, rfl, ?_⟩; have n0_ := Aside0.mk (Kd.R_lower ho0 (below_size (by repeat (first | (with_reducible first | exact HB.out | apply below_alloc | apply pw_below_drewN | apply below_drew1) | exact HB.out)))); have n1_ := Aside0.mk (below_step (by repeat (first | (with_reducible first | exact HB.out | apply below_alloc | apply pw_below_drewN | apply below_drew1) | exact HB.out)) hb); clear HB; have HO272 := n0_; have HB := n1_; clear n0_ n1_; (try clear hb); (try clear hb2); (try clear hk); (try clear hi); (try clear ho0); obtain ⟨Ao9, co9, eo9⟩ := Kd.R_slice HO272.out; subst eo9; have p273 : 0 ≤ (0 : Int) := (by omega); have q273 : 0 < (t269.length : Int) := of_decide_eq_true (by first | (with_reducible assumption) | assumption); obtain ⟨ad273, e273, hx273_0, hx273_1⟩ := at_T87 (Kd.R_reads' HO272.out).2.2 0 p273 q273; cases e273; have qi273 : (0 < t269.length) = True := eq_true (by omega); (try rw [show ((0 : Int)).toNat = 0 from rfl] at hx273_0); (try rw [show 0 * 2 = 0 from rfl] at hx273_0); (try rw [Addr.add_zero'] at hx273_0); (try rw [show ((0 : Int)).toNat = 0 from rfl] at hx273_1); (try rw [show 0 * 2 = 0 from rfl] at hx273_1); (try rw [Addr.add_zero'] at hx273_1); replace p273 := eq_true p273; replace q273 := eq_true q273; have p274 : 0 ≤ (1 : Int) := (by omega); have q274 : 1 < (t269.length : Int) := of_decide_eq_true (by first | (with_reducible assumption) | assumption); obtain ⟨ad274, e274, hx274_0, hx274_1⟩ := at_T87 (Kd.R_reads' HO272.out).2.2 1 p274 q274; obtain rfl : ad273 = ad274 := (by injection e274); (try simp only [show (1 : Int).toNat = 1 from rfl, Nat.reduceMul, Nat.reduceEqDiff, Go.Addr.add, ↓reduceIte] at hx274_0); (try simp only [show (1 : Int).toNat = 1 from rfl, Nat.reduceMul, Nat.reduceEqDiff, Go.Addr.add, ↓reduceIte] at hx274_1); have qi274 : (1 < t269.length) = True := eq_true (by omega); (try rw [show ((1 : Int)).toNat = 1 from rfl] at hx274_0); (try rw [show 1 * 2 = 2 from rfl] at hx274_0); (try rw [show ((1 : Int)).toNat = 1 from rfl] at hx274_1); (try rw [show 1 * 2 = 2 from rfl] at hx274_1); replace p274 := eq_true p274; replace q274 := eq_true q274))
              go_ret
              exact ⟨by first | rfl | (simp [errW_none, errW_some] <;> rfl) | (simp [*, errW_none, errW_some] <;> rfl), by repeat (first | (with_reducible first | exact HB.out | apply below_alloc | apply pw_below_drewN | apply below_drew1) | exact HB.out)⟩
            · rw [if_neg c7] at H
              exact absurd H (by simp)
          · rw [if_neg c6] at H
            have c6b0 : ((((rd_T87 t269 0).f0).toList) == ([97] : List UInt8) && ((((rd_T87 t269 0).f1).toList) == ([32] : List UInt8))) = false := by simpa using c6
            (try (have c6b1 : decide ((((rd_T87 t269 0).f0).toList) = ([97] : List UInt8) && ((((rd_T87 t269 0).f1).toList) == ([32] : List UInt8))) = false := by simpa using c6))
            (try (have c6b2 : ((((rd_T87 t269 0).f0).toList) == ([97] : List UInt8) && ((((rd_T87 t269 0).f1).toList) == ([32] : List UInt8))) = false := by simpa using c6))
            (try (have c6b3 : ¬ ((((rd_T87 t269 0).f0).toList) = ([97] : List UInt8) && ((((rd_T87 t269 0).f1).toList) == ([32] : List UInt8))) := by simpa using c6))
            clear c6
            obtain rfl := Option.some.inj H
            go_enter Tryd.func20, Tryd.ntmps20
            go_wp2_with (first | ((with_reducible refine gate_callee (f := 50) rfl ?_); refine goesL_ (some 5) rfl rfl Tryd.func50 (by kernel_rfl) rfl #[.string (⟨#[45, 97, 32, 98]⟩ : ByteArray)] rfl (by (try simp only [List.map_toArray, List.map_cons, List.map_nil]); first | done | rfl | (simp only [List.length_drop, List.length_take]; rfl)) ?_; (with_reducible refine (split_Words.calls k (⟨#[45, 97, 32, 98]⟩ : ByteArray) t268 t269 t270 _ ?side1 A1.out).mono ?_); (case side1 => exact Gu.below HG.out (by repeat (first | (with_reducible first | exact HB.out | apply below_alloc | apply pw_below_drewN | apply below_drew1) | exact HB.out))); rintro e w10 ⟨v271, rfl, ho0, hb⟩; refine ⟨_, rfl, ?_⟩; have n0_ := Aside0.mk (Kd.R_lower ho0 (below_size (by repeat (first | (with_reducible first | exact HB.out | apply below_alloc | apply pw_below_drewN | apply below_drew1) | exact HB.out)))); have n1_ := Aside0.mk (below_step (by repeat (first | (with_reducible first | exact HB.out | apply below_alloc | apply pw_below_drewN | apply below_drew1) | exact HB.out)) hb); clear HB; have HO272 := n0_; have HB := n1_; clear n0_ n1_; (try clear hb); (try clear hb2); (try clear hk); (try clear hi); (try clear ho0); obtain ⟨Ao11, co11, eo11⟩ := Kd.R_slice HO272.out; subst eo11; have p273 : 0 ≤ (0 : Int) := (by omega); have q273 : 0 < (t269.length : Int) := of_decide_eq_true (by first | (with_reducible assumption) | assumption); obtain ⟨ad273, e273, hx273_0, hx273_1⟩ := at_T87 (Kd.R_reads' HO272.out).2.2 0 p273 q273; cases e273; have qi273 : (0 < t269.length) = True := eq_true (by omega); (try rw [show ((0 : Int)).toNat = 0 from rfl] at hx273_0); (try rw [show 0 * 2 = 0 from rfl] at hx273_0); (try rw [Addr.add_zero'] at hx273_0); (try rw [show ((0 : Int)).toNat = 0 from rfl] at hx273_1); (try rw [show 0 * 2 = 0 from rfl] at hx273_1); (try rw [Addr.add_zero'] at hx273_1); replace p273 := eq_true p273; replace q273 := eq_true q273))
            go_ret
            exact ⟨by first | rfl | (simp [errW_none, errW_some] <;> rfl) | (simp [*, errW_none, errW_some] <;> rfl), by repeat (first | (with_reducible first | exact HB.out | apply below_alloc | apply pw_below_drewN | apply below_drew1) | exact HB.out)⟩
        · rw [if_neg c5] at H
          exact absurd H (by simp)
      · rw [if_neg c4] at H
        have c4b0 : ((t269.length : Int) == 2) = false := beq_eq_false_iff_ne.mpr c4
        have c4b1 : ((t269.length : Int) != 2) = true := bne_iff_ne.mpr c4
        obtain rfl := Option.some.inj H
        go_enter Tryd.func20, Tryd.ntmps20
        go_wp2_with (first | ((with_reducible refine gate_callee (f := 50) rfl ?_); refine goesL_ (some 5) rfl rfl Tryd.func50 (by kernel_rfl) rfl #[.string (⟨#[45, 97, 32, 98]⟩ : ByteArray)] rfl (by (try simp only [List.map_toArray, List.map_cons, List.map_nil]); first | done | rfl | (simp only [List.length_drop, List.length_take]; rfl)) ?_; (with_reducible refine (split_Words.calls k (⟨#[45, 97, 32, 98]⟩ : ByteArray) t268 t269 t270 _ ?side1 A1.out).mono ?_); (case side1 => exact Gu.below HG.out (by repeat (first | (with_reducible first | exact HB.out | apply below_alloc | apply pw_below_drewN | apply below_drew1) | exact HB.out))); rintro e w12 ⟨v271, rfl, ho0, hb⟩; refine ⟨_, rfl, ?_⟩; have n0_ := Aside0.mk (Kd.R_lower ho0 (below_size (by repeat (first | (with_reducible first | exact HB.out | apply below_alloc | apply pw_below_drewN | apply below_drew1) | exact HB.out)))); have n1_ := Aside0.mk (below_step (by repeat (first | (with_reducible first | exact HB.out | apply below_alloc | apply pw_below_drewN | apply below_drew1) | exact HB.out)) hb); clear HB; have HO272 := n0_; have HB := n1_; clear n0_ n1_; (try clear hb); (try clear hb2); (try clear hk); (try clear hi); (try clear ho0); obtain ⟨Ao13, co13, eo13⟩ := Kd.R_slice HO272.out; subst eo13))
        go_ret
        exact ⟨by first | rfl | (simp [errW_none, errW_some] <;> rfl) | (simp [*, errW_none, errW_some] <;> rfl), by repeat (first | (with_reducible first | exact HB.out | apply below_alloc | apply pw_below_drewN | apply below_drew1) | exact HB.out)⟩
    · rw [if_neg c3] at H
      have c3b0 : (t270 == 0) = false := beq_eq_false_iff_ne.mpr c3
      have c3b1 : (t270 != 0) = true := bne_iff_ne.mpr c3
      obtain rfl := Option.some.inj H
      go_enter Tryd.func20, Tryd.ntmps20
      go_wp2_with (first | ((with_reducible refine gate_callee (f := 50) rfl ?_); refine goesL_ (some 5) rfl rfl Tryd.func50 (by kernel_rfl) rfl #[.string (⟨#[45, 97, 32, 98]⟩ : ByteArray)] rfl (by (try simp only [List.map_toArray, List.map_cons, List.map_nil]); first | done | rfl | (simp only [List.length_drop, List.length_take]; rfl)) ?_; (with_reducible refine (split_Words.calls k (⟨#[45, 97, 32, 98]⟩ : ByteArray) t268 t269 t270 _ ?side1 A1.out).mono ?_); (case side1 => exact Gu.below HG.out (by repeat (first | (with_reducible first | exact HB.out | apply below_alloc | apply pw_below_drewN | apply below_drew1) | exact HB.out))); rintro e w14 ⟨v271, rfl, ho0, hb⟩; refine ⟨_, rfl, ?_⟩; have n0_ := Aside0.mk (Kd.R_lower ho0 (below_size (by repeat (first | (with_reducible first | exact HB.out | apply below_alloc | apply pw_below_drewN | apply below_drew1) | exact HB.out)))); have n1_ := Aside0.mk (below_step (by repeat (first | (with_reducible first | exact HB.out | apply below_alloc | apply pw_below_drewN | apply below_drew1) | exact HB.out)) hb); clear HB; have HO272 := n0_; have HB := n1_; clear n0_ n1_; (try clear hb); (try clear hb2); (try clear hk); (try clear hi); (try clear ho0)))
      go_ret
      exact ⟨by first | rfl | (simp [errW_none, errW_some] <;> rfl) | (simp [*, errW_none, errW_some] <;> rfl), by repeat (first | (with_reducible first | exact HB.out | apply below_alloc | apply pw_below_drewN | apply below_drew1) | exact HB.out)⟩
  · rw [if_neg c2] at H
    have c2b0 : (t268.toList == ([45] : List UInt8)) = false := beq_eq_false_iff_ne.mpr c2
    have c2b1 : (t268.toList != ([45] : List UInt8)) = true := bne_iff_ne.mpr c2
    obtain rfl := Option.some.inj H
    go_enter Tryd.func20, Tryd.ntmps20
    go_wp2_with (first | ((with_reducible refine gate_callee (f := 50) rfl ?_); refine goesL_ (some 5) rfl rfl Tryd.func50 (by kernel_rfl) rfl #[.string (⟨#[45, 97, 32, 98]⟩ : ByteArray)] rfl (by (try simp only [List.map_toArray, List.map_cons, List.map_nil]); first | done | rfl | (simp only [List.length_drop, List.length_take]; rfl)) ?_; (with_reducible refine (split_Words.calls k (⟨#[45, 97, 32, 98]⟩ : ByteArray) t268 t269 t270 _ ?side1 A1.out).mono ?_); (case side1 => exact Gu.below HG.out (by repeat (first | (with_reducible first | exact HB.out | apply below_alloc | apply pw_below_drewN | apply below_drew1) | exact HB.out))); rintro e w15 ⟨v271, rfl, ho0, hb⟩; refine ⟨_, rfl, ?_⟩; have n0_ := Aside0.mk (Kd.R_lower ho0 (below_size (by repeat (first | (with_reducible first | exact HB.out | apply below_alloc | apply pw_below_drewN | apply below_drew1) | exact HB.out)))); have n1_ := Aside0.mk (below_step (by repeat (first | (with_reducible first | exact HB.out | apply below_alloc | apply pw_below_drewN | apply below_drew1) | exact HB.out)) hb); clear HB; have HO272 := n0_; have HB := n1_; clear n0_ n1_; (try clear hb); (try clear hb2); (try clear hk); (try clear hi); (try clear ho0)))
    go_ret
    exact ⟨by first | rfl | (simp [errW_none, errW_some] <;> rfl) | (simp [*, errW_none, errW_some] <;> rfl), by repeat (first | (with_reducible first | exact HB.out | apply below_alloc | apply pw_below_drewN | apply below_drew1) | exact HB.out)⟩
def api_Word.l0 : Nat → List (S87) → List (S87) → Int → Int → Option (Bool)
  | 0, _, _, _, _ => none
  | k + 1, x0, x1, x12, x13 => if x13 < x12 then (if 0 ≤ x13 then (if x13 < (x0.length : Int) then (if x13 < (x1.length : Int) then (if (!((((rd_T87 x0 x13).f0).toList) == (((rd_T87 x1 x13).f0).toList)) || (!((((rd_T87 x0 x13).f1).toList) == (((rd_T87 x1 x13).f1).toList)))) = true then (some false) else (api_Word.l0 k x0 x1 x12 (wrap64 (x13 + 1)))) else (none)) else (none)) else (none)) else (some true)
def api_Word.f (k : Nat) (l0 : List (S87)) (l1 : List (S87)) : Option (Bool) := if (l0.length : Int) = (l1.length : Int) then (api_Word.l0 k l0 l1 (l0.length : Int) 0) else (some false)
theorem api_Word.mono_l : ∀ k, (∀ y0 y1 y2 y3, LeO (api_Word.l0 k y0 y1 y2 y3) (api_Word.l0 (k + 1) y0 y1 y2 y3))
  | 0 => fun _ _ _ _ r h => by simp [api_Word.l0] at h
  | k + 1 => by
    have ih0 := api_Word.mono_l k
    · intro y0 y1 y2 y3
      unfold api_Word.l0
      repeat' first
      | (with_reducible exact ih0 _ _ _ _)
      | (with_reducible exact LeO.refl _)
      | (with_reducible exact LeO.none _)
      | (with_reducible refine LeO.ite ?_ ?_)
      | (with_reducible refine LeO.bind ?_ (fun _ => ?_))
      | exact ih0 _ _ _ _
      | exact LeO.none _
      | refine LeO.ite ?_ ?_
      | refine LeO.bind ?_ (fun _ => ?_)
theorem api_Word.mono : ∀ a0 a1 k, LeO (api_Word.f k a0 a1) (api_Word.f (k + 1) a0 a1) := by
  intro a0 a1 k
  have ih0 := api_Word.mono_l k
  unfold api_Word.f
  repeat' first
      | (with_reducible exact ih0 _ _ _ _)
      | (with_reducible exact LeO.refl _)
      | (with_reducible exact LeO.none _)
      | (with_reducible refine LeO.ite ?_ ?_)
      | (with_reducible refine LeO.bind ?_ (fun _ => ?_))
      | exact ih0 _ _ _ _
      | exact LeO.none _
      | refine LeO.ite ?_ ?_
      | refine LeO.bind ?_ (fun _ => ?_)
set_option maxHeartbeats 8000000 in
set_option maxRecDepth 100000 in
theorem api_Word.calls (k : Nat) (A0 : Option Addr) (c0 : Nat) (l0 : List (S87)) (A1 : Option Addr) (c1 : Nat) (l1 : List (S87)) (r : Bool) (w : World) (hr0 : Kd.C k87 w A0 l0.length l0) (hc0 : l0.length ≤ c0) (hr1 : Kd.C k87 w A1 l1.length l1) (hc1 : l1.length ≤ c1) (h : api_Word.f k l0 l1 = some r) :
    Calls Tryd.prog 52 #[.slice A0 l0.length c0, .slice A1 l1.length c1] w fun e w' => e = .returned (.bool r) ∧ Drawn0 w w' := by
  have hu87 := Tryd.underlying87
  have HR0 := Aside0.mk hr0
  have HC0 := Aside0.mk hc0
  clear hr0 hc0
  have HR1 := Aside0.mk hr1
  have HC1 := Aside0.mk hc1
  clear hr1 hc1
  have H : (if (l0.length : Int) = (l1.length : Int) then (api_Word.l0 k l0 l1 (l0.length : Int) 0) else (some false)) = some r := h
  clear h
  by_cases c3 : (l0.length : Int) = (l1.length : Int)
  · rw [if_pos c3] at H
    have c3b0 : ((l0.length : Int) == (l1.length : Int)) = true := beq_iff_eq.mpr c3
    have c3b1 : ((l0.length : Int) != (l1.length : Int)) = false := bne_eq_false_iff_eq.mpr c3
    have c3b2 : (l0.length == l1.length) = true := by first | simpa using c3 | (simp at c3 ⊢; omega)
    clear c3
    have H' := Aside0.mk H
    clear H
    go_enter Tryd.func52, Tryd.ntmps52
    go_wp2
    repeat (go_quiet (fail); try go_wp2)
    go_loopg [13] k (fun kq v13 w' => ∃ (x13_1 : Int), v13 = .int .i64 x13_1 ∧ Aside0 (api_Word.l0 kq l0 l1 (l0.length : Int) x13_1 = some r) ∧ Aside0 (kq ≤ k) ∧ Drawn0 w w')
    case atStart => exact ⟨(0), (by first | rfl | (simp; done) | (simp [*]; done)), H', ⟨Nat.le_refl _⟩, by repeat (first | exact Drawn0.refl _ | apply Drawn0.step)⟩
    case round =>
      clear H'
      try clear c1
      try clear p2
      try clear c3
      try clear c3b0
      try clear c3b1
      try clear c3b2
      obtain ⟨x13_1, rfl, HA, HK1, ⟨m1, rfl⟩⟩ := hrel
      cases gk with
      | zero => exact absurd HA.out (by simp [api_Word.l0])
      | succ k1 =>
        have H := HA.out
        clear HA
        simp only [api_Word.l0] at H
        by_cases c4 : x13_1 < (l0.length : Int)
        · rw [if_pos c4] at H
          have c4b0 : decide (x13_1 < (l0.length : Int)) = true := decide_eq_true c4
          clear c4
          by_cases c5 : 0 ≤ x13_1
          · rw [if_pos c5] at H
            have c5b0 : decide (0 ≤ x13_1) = true := decide_eq_true c5
            clear c5
            by_cases c6 : x13_1 < (l0.length : Int)
            · rw [if_pos c6] at H
              have c6b0 : decide (x13_1 < (l0.length : Int)) = true := decide_eq_true c6
              clear c6
              by_cases c7 : x13_1 < (l1.length : Int)
              · rw [if_pos c7] at H
                have c7b0 : decide (x13_1 < (l1.length : Int)) = true := decide_eq_true c7
                clear c7
                by_cases c8 : (!((((rd_T87 l0 x13_1).f0).toList) == (((rd_T87 l1 x13_1).f0).toList)) || (!((((rd_T87 l0 x13_1).f1).toList) == (((rd_T87 l1 x13_1).f1).toList)))) = true
                · rw [if_pos c8] at H
                  have c8b0 : (!((((rd_T87 l0 x13_1).f0).toList) == (((rd_T87 l1 x13_1).f0).toList)) || (!((((rd_T87 l0 x13_1).f1).toList) == (((rd_T87 l1 x13_1).f1).toList)))) = true := c8
                  clear c8
                  obtain rfl := Option.some.inj H
                  have p275 : 0 ≤ (x13_1 : Int) := of_decide_eq_true (by first | (with_reducible assumption) | assumption)
                  have q275 : x13_1 < (l0.length : Int) := of_decide_eq_true (by first | (with_reducible assumption) | assumption)
                  obtain ⟨ad275, e275, hx275_0, hx275_1⟩ := at_T87 HR0.out x13_1 p275 q275
                  cases e275
                  replace p275 := eq_true p275
                  replace q275 := eq_true q275
                  have p276 : 0 ≤ (x13_1 : Int) := of_decide_eq_true (by first | (with_reducible assumption) | assumption)
                  have q276 : x13_1 < (l1.length : Int) := of_decide_eq_true (by first | (with_reducible assumption) | assumption)
                  obtain ⟨ad276, e276, hx276_0, hx276_1⟩ := at_T87 HR1.out x13_1 p276 q276
                  cases e276
                  replace p276 := eq_true p276
                  replace q276 := eq_true q276
                  go_wp2
                  repeat (go_quiet (fail); try go_wp2)
                  go_ret
                  exact ⟨by first | rfl | (simp; done) | (simp [*]; done), by repeat (first | exact Drawn0.refl _ | apply Drawn0.step)⟩
                · rw [if_neg c8] at H
                  have c8b0 : (!((((rd_T87 l0 x13_1).f0).toList) == (((rd_T87 l1 x13_1).f0).toList)) || (!((((rd_T87 l0 x13_1).f1).toList) == (((rd_T87 l1 x13_1).f1).toList)))) = false := by simpa using c8
                  clear c8
                  have H' := Aside0.mk H
                  clear H
                  have p275 : 0 ≤ (x13_1 : Int) := of_decide_eq_true (by first | (with_reducible assumption) | assumption)
                  have q275 : x13_1 < (l0.length : Int) := of_decide_eq_true (by first | (with_reducible assumption) | assumption)
                  obtain ⟨ad275, e275, hx275_0, hx275_1⟩ := at_T87 HR0.out x13_1 p275 q275
                  cases e275
                  replace p275 := eq_true p275
                  replace q275 := eq_true q275
                  have p276 : 0 ≤ (x13_1 : Int) := of_decide_eq_true (by first | (with_reducible assumption) | assumption)
                  have q276 : x13_1 < (l1.length : Int) := of_decide_eq_true (by first | (with_reducible assumption) | assumption)
                  obtain ⟨ad276, e276, hx276_0, hx276_1⟩ := at_T87 HR1.out x13_1 p276 q276
                  cases e276
                  replace p276 := eq_true p276
                  replace q276 := eq_true q276
                  go_wp2
                  repeat (go_quiet (fail); try go_wp2)
                  go_roundg k1
                  case measure => have := HK1.out; omega
                  case rel => exact ⟨(wrap64 (x13_1 + 1)), (by first | rfl | (simp; done) | (simp [*]; done)), H', ⟨by have := HK1.out; omega⟩, by repeat (first | exact Drawn0.refl _ | apply Drawn0.step)⟩
              · rw [if_neg c7] at H
                exact absurd H (by simp)
            · rw [if_neg c6] at H
              exact absurd H (by simp)
          · rw [if_neg c5] at H
            exact absurd H (by simp)
        · rw [if_neg c4] at H
          have c4b0 : decide (x13_1 < (l0.length : Int)) = false := decide_eq_false c4
          clear c4
          obtain rfl := Option.some.inj H
          go_wp2
          repeat (go_quiet (fail); try go_wp2)
          go_ret
          exact ⟨by first | rfl | (simp; done) | (simp [*]; done), by repeat (first | exact Drawn0.refl _ | apply Drawn0.step)⟩
  · rw [if_neg c3] at H
    have c3b0 : ((l0.length : Int) == (l1.length : Int)) = false := beq_eq_false_iff_ne.mpr c3
    have c3b1 : ((l0.length : Int) != (l1.length : Int)) = true := bne_iff_ne.mpr c3
    have c3b2 : (l0.length == l1.length) = false := by first | simpa using c3 | (simp at c3 ⊢; omega)
    obtain rfl := Option.some.inj H
    go_enter Tryd.func52, Tryd.ntmps52
    go_wp2
    repeat (go_quiet (fail); try go_wp2)
    go_ret
    exact ⟨by first | rfl | (simp; done) | (simp [*]; done), by repeat (first | exact Drawn0.refl _ | apply Drawn0.step)⟩
def split_Right.f (k : Nat) (a0 : ByteArray) (l1 : List (S87)) : Option (Bool) := (split_Join.f a0 l1).bind fun t277 => ((split_Words.f k t277).bind fun bt278 => (if bt278.2.2 = 0 then (if bt278.1.toList = a0.toList then ((api_Word.f k bt278.2.1 l1).bind fun t283 => (some t283)) else (some false)) else (some false)))
theorem split_Right.mono : ∀ a0 a1 k, LeO (split_Right.f k a0 a1) (split_Right.f (k + 1) a0 a1) := by
  intro a0 a1 k
  unfold split_Right.f
  repeat' first
      | (with_reducible exact api_Word.mono _ _ _)
      | (with_reducible exact split_Words.mono _ _)
      | (with_reducible exact LeO.refl _)
      | (with_reducible exact LeO.none _)
      | (with_reducible refine LeO.ite ?_ ?_)
      | (with_reducible refine LeO.bind ?_ (fun _ => ?_))
      | exact api_Word.mono _ _ _
      | exact split_Words.mono _ _
      | exact LeO.none _
      | refine LeO.ite ?_ ?_
      | refine LeO.bind ?_ (fun _ => ?_)
set_option maxHeartbeats 8000000 in
set_option maxRecDepth 100000 in
theorem split_Right.calls (k : Nat) (a0 : ByteArray) (A1 : Option Addr) (c1 : Nat) (l1 : List (S87)) (r : Bool) (w : World) (hr1 : Kd.C k87 w A1 l1.length l1) (hc1 : l1.length ≤ c1) (hG : Gu w) (h : split_Right.f k a0 l1 = some r) :
    Calls Tryd.prog 23 #[.string a0, .slice A1 l1.length c1] w fun e w' => e = .returned (.bool r) ∧ Below w.heap.size w w' := by
  have HR1 := Aside0.mk hr1
  have HC1 := Aside0.mk hc1
  clear hr1 hc1
  have HB := Aside0.mk (Below.refl w.heap.size w)
  have HG := Aside0.mk hG
  clear hG
  have H : ((split_Join.f a0 l1).bind fun t277 => ((split_Words.f k t277).bind fun bt278 => (if bt278.2.2 = 0 then (if bt278.1.toList = a0.toList then ((api_Word.f k bt278.2.1 l1).bind fun t283 => (some t283)) else (some false)) else (some false)))) = some r := h
  clear h
  replace H := Option.bind_eq_some_iff.mp H
  obtain ⟨t277, A30, H⟩ := H
  replace H : ((split_Words.f k t277).bind fun bt278 => (if bt278.2.2 = 0 then (if bt278.1.toList = a0.toList then ((api_Word.f k bt278.2.1 l1).bind fun t283 => (some t283)) else (some false)) else (some false))) = some r := H
  have A3 := Aside0.mk A30
  clear A30
  replace H := Option.bind_eq_some_iff.mp H
  obtain ⟨⟨t278, t279, t280⟩, A40, H⟩ := H
  replace H : (if t280 = 0 then (if t278.toList = a0.toList then ((api_Word.f k t279 l1).bind fun t283 => (some t283)) else (some false)) else (some false)) = some r := H
  have A4 := Aside0.mk A40
  clear A40
  by_cases c5 : t280 = 0
  · rw [if_pos c5] at H
    have c5b0 : (t280 == 0) = true := beq_iff_eq.mpr c5
    have c5b1 : (t280 != 0) = false := bne_eq_false_iff_eq.mpr c5
    clear c5
    by_cases c6 : t278.toList = a0.toList
    · rw [if_pos c6] at H
      have c6b0 : (t278.toList == a0.toList) = true := beq_iff_eq.mpr c6
      have c6b1 : (t278.toList != a0.toList) = false := bne_eq_false_iff_eq.mpr c6
      clear c6
      replace H := Option.bind_eq_some_iff.mp H
      obtain ⟨t283, A70, H⟩ := H
      replace H : (some t283) = some r := H
      have A7 := Aside0.mk A70
      clear A70
      obtain rfl := Option.some.inj H
      go_enter Tryd.func23, Tryd.ntmps23
      go_wp2_with (first | ((with_reducible refine gate_callee (f := 21) rfl ?_); refine goesL_ (some 11) rfl rfl Tryd.func21 (by kernel_rfl) rfl #[.string a0, .slice A1 l1.length c1] rfl (by (try simp only [List.map_toArray, List.map_cons, List.map_nil]); first | done | rfl | (simp only [List.length_drop, List.length_take]; rfl)) ?_; (with_reducible refine (split_Join.calls a0 _ _ l1 t277 _ ?side1 ?side2 A3.out).mono ?_); (case side1 => repeat (first | exact HR1.out | (with_reducible refine Kd.C_alloc ?_ _) | (with_reducible refine Kd.C_drewN ?_ _) | (with_reducible refine Kd.C_drew ?_))); (case side2 => exact HC1.out); rintro e w8 ⟨rfl, hb⟩; refine ⟨_, rfl, ?_⟩; have n0_ := Aside0.mk (below_step (by repeat (first | (with_reducible first | exact HB.out | apply below_alloc | apply pw_below_drewN | apply below_drew1) | exact HB.out)) hb); clear HB; have HB := n0_; clear n0_; (try clear hb); (try clear hb2); (try clear hk); (try clear hi)) | ((with_reducible refine gate_callee (f := 50) rfl ?_); refine goesL_ (some 12) rfl rfl Tryd.func50 (by kernel_rfl) rfl #[.string t277] rfl (by (try simp only [List.map_toArray, List.map_cons, List.map_nil]); first | done | rfl | (simp only [List.length_drop, List.length_take]; rfl)) ?_; (with_reducible refine (split_Words.calls k t277 t278 t279 t280 _ ?side1 A4.out).mono ?_); (case side1 => exact Gu.below HG.out (by repeat (first | (with_reducible first | exact HB.out | apply below_alloc | apply pw_below_drewN | apply below_drew1) | exact HB.out))); rintro e w9 ⟨v281, rfl, ho0, hb⟩; refine ⟨_, rfl, ?_⟩; have n0_ := Aside0.mk (Kd.R_lower ho0 (below_size (by repeat (first | (with_reducible first | exact HB.out | apply below_alloc | apply pw_below_drewN | apply below_drew1) | exact HB.out)))); have n1_ := Aside0.mk (below_step (by repeat (first | (with_reducible first | exact HB.out | apply below_alloc | apply pw_below_drewN | apply below_drew1) | exact HB.out)) hb); clear HB; have HO282 := n0_; have HB := n1_; clear n0_ n1_; (try clear hb); (try clear hb2); (try clear hk); (try clear hi); (try clear ho0); obtain ⟨Ao10, co10, eo10⟩ := Kd.R_slice HO282.out; subst eo10) | (go_at_call 52; (with_reducible refine (api_Word.calls k _ _ t279 _ _ l1 t283 _ ?side1 ?side2 ?side3 ?side4 A7.out).mono ?_); (case side1 => repeat (first | exact (Kd.R_reads' HO282.out).2.2 | (with_reducible refine Kd.C_alloc ?_ _) | (with_reducible refine Kd.C_drewN ?_ _) | (with_reducible refine Kd.C_drew ?_))); (case side2 => exact (Kd.R_reads' HO282.out).2.1); (case side3 => repeat (first | exact (Kd.C_below HR1.out HB.out) | (with_reducible refine Kd.C_alloc ?_ _) | (with_reducible refine Kd.C_drewN ?_ _) | (with_reducible refine Kd.C_drew ?_))); (case side4 => exact HC1.out); rintro e w' ⟨rfl, ⟨nd, rfl⟩⟩))
      go_ret
      exact ⟨by first | rfl | (simp [errW_none, errW_some] <;> rfl) | (simp [*, errW_none, errW_some] <;> rfl), by repeat (first | (with_reducible first | exact HB.out | apply below_alloc | apply pw_below_drewN | apply below_drew1) | exact HB.out)⟩
    · rw [if_neg c6] at H
      have c6b0 : (t278.toList == a0.toList) = false := beq_eq_false_iff_ne.mpr c6
      have c6b1 : (t278.toList != a0.toList) = true := bne_iff_ne.mpr c6
      obtain rfl := Option.some.inj H
      go_enter Tryd.func23, Tryd.ntmps23
      go_wp2_with (first | ((with_reducible refine gate_callee (f := 21) rfl ?_); refine goesL_ (some 11) rfl rfl Tryd.func21 (by kernel_rfl) rfl #[.string a0, .slice A1 l1.length c1] rfl (by (try simp only [List.map_toArray, List.map_cons, List.map_nil]); first | done | rfl | (simp only [List.length_drop, List.length_take]; rfl)) ?_; (with_reducible refine (split_Join.calls a0 _ _ l1 t277 _ ?side1 ?side2 A3.out).mono ?_); (case side1 => repeat (first | exact HR1.out | (with_reducible refine Kd.C_alloc ?_ _) | (with_reducible refine Kd.C_drewN ?_ _) | (with_reducible refine Kd.C_drew ?_))); (case side2 => exact HC1.out); rintro e w11 ⟨rfl, hb⟩; refine ⟨_, rfl, ?_⟩; have n0_ := Aside0.mk (below_step (by repeat (first | (with_reducible first | exact HB.out | apply below_alloc | apply pw_below_drewN | apply below_drew1) | exact HB.out)) hb); clear HB; have HB := n0_; clear n0_; (try clear hb); (try clear hb2); (try clear hk); (try clear hi)) | ((with_reducible refine gate_callee (f := 50) rfl ?_); refine goesL_ (some 12) rfl rfl Tryd.func50 (by kernel_rfl) rfl #[.string t277] rfl (by (try simp only [List.map_toArray, List.map_cons, List.map_nil]); first | done | rfl | (simp only [List.length_drop, List.length_take]; rfl)) ?_; (with_reducible refine (split_Words.calls k t277 t278 t279 t280 _ ?side1 A4.out).mono ?_); (case side1 => exact Gu.below HG.out (by repeat (first | (with_reducible first | exact HB.out | apply below_alloc | apply pw_below_drewN | apply below_drew1) | exact HB.out))); rintro e w12 ⟨v281, rfl, ho0, hb⟩; refine ⟨_, rfl, ?_⟩; have n0_ := Aside0.mk (Kd.R_lower ho0 (below_size (by repeat (first | (with_reducible first | exact HB.out | apply below_alloc | apply pw_below_drewN | apply below_drew1) | exact HB.out)))); have n1_ := Aside0.mk (below_step (by repeat (first | (with_reducible first | exact HB.out | apply below_alloc | apply pw_below_drewN | apply below_drew1) | exact HB.out)) hb); clear HB; have HO282 := n0_; have HB := n1_; clear n0_ n1_; (try clear hb); (try clear hb2); (try clear hk); (try clear hi); (try clear ho0)))
      go_ret
      exact ⟨by first | rfl | (simp [errW_none, errW_some] <;> rfl) | (simp [*, errW_none, errW_some] <;> rfl), by repeat (first | (with_reducible first | exact HB.out | apply below_alloc | apply pw_below_drewN | apply below_drew1) | exact HB.out)⟩
  · rw [if_neg c5] at H
    have c5b0 : (t280 == 0) = false := beq_eq_false_iff_ne.mpr c5
    have c5b1 : (t280 != 0) = true := bne_iff_ne.mpr c5
    obtain rfl := Option.some.inj H
    go_enter Tryd.func23, Tryd.ntmps23
    go_wp2_with (first | ((with_reducible refine gate_callee (f := 21) rfl ?_); refine goesL_ (some 11) rfl rfl Tryd.func21 (by kernel_rfl) rfl #[.string a0, .slice A1 l1.length c1] rfl (by (try simp only [List.map_toArray, List.map_cons, List.map_nil]); first | done | rfl | (simp only [List.length_drop, List.length_take]; rfl)) ?_; (with_reducible refine (split_Join.calls a0 _ _ l1 t277 _ ?side1 ?side2 A3.out).mono ?_); (case side1 => repeat (first | exact HR1.out | (with_reducible refine Kd.C_alloc ?_ _) | (with_reducible refine Kd.C_drewN ?_ _) | (with_reducible refine Kd.C_drew ?_))); (case side2 => exact HC1.out); rintro e w13 ⟨rfl, hb⟩; refine ⟨_, rfl, ?_⟩; have n0_ := Aside0.mk (below_step (by repeat (first | (with_reducible first | exact HB.out | apply below_alloc | apply pw_below_drewN | apply below_drew1) | exact HB.out)) hb); clear HB; have HB := n0_; clear n0_; (try clear hb); (try clear hb2); (try clear hk); (try clear hi)) | ((with_reducible refine gate_callee (f := 50) rfl ?_); refine goesL_ (some 12) rfl rfl Tryd.func50 (by kernel_rfl) rfl #[.string t277] rfl (by (try simp only [List.map_toArray, List.map_cons, List.map_nil]); first | done | rfl | (simp only [List.length_drop, List.length_take]; rfl)) ?_; (with_reducible refine (split_Words.calls k t277 t278 t279 t280 _ ?side1 A4.out).mono ?_); (case side1 => exact Gu.below HG.out (by repeat (first | (with_reducible first | exact HB.out | apply below_alloc | apply pw_below_drewN | apply below_drew1) | exact HB.out))); rintro e w14 ⟨v281, rfl, ho0, hb⟩; refine ⟨_, rfl, ?_⟩; have n0_ := Aside0.mk (Kd.R_lower ho0 (below_size (by repeat (first | (with_reducible first | exact HB.out | apply below_alloc | apply pw_below_drewN | apply below_drew1) | exact HB.out)))); have n1_ := Aside0.mk (below_step (by repeat (first | (with_reducible first | exact HB.out | apply below_alloc | apply pw_below_drewN | apply below_drew1) | exact HB.out)) hb); clear HB; have HO282 := n0_; have HB := n1_; clear n0_ n1_; (try clear hb); (try clear hb2); (try clear hk); (try clear hi); (try clear ho0)))
    go_ret
    exact ⟨by first | rfl | (simp [errW_none, errW_some] <;> rfl) | (simp [*, errW_none, errW_some] <;> rfl), by repeat (first | (with_reducible first | exact HB.out | apply below_alloc | apply pw_below_drewN | apply below_drew1) | exact HB.out)⟩
def siglumref02_Cell.f (a0_0 : Int) (a0_1 : Int) (a0_2 : Int) (a0_3 : Bool) (a0_4 : Int) : Option (Int) := if a0_3 = true then (some 1) else ((siglumref02_Of.f a0_2).bind fun t285 => (some t285))
set_option maxHeartbeats 8000000 in
set_option maxRecDepth 100000 in
theorem siglumref02_Cell.calls (a0_0 : Int) (a0_1 : Int) (a0_2 : Int) (a0_3 : Bool) (a0_4 : Int) (r : Int) (w : World) (h : siglumref02_Cell.f a0_0 a0_1 a0_2 a0_3 a0_4 = some r) :
    Calls Tryd.prog 114 #[.agg #[.int .i64 a0_0, .int .i64 a0_1, .int .i32 a0_2, .bool a0_3, .int .u8 a0_4]] w fun e w' => e = .returned (.int .i64 r) ∧ Below w.heap.size w w' := by
  have hu67 := Tryd.underlying67
  have HB := Aside0.mk (Below.refl w.heap.size w)
  have H : (if a0_3 = true then (some 1) else ((siglumref02_Of.f a0_2).bind fun t285 => (some t285))) = some r := h
  clear h
  by_cases c2 : a0_3 = true
  · subst c2
    have H1 : (some 1) = some r := by rw [if_pos rfl] at H; exact H
    clear H
    have H := H1
    clear H1
    obtain rfl := Option.some.inj H
    go_enter Tryd.func114, Tryd.ntmps114
    go_wp2_with (first | ((with_reducible refine gate_dst (N := 1) rfl ?_); refine box_event ?hg (N := 1) ?hd (cs := #[.int .i64 a0_0, .int .i64 a0_1, .int .i32 a0_2, .bool true, .int .u8 a0_4]) (t := 67) ?hr ?_; (case hd => rfl); (case hg => rfl); (case hr => first | (go_simp; done) | (go_simp; rfl)); intro gb284 hg w3 hbox hb; have n0_ := Aside0.mk (below_step (by repeat (first | (with_reducible first | exact HB.out | apply below_alloc | apply pw_below_drewN | apply below_drew1) | exact HB.out)) hb); have n1_ := Aside0.mk (hbox); have n2_ := Aside0.mk ((by rw [hg]; exact (below_size (by repeat (first | (with_reducible first | exact HB.out | apply below_alloc | apply pw_below_drewN | apply below_drew1) | exact HB.out))) : w.heap.size ≤ gb284)); have n3_ := Aside0.mk ((by rw [hg]; exact (below_size (by repeat (first | (with_reducible first | exact HB.out | apply below_alloc | apply pw_below_drewN | apply below_drew1) | exact HB.out))) : w.heap.size ≤ gb284)); clear HB; have HB := n0_; have BK284 := n1_; have GW284 := n2_; have GE284 := n3_; clear n0_ n1_ n2_ n3_; clear hb hbox hg; have hcz4_0 : w3.cell? ⟨gb284, 0, none⟩ = some (.int .i64 a0_0) := (blk_cell BK284.out 0).trans rfl; have hcz4_1 : w3.cell? ⟨gb284, 1, none⟩ = some (.int .i64 a0_1) := (blk_cell BK284.out 1).trans rfl; have hcz4_2 : w3.cell? ⟨gb284, 2, none⟩ = some (.int .i32 a0_2) := (blk_cell BK284.out 2).trans rfl; have hcz4_3 : w3.cell? ⟨gb284, 3, none⟩ = some (.bool true) := (blk_cell BK284.out 3).trans rfl; have hcz4_4 : w3.cell? ⟨gb284, 4, none⟩ = some (.int .u8 a0_4) := (blk_cell BK284.out 4).trans rfl; have hfz4_0 := blk_frozen BK284.out 0; have hfz4_1 := blk_frozen BK284.out 1; have hfz4_2 := blk_frozen BK284.out 2; have hfz4_3 := blk_frozen BK284.out 3; have hfz4_4 := blk_frozen BK284.out 4))
    go_ret
    exact ⟨by first | rfl | (simp [errW_none, errW_some] <;> rfl) | (simp [*, errW_none, errW_some] <;> rfl), by repeat (first | (with_reducible first | exact HB.out | apply below_alloc | apply pw_below_drewN | apply below_drew1 | refine below_set ?_ GE284.out) | exact HB.out)⟩
  · replace c2 := Bool.eq_false_iff.mpr c2
    subst c2
    have H1 : ((siglumref02_Of.f a0_2).bind fun t285 => (some t285)) = some r := by rw [if_neg (show ¬ (false = true) by decide)] at H; exact H
    clear H
    have H := H1
    clear H1
    replace H := Option.bind_eq_some_iff.mp H
    obtain ⟨t285, A50, H⟩ := H
    replace H : (some t285) = some r := H
    have A5 := Aside0.mk A50
    clear A50
    obtain rfl := Option.some.inj H
    go_enter Tryd.func114, Tryd.ntmps114
    go_wp2_with (first | ((with_reducible refine gate_dst (N := 1) rfl ?_); refine box_event ?hg (N := 1) ?hd (cs := #[.int .i64 a0_0, .int .i64 a0_1, .int .i32 a0_2, .bool false, .int .u8 a0_4]) (t := 67) ?hr ?_; (case hd => rfl); (case hg => rfl); (case hr => first | (go_simp; done) | (go_simp; rfl)); intro gb284 hg w6 hbox hb; have n0_ := Aside0.mk (below_step (by repeat (first | (with_reducible first | exact HB.out | apply below_alloc | apply pw_below_drewN | apply below_drew1) | exact HB.out)) hb); have n1_ := Aside0.mk (hbox); have n2_ := Aside0.mk ((by rw [hg]; exact (below_size (by repeat (first | (with_reducible first | exact HB.out | apply below_alloc | apply pw_below_drewN | apply below_drew1) | exact HB.out))) : w.heap.size ≤ gb284)); have n3_ := Aside0.mk ((by rw [hg]; exact (below_size (by repeat (first | (with_reducible first | exact HB.out | apply below_alloc | apply pw_below_drewN | apply below_drew1) | exact HB.out))) : w.heap.size ≤ gb284)); clear HB; have HB := n0_; have BK284 := n1_; have GW284 := n2_; have GE284 := n3_; clear n0_ n1_ n2_ n3_; clear hb hbox hg; have hcz7_0 : w6.cell? ⟨gb284, 0, none⟩ = some (.int .i64 a0_0) := (blk_cell BK284.out 0).trans rfl; have hcz7_1 : w6.cell? ⟨gb284, 1, none⟩ = some (.int .i64 a0_1) := (blk_cell BK284.out 1).trans rfl; have hcz7_2 : w6.cell? ⟨gb284, 2, none⟩ = some (.int .i32 a0_2) := (blk_cell BK284.out 2).trans rfl; have hcz7_3 : w6.cell? ⟨gb284, 3, none⟩ = some (.bool false) := (blk_cell BK284.out 3).trans rfl; have hcz7_4 : w6.cell? ⟨gb284, 4, none⟩ = some (.int .u8 a0_4) := (blk_cell BK284.out 4).trans rfl; have hfz7_0 := blk_frozen BK284.out 0; have hfz7_1 := blk_frozen BK284.out 1; have hfz7_2 := blk_frozen BK284.out 2; have hfz7_3 := blk_frozen BK284.out 3; have hfz7_4 := blk_frozen BK284.out 4) | ((with_reducible refine gate_callee (f := 79) rfl ?_); refine goesL_ (some 7) rfl rfl Tryd.func79 (by kernel_rfl) rfl #[.int .i32 a0_2] rfl (by (try simp only [List.map_toArray, List.map_cons, List.map_nil]); first | done | rfl | (simp only [List.length_drop, List.length_take]; rfl)) ?_; (with_reducible refine (siglumref02_Of.calls a0_2 t285 _ A5.out).mono ?_); rintro e w8 ⟨rfl, hb⟩; refine ⟨_, rfl, ?_⟩; have n0_ := Aside0.mk (blk_below (g := gb284) (o := .cells #[.int .i64 a0_0, .int .i64 a0_1, .int .i32 a0_2, .bool false, .int .u8 a0_4] 67 (0, 0)) (by (with_reducible repeat (first | refine blk_drewN ?_ _ | refine blk_drew ?_ | refine blk_alloc ?_ _)); exact BK284.out) hb); have n1_ := Aside0.mk (below_step (by repeat (first | (with_reducible first | exact HB.out | apply below_alloc | apply pw_below_drewN | apply below_drew1 | refine below_set ?_ GE284.out) | exact HB.out)) hb); clear BK284; clear HB; have BK284 := n0_; have HB := n1_; clear n0_ n1_; (try clear hb); (try clear hb2); (try clear hk); (try clear hi)))
    go_ret
    exact ⟨by first | rfl | (simp [errW_none, errW_some] <;> rfl) | (simp [*, errW_none, errW_some] <;> rfl), by repeat (first | (with_reducible first | exact HB.out | apply below_alloc | apply pw_below_drewN | apply below_drew1 | refine below_set ?_ GE284.out) | exact HB.out)⟩
def siglumref04_wordy.f (a0_0 : Int) (a0_1 : Int) (a0_2 : Int) (a0_3 : Bool) (a0_4 : Int) : Option (Bool) := (siglumref02_Cell.f a0_0 a0_1 a0_2 a0_3 a0_4).bind fun t287 => (if t287 = 1 then (some true) else (if t287 = 2 then (some true) else (some (t287 == 3))))
set_option maxHeartbeats 8000000 in
set_option maxRecDepth 100000 in
theorem siglumref04_wordy.calls (a0_0 : Int) (a0_1 : Int) (a0_2 : Int) (a0_3 : Bool) (a0_4 : Int) (r : Bool) (w : World) (h : siglumref04_wordy.f a0_0 a0_1 a0_2 a0_3 a0_4 = some r) :
    Calls Tryd.prog 115 #[.agg #[.int .i64 a0_0, .int .i64 a0_1, .int .i32 a0_2, .bool a0_3, .int .u8 a0_4]] w fun e w' => e = .returned (.bool r) ∧ Below w.heap.size w w' := by
  have hu67 := Tryd.underlying67
  have HB := Aside0.mk (Below.refl w.heap.size w)
  have H : ((siglumref02_Cell.f a0_0 a0_1 a0_2 a0_3 a0_4).bind fun t287 => (if t287 = 1 then (some true) else (if t287 = 2 then (some true) else (some (t287 == 3))))) = some r := h
  clear h
  replace H := Option.bind_eq_some_iff.mp H
  obtain ⟨t287, A20, H⟩ := H
  replace H : (if t287 = 1 then (some true) else (if t287 = 2 then (some true) else (some (t287 == 3)))) = some r := H
  have A2 := Aside0.mk A20
  clear A20
  by_cases c3 : t287 = 1
  · rw [if_pos c3] at H
    have c3b0 : (t287 == 1) = true := beq_iff_eq.mpr c3
    have c3b1 : (t287 != 1) = false := bne_eq_false_iff_eq.mpr c3
    clear c3
    obtain rfl := Option.some.inj H
    go_enter Tryd.func115, Tryd.ntmps115
    go_wp2_with (first | ((with_reducible refine gate_dst (N := 1) rfl ?_); refine box_event ?hg (N := 1) ?hd (cs := #[.int .i64 a0_0, .int .i64 a0_1, .int .i32 a0_2, .bool a0_3, .int .u8 a0_4]) (t := 67) ?hr ?_; (case hd => rfl); (case hg => rfl); (case hr => first | (go_simp; done) | (go_simp; rfl)); intro gb286 hg w4 hbox hb; have n0_ := Aside0.mk (below_step (by repeat (first | (with_reducible first | exact HB.out | apply below_alloc | apply pw_below_drewN | apply below_drew1) | exact HB.out)) hb); have n1_ := Aside0.mk (hbox); have n2_ := Aside0.mk ((by rw [hg]; exact (below_size (by repeat (first | (with_reducible first | exact HB.out | apply below_alloc | apply pw_below_drewN | apply below_drew1) | exact HB.out))) : w.heap.size ≤ gb286)); have n3_ := Aside0.mk ((by rw [hg]; exact (below_size (by repeat (first | (with_reducible first | exact HB.out | apply below_alloc | apply pw_below_drewN | apply below_drew1) | exact HB.out))) : w.heap.size ≤ gb286)); clear HB; have HB := n0_; have BK286 := n1_; have GW286 := n2_; have GE286 := n3_; clear n0_ n1_ n2_ n3_; clear hb hbox hg; have hcz5_0 : w4.cell? ⟨gb286, 0, none⟩ = some (.int .i64 a0_0) := (blk_cell BK286.out 0).trans rfl; have hcz5_1 : w4.cell? ⟨gb286, 1, none⟩ = some (.int .i64 a0_1) := (blk_cell BK286.out 1).trans rfl; have hcz5_2 : w4.cell? ⟨gb286, 2, none⟩ = some (.int .i32 a0_2) := (blk_cell BK286.out 2).trans rfl; have hcz5_3 : w4.cell? ⟨gb286, 3, none⟩ = some (.bool a0_3) := (blk_cell BK286.out 3).trans rfl; have hcz5_4 : w4.cell? ⟨gb286, 4, none⟩ = some (.int .u8 a0_4) := (blk_cell BK286.out 4).trans rfl; have hfz5_0 := blk_frozen BK286.out 0; have hfz5_1 := blk_frozen BK286.out 1; have hfz5_2 := blk_frozen BK286.out 2; have hfz5_3 := blk_frozen BK286.out 3; have hfz5_4 := blk_frozen BK286.out 4) | ((with_reducible refine gate_callee (f := 114) rfl ?_); refine goesL_ (some 5) rfl rfl Tryd.func114 (by kernel_rfl) rfl #[.agg #[.int .i64 a0_0, .int .i64 a0_1, .int .i32 a0_2, .bool a0_3, .int .u8 a0_4]] rfl (by (try simp only [List.map_toArray, List.map_cons, List.map_nil]); first | done | rfl | (simp only [List.length_drop, List.length_take]; rfl)) ?_; (with_reducible refine (siglumref02_Cell.calls a0_0 a0_1 a0_2 a0_3 a0_4 t287 _ A2.out).mono ?_); rintro e w6 ⟨rfl, hb⟩; refine ⟨_, rfl, ?_⟩; have n0_ := Aside0.mk (blk_below (g := gb286) (o := .cells #[.int .i64 a0_0, .int .i64 a0_1, .int .i32 a0_2, .bool a0_3, .int .u8 a0_4] 67 (0, 0)) (by (with_reducible repeat (first | refine blk_drewN ?_ _ | refine blk_drew ?_ | refine blk_alloc ?_ _)); exact BK286.out) hb); have n1_ := Aside0.mk (below_step (by repeat (first | (with_reducible first | exact HB.out | apply below_alloc | apply pw_below_drewN | apply below_drew1 | refine below_set ?_ GE286.out) | exact HB.out)) hb); clear BK286; clear HB; have BK286 := n0_; have HB := n1_; clear n0_ n1_; (try clear hb); (try clear hb2); (try clear hk); (try clear hi)))
    go_ret
    exact ⟨by first | rfl | (simp [errW_none, errW_some] <;> rfl) | (simp [*, errW_none, errW_some] <;> rfl), by repeat (first | (with_reducible first | exact HB.out | apply below_alloc | apply pw_below_drewN | apply below_drew1 | refine below_set ?_ GE286.out) | exact HB.out)⟩
  · rw [if_neg c3] at H
    have c3b0 : (t287 == 1) = false := beq_eq_false_iff_ne.mpr c3
    have c3b1 : (t287 != 1) = true := bne_iff_ne.mpr c3
    by_cases c7 : t287 = 2
    · rw [if_pos c7] at H
      have c7b0 : (t287 == 2) = true := beq_iff_eq.mpr c7
      have c7b1 : (t287 != 2) = false := bne_eq_false_iff_eq.mpr c7
      clear c7
      obtain rfl := Option.some.inj H
      go_enter Tryd.func115, Tryd.ntmps115
      go_wp2_with (first | ((with_reducible refine gate_dst (N := 1) rfl ?_); refine box_event ?hg (N := 1) ?hd (cs := #[.int .i64 a0_0, .int .i64 a0_1, .int .i32 a0_2, .bool a0_3, .int .u8 a0_4]) (t := 67) ?hr ?_; (case hd => rfl); (case hg => rfl); (case hr => first | (go_simp; done) | (go_simp; rfl)); intro gb286 hg w8 hbox hb; have n0_ := Aside0.mk (below_step (by repeat (first | (with_reducible first | exact HB.out | apply below_alloc | apply pw_below_drewN | apply below_drew1) | exact HB.out)) hb); have n1_ := Aside0.mk (hbox); have n2_ := Aside0.mk ((by rw [hg]; exact (below_size (by repeat (first | (with_reducible first | exact HB.out | apply below_alloc | apply pw_below_drewN | apply below_drew1) | exact HB.out))) : w.heap.size ≤ gb286)); have n3_ := Aside0.mk ((by rw [hg]; exact (below_size (by repeat (first | (with_reducible first | exact HB.out | apply below_alloc | apply pw_below_drewN | apply below_drew1) | exact HB.out))) : w.heap.size ≤ gb286)); clear HB; have HB := n0_; have BK286 := n1_; have GW286 := n2_; have GE286 := n3_; clear n0_ n1_ n2_ n3_; clear hb hbox hg; have hcz9_0 : w8.cell? ⟨gb286, 0, none⟩ = some (.int .i64 a0_0) := (blk_cell BK286.out 0).trans rfl; have hcz9_1 : w8.cell? ⟨gb286, 1, none⟩ = some (.int .i64 a0_1) := (blk_cell BK286.out 1).trans rfl; have hcz9_2 : w8.cell? ⟨gb286, 2, none⟩ = some (.int .i32 a0_2) := (blk_cell BK286.out 2).trans rfl; have hcz9_3 : w8.cell? ⟨gb286, 3, none⟩ = some (.bool a0_3) := (blk_cell BK286.out 3).trans rfl; have hcz9_4 : w8.cell? ⟨gb286, 4, none⟩ = some (.int .u8 a0_4) := (blk_cell BK286.out 4).trans rfl; have hfz9_0 := blk_frozen BK286.out 0; have hfz9_1 := blk_frozen BK286.out 1; have hfz9_2 := blk_frozen BK286.out 2; have hfz9_3 := blk_frozen BK286.out 3; have hfz9_4 := blk_frozen BK286.out 4) | ((with_reducible refine gate_callee (f := 114) rfl ?_); refine goesL_ (some 5) rfl rfl Tryd.func114 (by kernel_rfl) rfl #[.agg #[.int .i64 a0_0, .int .i64 a0_1, .int .i32 a0_2, .bool a0_3, .int .u8 a0_4]] rfl (by (try simp only [List.map_toArray, List.map_cons, List.map_nil]); first | done | rfl | (simp only [List.length_drop, List.length_take]; rfl)) ?_; (with_reducible refine (siglumref02_Cell.calls a0_0 a0_1 a0_2 a0_3 a0_4 t287 _ A2.out).mono ?_); rintro e w10 ⟨rfl, hb⟩; refine ⟨_, rfl, ?_⟩; have n0_ := Aside0.mk (blk_below (g := gb286) (o := .cells #[.int .i64 a0_0, .int .i64 a0_1, .int .i32 a0_2, .bool a0_3, .int .u8 a0_4] 67 (0, 0)) (by (with_reducible repeat (first | refine blk_drewN ?_ _ | refine blk_drew ?_ | refine blk_alloc ?_ _)); exact BK286.out) hb); have n1_ := Aside0.mk (below_step (by repeat (first | (with_reducible first | exact HB.out | apply below_alloc | apply pw_below_drewN | apply below_drew1 | refine below_set ?_ GE286.out) | exact HB.out)) hb); clear BK286; clear HB; have BK286 := n0_; have HB := n1_; clear n0_ n1_; (try clear hb); (try clear hb2); (try clear hk); (try clear hi)))
      go_ret
      exact ⟨by first | rfl | (simp [errW_none, errW_some] <;> rfl) | (simp [*, errW_none, errW_some] <;> rfl), by repeat (first | (with_reducible first | exact HB.out | apply below_alloc | apply pw_below_drewN | apply below_drew1 | refine below_set ?_ GE286.out) | exact HB.out)⟩
    · rw [if_neg c7] at H
      have c7b0 : (t287 == 2) = false := beq_eq_false_iff_ne.mpr c7
      have c7b1 : (t287 != 2) = true := bne_iff_ne.mpr c7
      obtain rfl := Option.some.inj H
      go_enter Tryd.func115, Tryd.ntmps115
      go_wp2_with (first | ((with_reducible refine gate_dst (N := 1) rfl ?_); refine box_event ?hg (N := 1) ?hd (cs := #[.int .i64 a0_0, .int .i64 a0_1, .int .i32 a0_2, .bool a0_3, .int .u8 a0_4]) (t := 67) ?hr ?_; (case hd => rfl); (case hg => rfl); (case hr => first | (go_simp; done) | (go_simp; rfl)); intro gb286 hg w11 hbox hb; have n0_ := Aside0.mk (below_step (by repeat (first | (with_reducible first | exact HB.out | apply below_alloc | apply pw_below_drewN | apply below_drew1) | exact HB.out)) hb); have n1_ := Aside0.mk (hbox); have n2_ := Aside0.mk ((by rw [hg]; exact (below_size (by repeat (first | (with_reducible first | exact HB.out | apply below_alloc | apply pw_below_drewN | apply below_drew1) | exact HB.out))) : w.heap.size ≤ gb286)); have n3_ := Aside0.mk ((by rw [hg]; exact (below_size (by repeat (first | (with_reducible first | exact HB.out | apply below_alloc | apply pw_below_drewN | apply below_drew1) | exact HB.out))) : w.heap.size ≤ gb286)); clear HB; have HB := n0_; have BK286 := n1_; have GW286 := n2_; have GE286 := n3_; clear n0_ n1_ n2_ n3_; clear hb hbox hg; have hcz12_0 : w11.cell? ⟨gb286, 0, none⟩ = some (.int .i64 a0_0) := (blk_cell BK286.out 0).trans rfl; have hcz12_1 : w11.cell? ⟨gb286, 1, none⟩ = some (.int .i64 a0_1) := (blk_cell BK286.out 1).trans rfl; have hcz12_2 : w11.cell? ⟨gb286, 2, none⟩ = some (.int .i32 a0_2) := (blk_cell BK286.out 2).trans rfl; have hcz12_3 : w11.cell? ⟨gb286, 3, none⟩ = some (.bool a0_3) := (blk_cell BK286.out 3).trans rfl; have hcz12_4 : w11.cell? ⟨gb286, 4, none⟩ = some (.int .u8 a0_4) := (blk_cell BK286.out 4).trans rfl; have hfz12_0 := blk_frozen BK286.out 0; have hfz12_1 := blk_frozen BK286.out 1; have hfz12_2 := blk_frozen BK286.out 2; have hfz12_3 := blk_frozen BK286.out 3; have hfz12_4 := blk_frozen BK286.out 4) | ((with_reducible refine gate_callee (f := 114) rfl ?_); refine goesL_ (some 5) rfl rfl Tryd.func114 (by kernel_rfl) rfl #[.agg #[.int .i64 a0_0, .int .i64 a0_1, .int .i32 a0_2, .bool a0_3, .int .u8 a0_4]] rfl (by (try simp only [List.map_toArray, List.map_cons, List.map_nil]); first | done | rfl | (simp only [List.length_drop, List.length_take]; rfl)) ?_; (with_reducible refine (siglumref02_Cell.calls a0_0 a0_1 a0_2 a0_3 a0_4 t287 _ A2.out).mono ?_); rintro e w13 ⟨rfl, hb⟩; refine ⟨_, rfl, ?_⟩; have n0_ := Aside0.mk (blk_below (g := gb286) (o := .cells #[.int .i64 a0_0, .int .i64 a0_1, .int .i32 a0_2, .bool a0_3, .int .u8 a0_4] 67 (0, 0)) (by (with_reducible repeat (first | refine blk_drewN ?_ _ | refine blk_drew ?_ | refine blk_alloc ?_ _)); exact BK286.out) hb); have n1_ := Aside0.mk (below_step (by repeat (first | (with_reducible first | exact HB.out | apply below_alloc | apply pw_below_drewN | apply below_drew1 | refine below_set ?_ GE286.out) | exact HB.out)) hb); clear BK286; clear HB; have BK286 := n0_; have HB := n1_; clear n0_ n1_; (try clear hb); (try clear hb2); (try clear hk); (try clear hi)))
      go_ret
      exact ⟨by first | rfl | (simp [errW_none, errW_some] <;> rfl) | (simp [*, errW_none, errW_some] <;> rfl), by repeat (first | (with_reducible first | exact HB.out | apply below_alloc | apply pw_below_drewN | apply below_drew1 | refine below_set ?_ GE286.out) | exact HB.out)⟩
def siglumref04_word.l0 : Nat → List (S67) → Int → Option (Int)
  | 0, _, _ => none
  | k + 1, x0, x1 => if x1 < (x0.length : Int) then (if 0 ≤ x1 then ((siglumref04_wordy.f ((rd_T67 x0 x1).f0) ((rd_T67 x0 x1).f1) ((rd_T67 x0 x1).f2) ((rd_T67 x0 x1).f3) ((rd_T67 x0 x1).f4)).bind fun t289 => (if t289 = true then (siglumref04_word.l0 k x0 (wrap64 (x1 + 1))) else ((siglumref02_Cell.f ((rd_T67 x0 x1).f0) ((rd_T67 x0 x1).f1) ((rd_T67 x0 x1).f2) ((rd_T67 x0 x1).f3) ((rd_T67 x0 x1).f4)).bind fun t291 => (if t291 = 4 then (if (wrap64 (x1 + 1)) < (x0.length : Int) then (if 0 ≤ (wrap64 (x1 + 1)) then ((siglumref04_wordy.f ((rd_T67 x0 (wrap64 (x1 + 1))).f0) ((rd_T67 x0 (wrap64 (x1 + 1))).f1) ((rd_T67 x0 (wrap64 (x1 + 1))).f2) ((rd_T67 x0 (wrap64 (x1 + 1))).f3) ((rd_T67 x0 (wrap64 (x1 + 1))).f4)).bind fun t293 => (if t293 = true then (siglumref04_word.l0 k x0 (wrap64 (x1 + 2))) else (some x1))) else (none)) else (some x1)) else (some x1))))) else (none)) else (some x1)
def siglumref04_word.f (k : Nat) (l0 : List (S67)) (a1 : Int) : Option (Int) := siglumref04_word.l0 k l0 a1
theorem siglumref04_word.mono_l : ∀ k, (∀ y0 y1, LeO (siglumref04_word.l0 k y0 y1) (siglumref04_word.l0 (k + 1) y0 y1))
  | 0 => fun _ _ r h => by simp [siglumref04_word.l0] at h
  | k + 1 => by
    have ih0 := siglumref04_word.mono_l k
    · intro y0 y1
      unfold siglumref04_word.l0
      repeat' first
      | (with_reducible exact ih0 _ _)
      | (with_reducible exact LeO.refl _)
      | (with_reducible exact LeO.none _)
      | (with_reducible refine LeO.ite ?_ ?_)
      | (with_reducible refine LeO.bind ?_ (fun _ => ?_))
      | exact ih0 _ _
      | exact LeO.none _
      | refine LeO.ite ?_ ?_
      | refine LeO.bind ?_ (fun _ => ?_)
theorem siglumref04_word.mono : ∀ a0 a1 k, LeO (siglumref04_word.f k a0 a1) (siglumref04_word.f (k + 1) a0 a1) := by
  intro a0 a1 k
  have ih0 := siglumref04_word.mono_l k
  unfold siglumref04_word.f
  repeat' first
      | (with_reducible exact ih0 _ _)
      | (with_reducible exact LeO.refl _)
      | (with_reducible exact LeO.none _)
      | (with_reducible refine LeO.ite ?_ ?_)
      | (with_reducible refine LeO.bind ?_ (fun _ => ?_))
      | exact ih0 _ _
      | exact LeO.none _
      | refine LeO.ite ?_ ?_
      | refine LeO.bind ?_ (fun _ => ?_)
set_option maxHeartbeats 8000000 in
set_option maxRecDepth 100000 in
theorem siglumref04_word.calls (k : Nat) (A0 : Option Addr) (c0 : Nat) (l0 : List (S67)) (a1 : Int) (r : Int) (w : World) (hr0 : Kd.C k67 w A0 l0.length l0) (hc0 : l0.length ≤ c0) (h : siglumref04_word.f k l0 a1 = some r) :
    Calls Tryd.prog 116 #[.slice A0 l0.length c0, .int .i64 a1] w fun e w' => e = .returned (.int .i64 r) ∧ Below w.heap.size w w' := by
  have hu67 := Tryd.underlying67
  have HR0 := Aside0.mk hr0
  have HC0 := Aside0.mk hc0
  clear hr0 hc0
  have HB := Aside0.mk (Below.refl w.heap.size w)
  have H : (siglumref04_word.l0 k l0 a1) = some r := h
  clear h
  have H' := Aside0.mk H
  clear H
  go_enter Tryd.func116, Tryd.ntmps116
  go_wp2
  go_loopg [1] k (fun kq v1 w' => ∃ (x1_1 : Int), v1 = .int .i64 x1_1 ∧ Aside0 (siglumref04_word.l0 kq l0 x1_1 = some r) ∧ Aside0 (kq ≤ k) ∧ Aside0 (Below w.heap.size w w'))
  case atStart => exact ⟨(a1), (by first | rfl | (simp; done) | (simp [*]; done)), H', ⟨Nat.le_refl _⟩, ⟨by repeat (first | (with_reducible first | exact HB.out | apply below_alloc | apply pw_below_drewN | apply below_drew1) | exact HB.out)⟩⟩
  case round =>
    clear H'
    try clear c1
    try clear p2
    obtain ⟨x1_1, rfl, HA, HK1, HB⟩ := hrel
    cases gk with
    | zero => exact absurd HA.out (by simp [siglumref04_word.l0])
    | succ k1 =>
      have H := HA.out
      clear HA
      simp only [siglumref04_word.l0] at H
      by_cases c3 : x1_1 < (l0.length : Int)
      · rw [if_pos c3] at H
        have c3b0 : decide (x1_1 < (l0.length : Int)) = true := decide_eq_true c3
        clear c3
        by_cases c4 : 0 ≤ x1_1
        · rw [if_pos c4] at H
          have c4b0 : decide (0 ≤ x1_1) = true := decide_eq_true c4
          clear c4
          replace H := Option.bind_eq_some_iff.mp H
          obtain ⟨t289, A50, H⟩ := H
          replace H : (if t289 = true then (siglumref04_word.l0 k1 l0 (wrap64 (x1_1 + 1))) else ((siglumref02_Cell.f ((rd_T67 l0 x1_1).f0) ((rd_T67 l0 x1_1).f1) ((rd_T67 l0 x1_1).f2) ((rd_T67 l0 x1_1).f3) ((rd_T67 l0 x1_1).f4)).bind fun t291 => (if t291 = 4 then (if (wrap64 (x1_1 + 1)) < (l0.length : Int) then (if 0 ≤ (wrap64 (x1_1 + 1)) then ((siglumref04_wordy.f ((rd_T67 l0 (wrap64 (x1_1 + 1))).f0) ((rd_T67 l0 (wrap64 (x1_1 + 1))).f1) ((rd_T67 l0 (wrap64 (x1_1 + 1))).f2) ((rd_T67 l0 (wrap64 (x1_1 + 1))).f3) ((rd_T67 l0 (wrap64 (x1_1 + 1))).f4)).bind fun t293 => (if t293 = true then (siglumref04_word.l0 k1 l0 (wrap64 (x1_1 + 2))) else (some x1_1))) else (none)) else (some x1_1)) else (some x1_1)))) = some r := H
          have A5 := Aside0.mk A50
          clear A50
          by_cases c6 : t289 = true
          · subst c6
            have H1 : (siglumref04_word.l0 k1 l0 (wrap64 (x1_1 + 1))) = some r := by rw [if_pos rfl] at H; exact H
            clear H
            have H := H1
            clear H1
            have H' := Aside0.mk H
            clear H
            have p288 : 0 ≤ (x1_1 : Int) := of_decide_eq_true (by first | (with_reducible assumption) | assumption)
            have q288 : x1_1 < (l0.length : Int) := of_decide_eq_true (by first | (with_reducible assumption) | assumption)
            obtain ⟨ad288, e288, hx288_0, hx288_1, hx288_2, hx288_3, hx288_4⟩ := at_T67 HR0.out x1_1 p288 q288
            cases e288
            replace hx288_0 := (HB.out.cell (World.block_lt_of_cell? w _ hx288_0)).trans hx288_0
            replace hx288_1 := (HB.out.cell (World.block_lt_of_cell? w _ hx288_1)).trans hx288_1
            replace hx288_2 := (HB.out.cell (World.block_lt_of_cell? w _ hx288_2)).trans hx288_2
            replace hx288_3 := (HB.out.cell (World.block_lt_of_cell? w _ hx288_3)).trans hx288_3
            replace hx288_4 := (HB.out.cell (World.block_lt_of_cell? w _ hx288_4)).trans hx288_4
            replace p288 := eq_true p288
            replace q288 := eq_true q288
            go_wp2_with (first | ((with_reducible refine gate_callee (f := 115) rfl ?_); refine goesL_ (some 13) rfl rfl Tryd.func115 (by kernel_rfl) rfl #[.agg #[.int .i64 ((rd_T67 l0 x1_1).f0), .int .i64 ((rd_T67 l0 x1_1).f1), .int .i32 ((rd_T67 l0 x1_1).f2), .bool ((rd_T67 l0 x1_1).f3), .int .u8 ((rd_T67 l0 x1_1).f4)]] rfl (by (try simp only [List.map_toArray, List.map_cons, List.map_nil]); first | done | rfl | (simp only [List.length_drop, List.length_take]; rfl)) ?_; (with_reducible refine (siglumref04_wordy.calls ((rd_T67 l0 x1_1).f0) ((rd_T67 l0 x1_1).f1) ((rd_T67 l0 x1_1).f2) ((rd_T67 l0 x1_1).f3) ((rd_T67 l0 x1_1).f4) true _ A5.out).mono ?_); rintro e w7 ⟨rfl, hb⟩; refine ⟨_, rfl, ?_⟩; have n0_ := Aside0.mk (below_step (by repeat (first | (with_reducible first | exact HB.out | apply below_alloc | apply pw_below_drewN | apply below_drew1) | exact HB.out)) hb); clear HB; have HB := n0_; clear n0_; (try clear hb); (try clear hb2); (try clear hk); (try clear hi)))
            go_roundg k1
            case measure => have := HK1.out; omega
            case rel => exact ⟨(wrap64 (x1_1 + 1)), (by first | rfl | (simp; done) | (simp [*]; done)), H', ⟨by have := HK1.out; omega⟩, ⟨by repeat (first | (with_reducible first | exact HB.out | apply below_alloc | apply pw_below_drewN | apply below_drew1) | exact HB.out)⟩⟩
          · replace c6 := Bool.eq_false_iff.mpr c6
            subst c6
            have H1 : ((siglumref02_Cell.f ((rd_T67 l0 x1_1).f0) ((rd_T67 l0 x1_1).f1) ((rd_T67 l0 x1_1).f2) ((rd_T67 l0 x1_1).f3) ((rd_T67 l0 x1_1).f4)).bind fun t291 => (if t291 = 4 then (if (wrap64 (x1_1 + 1)) < (l0.length : Int) then (if 0 ≤ (wrap64 (x1_1 + 1)) then ((siglumref04_wordy.f ((rd_T67 l0 (wrap64 (x1_1 + 1))).f0) ((rd_T67 l0 (wrap64 (x1_1 + 1))).f1) ((rd_T67 l0 (wrap64 (x1_1 + 1))).f2) ((rd_T67 l0 (wrap64 (x1_1 + 1))).f3) ((rd_T67 l0 (wrap64 (x1_1 + 1))).f4)).bind fun t293 => (if t293 = true then (siglumref04_word.l0 k1 l0 (wrap64 (x1_1 + 2))) else (some x1_1))) else (none)) else (some x1_1)) else (some x1_1))) = some r := by rw [if_neg (show ¬ (false = true) by decide)] at H; exact H
            clear H
            have H := H1
            clear H1
            replace H := Option.bind_eq_some_iff.mp H
            obtain ⟨t291, A80, H⟩ := H
            replace H : (if t291 = 4 then (if (wrap64 (x1_1 + 1)) < (l0.length : Int) then (if 0 ≤ (wrap64 (x1_1 + 1)) then ((siglumref04_wordy.f ((rd_T67 l0 (wrap64 (x1_1 + 1))).f0) ((rd_T67 l0 (wrap64 (x1_1 + 1))).f1) ((rd_T67 l0 (wrap64 (x1_1 + 1))).f2) ((rd_T67 l0 (wrap64 (x1_1 + 1))).f3) ((rd_T67 l0 (wrap64 (x1_1 + 1))).f4)).bind fun t293 => (if t293 = true then (siglumref04_word.l0 k1 l0 (wrap64 (x1_1 + 2))) else (some x1_1))) else (none)) else (some x1_1)) else (some x1_1)) = some r := H
            have A8 := Aside0.mk A80
            clear A80
            by_cases c9 : t291 = 4
            · rw [if_pos c9] at H
              have c9b0 : (t291 == 4) = true := beq_iff_eq.mpr c9
              have c9b1 : (t291 != 4) = false := bne_eq_false_iff_eq.mpr c9
              clear c9
              by_cases c10 : (wrap64 (x1_1 + 1)) < (l0.length : Int)
              · rw [if_pos c10] at H
                have c10b0 : decide ((wrap64 (x1_1 + 1)) < (l0.length : Int)) = true := decide_eq_true c10
                clear c10
                obtain ⟨ji11, hji11⟩ : ∃ j_ : Int, (wrap64 (x1_1 + 1)) = j_ := ⟨_, rfl⟩
                replace H : (if 0 ≤ (ji11) then ((siglumref04_wordy.f ((rd_T67 l0 (ji11)).f0) ((rd_T67 l0 (ji11)).f1) ((rd_T67 l0 (ji11)).f2) ((rd_T67 l0 (ji11)).f3) ((rd_T67 l0 (ji11)).f4)).bind fun t293 => (if t293 = true then (siglumref04_word.l0 k1 l0 (wrap64 (x1_1 + 2))) else (some x1_1))) else (none)) = some r := by first | (rw [hji11] at H; exact H) | (simp only [hji11] at H ⊢; exact H)
                (try rw [hji11] at c10b0)
                (try rw [hji11] at A5)
                (try rw [hji11] at A8)
                have hji11w : (IntKind.i64.wrap (x1_1 + 1)) = ji11 := (i64_w _).trans hji11
                by_cases c12 : 0 ≤ (ji11)
                · rw [if_pos c12] at H
                  have c12b0 : decide (0 ≤ (ji11)) = true := decide_eq_true c12
                  clear c12
                  replace H := Option.bind_eq_some_iff.mp H
                  obtain ⟨t293, A130, H⟩ := H
                  replace H : (if t293 = true then (siglumref04_word.l0 k1 l0 (wrap64 (x1_1 + 2))) else (some x1_1)) = some r := H
                  have A13 := Aside0.mk A130
                  clear A130
                  by_cases c14 : t293 = true
                  · subst c14
                    have H1 : (siglumref04_word.l0 k1 l0 (wrap64 (x1_1 + 2))) = some r := by rw [if_pos rfl] at H; exact H
                    clear H
                    have H := H1
                    clear H1
                    have H' := Aside0.mk H
                    clear H
                    have p288 : 0 ≤ (x1_1 : Int) := of_decide_eq_true (by first | (with_reducible assumption) | assumption)
                    have q288 : x1_1 < (l0.length : Int) := of_decide_eq_true (by first | (with_reducible assumption) | assumption)
                    obtain ⟨ad288, e288, hx288_0, hx288_1, hx288_2, hx288_3, hx288_4⟩ := at_T67 HR0.out x1_1 p288 q288
                    cases e288
                    replace hx288_0 := (HB.out.cell (World.block_lt_of_cell? w _ hx288_0)).trans hx288_0
                    replace hx288_1 := (HB.out.cell (World.block_lt_of_cell? w _ hx288_1)).trans hx288_1
                    replace hx288_2 := (HB.out.cell (World.block_lt_of_cell? w _ hx288_2)).trans hx288_2
                    replace hx288_3 := (HB.out.cell (World.block_lt_of_cell? w _ hx288_3)).trans hx288_3
                    replace hx288_4 := (HB.out.cell (World.block_lt_of_cell? w _ hx288_4)).trans hx288_4
                    replace p288 := eq_true p288
                    replace q288 := eq_true q288
                    go_wp2_with (first | ((with_reducible refine gate_callee (f := 115) rfl ?_); refine goesL_ (some 13) rfl rfl Tryd.func115 (by kernel_rfl) rfl #[.agg #[.int .i64 ((rd_T67 l0 x1_1).f0), .int .i64 ((rd_T67 l0 x1_1).f1), .int .i32 ((rd_T67 l0 x1_1).f2), .bool ((rd_T67 l0 x1_1).f3), .int .u8 ((rd_T67 l0 x1_1).f4)]] rfl (by (try simp only [List.map_toArray, List.map_cons, List.map_nil]); first | done | rfl | (simp only [List.length_drop, List.length_take]; rfl)) ?_; (with_reducible refine (siglumref04_wordy.calls ((rd_T67 l0 x1_1).f0) ((rd_T67 l0 x1_1).f1) ((rd_T67 l0 x1_1).f2) ((rd_T67 l0 x1_1).f3) ((rd_T67 l0 x1_1).f4) false _ A5.out).mono ?_); rintro e w15 ⟨rfl, hb⟩; refine ⟨_, rfl, ?_⟩; have n0_ := Aside0.mk (below_step (by repeat (first | (with_reducible first | exact HB.out | apply below_alloc | apply pw_below_drewN | apply below_drew1) | exact HB.out)) hb); clear HB; have HB := n0_; clear n0_; (try clear hb); (try clear hb2); (try clear hk); (try clear hi); have p290 : 0 ≤ (x1_1 : Int) := of_decide_eq_true (by first | (with_reducible assumption) | assumption); have q290 : x1_1 < (l0.length : Int) := of_decide_eq_true (by first | (with_reducible assumption) | assumption); obtain ⟨ad290, e290, hx290_0, hx290_1, hx290_2, hx290_3, hx290_4⟩ := at_T67 HR0.out x1_1 p290 q290; obtain rfl : ad288 = ad290 := (by injection e290); replace hx290_0 := (HB.out.cell (World.block_lt_of_cell? w _ hx290_0)).trans hx290_0; replace hx290_1 := (HB.out.cell (World.block_lt_of_cell? w _ hx290_1)).trans hx290_1; replace hx290_2 := (HB.out.cell (World.block_lt_of_cell? w _ hx290_2)).trans hx290_2; replace hx290_3 := (HB.out.cell (World.block_lt_of_cell? w _ hx290_3)).trans hx290_3; replace hx290_4 := (HB.out.cell (World.block_lt_of_cell? w _ hx290_4)).trans hx290_4; replace p290 := eq_true p290; replace q290 := eq_true q290) | ((with_reducible refine gate_callee (f := 114) rfl ?_); refine goesL_ (some 20) rfl rfl Tryd.func114 (by kernel_rfl) rfl #[.agg #[.int .i64 ((rd_T67 l0 x1_1).f0), .int .i64 ((rd_T67 l0 x1_1).f1), .int .i32 ((rd_T67 l0 x1_1).f2), .bool ((rd_T67 l0 x1_1).f3), .int .u8 ((rd_T67 l0 x1_1).f4)]] rfl (by (try simp only [List.map_toArray, List.map_cons, List.map_nil]); first | done | rfl | (simp only [List.length_drop, List.length_take]; rfl)) ?_; (with_reducible refine (siglumref02_Cell.calls ((rd_T67 l0 x1_1).f0) ((rd_T67 l0 x1_1).f1) ((rd_T67 l0 x1_1).f2) ((rd_T67 l0 x1_1).f3) ((rd_T67 l0 x1_1).f4) t291 _ A8.out).mono ?_); rintro e w16 ⟨rfl, hb⟩; refine ⟨_, rfl, ?_⟩; have n0_ := Aside0.mk (below_step (by repeat (first | (with_reducible first | exact HB.out | apply below_alloc | apply pw_below_drewN | apply below_drew1) | exact HB.out)) hb); clear HB; have HB := n0_; clear n0_; (try clear hb); (try clear hb2); (try clear hk); (try clear hi); have p292 : 0 ≤ ((ji11) : Int) := of_decide_eq_true (by first | (with_reducible assumption) | assumption); have q292 : (ji11) < (l0.length : Int) := of_decide_eq_true (by first | (with_reducible assumption) | assumption); obtain ⟨ad292, e292, hx292_0, hx292_1, hx292_2, hx292_3, hx292_4⟩ := at_T67 HR0.out (ji11) p292 q292; obtain rfl : ad288 = ad292 := (by injection e292); replace hx292_0 := (HB.out.cell (World.block_lt_of_cell? w _ hx292_0)).trans hx292_0; replace hx292_1 := (HB.out.cell (World.block_lt_of_cell? w _ hx292_1)).trans hx292_1; replace hx292_2 := (HB.out.cell (World.block_lt_of_cell? w _ hx292_2)).trans hx292_2; replace hx292_3 := (HB.out.cell (World.block_lt_of_cell? w _ hx292_3)).trans hx292_3; replace hx292_4 := (HB.out.cell (World.block_lt_of_cell? w _ hx292_4)).trans hx292_4; replace p292 := eq_true p292; replace q292 := eq_true q292) | (go_at_call 115; (with_reducible refine (siglumref04_wordy.calls ((rd_T67 l0 (ji11)).f0) ((rd_T67 l0 (ji11)).f1) ((rd_T67 l0 (ji11)).f2) ((rd_T67 l0 (ji11)).f3) ((rd_T67 l0 (ji11)).f4) true _ A13.out).mono ?_); rintro e w17 ⟨rfl, hb⟩; have n0_ := Aside0.mk (below_step (by repeat (first | (with_reducible first | exact HB.out | apply below_alloc | apply pw_below_drewN | apply below_drew1) | exact HB.out)) hb); clear HB; have HB := n0_; clear n0_; (try clear hb); (try clear hb2); (try clear hk); (try clear hi)))
                    go_roundg k1
                    case measure => have := HK1.out; omega
                    case rel => exact ⟨(wrap64 (x1_1 + 2)), (by first | rfl | (simp; done) | (simp [*]; done)), H', ⟨by have := HK1.out; omega⟩, ⟨by repeat (first | (with_reducible first | exact HB.out | apply below_alloc | apply pw_below_drewN | apply below_drew1) | exact HB.out)⟩⟩
                  · replace c14 := Bool.eq_false_iff.mpr c14
                    subst c14
                    have H1 : (some x1_1) = some r := by rw [if_neg (show ¬ (false = true) by decide)] at H; exact H
                    clear H
                    have H := H1
                    clear H1
                    obtain rfl := Option.some.inj H
                    have p288 : 0 ≤ (x1_1 : Int) := of_decide_eq_true (by first | (with_reducible assumption) | assumption)
                    have q288 : x1_1 < (l0.length : Int) := of_decide_eq_true (by first | (with_reducible assumption) | assumption)
                    obtain ⟨ad288, e288, hx288_0, hx288_1, hx288_2, hx288_3, hx288_4⟩ := at_T67 HR0.out x1_1 p288 q288
                    cases e288
                    replace hx288_0 := (HB.out.cell (World.block_lt_of_cell? w _ hx288_0)).trans hx288_0
                    replace hx288_1 := (HB.out.cell (World.block_lt_of_cell? w _ hx288_1)).trans hx288_1
                    replace hx288_2 := (HB.out.cell (World.block_lt_of_cell? w _ hx288_2)).trans hx288_2
                    replace hx288_3 := (HB.out.cell (World.block_lt_of_cell? w _ hx288_3)).trans hx288_3
                    replace hx288_4 := (HB.out.cell (World.block_lt_of_cell? w _ hx288_4)).trans hx288_4
                    replace p288 := eq_true p288
                    replace q288 := eq_true q288
                    go_wp2_with (first | ((with_reducible refine gate_callee (f := 115) rfl ?_); refine goesL_ (some 13) rfl rfl Tryd.func115 (by kernel_rfl) rfl #[.agg #[.int .i64 ((rd_T67 l0 x1_1).f0), .int .i64 ((rd_T67 l0 x1_1).f1), .int .i32 ((rd_T67 l0 x1_1).f2), .bool ((rd_T67 l0 x1_1).f3), .int .u8 ((rd_T67 l0 x1_1).f4)]] rfl (by (try simp only [List.map_toArray, List.map_cons, List.map_nil]); first | done | rfl | (simp only [List.length_drop, List.length_take]; rfl)) ?_; (with_reducible refine (siglumref04_wordy.calls ((rd_T67 l0 x1_1).f0) ((rd_T67 l0 x1_1).f1) ((rd_T67 l0 x1_1).f2) ((rd_T67 l0 x1_1).f3) ((rd_T67 l0 x1_1).f4) false _ A5.out).mono ?_); rintro e w18 ⟨rfl, hb⟩; refine ⟨_, rfl, ?_⟩; have n0_ := Aside0.mk (below_step (by repeat (first | (with_reducible first | exact HB.out | apply below_alloc | apply pw_below_drewN | apply below_drew1) | exact HB.out)) hb); clear HB; have HB := n0_; clear n0_; (try clear hb); (try clear hb2); (try clear hk); (try clear hi); have p290 : 0 ≤ (x1_1 : Int) := of_decide_eq_true (by first | (with_reducible assumption) | assumption); have q290 : x1_1 < (l0.length : Int) := of_decide_eq_true (by first | (with_reducible assumption) | assumption); obtain ⟨ad290, e290, hx290_0, hx290_1, hx290_2, hx290_3, hx290_4⟩ := at_T67 HR0.out x1_1 p290 q290; obtain rfl : ad288 = ad290 := (by injection e290); replace hx290_0 := (HB.out.cell (World.block_lt_of_cell? w _ hx290_0)).trans hx290_0; replace hx290_1 := (HB.out.cell (World.block_lt_of_cell? w _ hx290_1)).trans hx290_1; replace hx290_2 := (HB.out.cell (World.block_lt_of_cell? w _ hx290_2)).trans hx290_2; replace hx290_3 := (HB.out.cell (World.block_lt_of_cell? w _ hx290_3)).trans hx290_3; replace hx290_4 := (HB.out.cell (World.block_lt_of_cell? w _ hx290_4)).trans hx290_4; replace p290 := eq_true p290; replace q290 := eq_true q290) | ((with_reducible refine gate_callee (f := 114) rfl ?_); refine goesL_ (some 20) rfl rfl Tryd.func114 (by kernel_rfl) rfl #[.agg #[.int .i64 ((rd_T67 l0 x1_1).f0), .int .i64 ((rd_T67 l0 x1_1).f1), .int .i32 ((rd_T67 l0 x1_1).f2), .bool ((rd_T67 l0 x1_1).f3), .int .u8 ((rd_T67 l0 x1_1).f4)]] rfl (by (try simp only [List.map_toArray, List.map_cons, List.map_nil]); first | done | rfl | (simp only [List.length_drop, List.length_take]; rfl)) ?_; (with_reducible refine (siglumref02_Cell.calls ((rd_T67 l0 x1_1).f0) ((rd_T67 l0 x1_1).f1) ((rd_T67 l0 x1_1).f2) ((rd_T67 l0 x1_1).f3) ((rd_T67 l0 x1_1).f4) t291 _ A8.out).mono ?_); rintro e w19 ⟨rfl, hb⟩; refine ⟨_, rfl, ?_⟩; have n0_ := Aside0.mk (below_step (by repeat (first | (with_reducible first | exact HB.out | apply below_alloc | apply pw_below_drewN | apply below_drew1) | exact HB.out)) hb); clear HB; have HB := n0_; clear n0_; (try clear hb); (try clear hb2); (try clear hk); (try clear hi); have p292 : 0 ≤ ((ji11) : Int) := of_decide_eq_true (by first | (with_reducible assumption) | assumption); have q292 : (ji11) < (l0.length : Int) := of_decide_eq_true (by first | (with_reducible assumption) | assumption); obtain ⟨ad292, e292, hx292_0, hx292_1, hx292_2, hx292_3, hx292_4⟩ := at_T67 HR0.out (ji11) p292 q292; obtain rfl : ad288 = ad292 := (by injection e292); replace hx292_0 := (HB.out.cell (World.block_lt_of_cell? w _ hx292_0)).trans hx292_0; replace hx292_1 := (HB.out.cell (World.block_lt_of_cell? w _ hx292_1)).trans hx292_1; replace hx292_2 := (HB.out.cell (World.block_lt_of_cell? w _ hx292_2)).trans hx292_2; replace hx292_3 := (HB.out.cell (World.block_lt_of_cell? w _ hx292_3)).trans hx292_3; replace hx292_4 := (HB.out.cell (World.block_lt_of_cell? w _ hx292_4)).trans hx292_4; replace p292 := eq_true p292; replace q292 := eq_true q292) | (go_at_call 115; (with_reducible refine (siglumref04_wordy.calls ((rd_T67 l0 (ji11)).f0) ((rd_T67 l0 (ji11)).f1) ((rd_T67 l0 (ji11)).f2) ((rd_T67 l0 (ji11)).f3) ((rd_T67 l0 (ji11)).f4) false _ A13.out).mono ?_); rintro e w20 ⟨rfl, hb⟩; have n0_ := Aside0.mk (below_step (by repeat (first | (with_reducible first | exact HB.out | apply below_alloc | apply pw_below_drewN | apply below_drew1) | exact HB.out)) hb); clear HB; have HB := n0_; clear n0_; (try clear hb); (try clear hb2); (try clear hk); (try clear hi)))
                    go_ret
                    exact ⟨by first | rfl | (simp [errW_none, errW_some] <;> rfl) | (simp only [← hji11]; first | rfl | (simp [errW_none, errW_some] <;> rfl)) | (simp [*, errW_none, errW_some] <;> rfl), by repeat (first | (with_reducible first | exact HB.out | apply below_alloc | apply pw_below_drewN | apply below_drew1) | exact HB.out)⟩
                · rw [if_neg c12] at H
                  exact absurd H (by simp)
              · rw [if_neg c10] at H
                have c10b0 : decide ((wrap64 (x1_1 + 1)) < (l0.length : Int)) = false := decide_eq_false c10
                clear c10
                obtain rfl := Option.some.inj H
                have p288 : 0 ≤ (x1_1 : Int) := of_decide_eq_true (by first | (with_reducible assumption) | assumption)
                have q288 : x1_1 < (l0.length : Int) := of_decide_eq_true (by first | (with_reducible assumption) | assumption)
                obtain ⟨ad288, e288, hx288_0, hx288_1, hx288_2, hx288_3, hx288_4⟩ := at_T67 HR0.out x1_1 p288 q288
                cases e288
                replace hx288_0 := (HB.out.cell (World.block_lt_of_cell? w _ hx288_0)).trans hx288_0
                replace hx288_1 := (HB.out.cell (World.block_lt_of_cell? w _ hx288_1)).trans hx288_1
                replace hx288_2 := (HB.out.cell (World.block_lt_of_cell? w _ hx288_2)).trans hx288_2
                replace hx288_3 := (HB.out.cell (World.block_lt_of_cell? w _ hx288_3)).trans hx288_3
                replace hx288_4 := (HB.out.cell (World.block_lt_of_cell? w _ hx288_4)).trans hx288_4
                replace p288 := eq_true p288
                replace q288 := eq_true q288
                go_wp2_with (first | ((with_reducible refine gate_callee (f := 115) rfl ?_); refine goesL_ (some 13) rfl rfl Tryd.func115 (by kernel_rfl) rfl #[.agg #[.int .i64 ((rd_T67 l0 x1_1).f0), .int .i64 ((rd_T67 l0 x1_1).f1), .int .i32 ((rd_T67 l0 x1_1).f2), .bool ((rd_T67 l0 x1_1).f3), .int .u8 ((rd_T67 l0 x1_1).f4)]] rfl (by (try simp only [List.map_toArray, List.map_cons, List.map_nil]); first | done | rfl | (simp only [List.length_drop, List.length_take]; rfl)) ?_; (with_reducible refine (siglumref04_wordy.calls ((rd_T67 l0 x1_1).f0) ((rd_T67 l0 x1_1).f1) ((rd_T67 l0 x1_1).f2) ((rd_T67 l0 x1_1).f3) ((rd_T67 l0 x1_1).f4) false _ A5.out).mono ?_); rintro e w21 ⟨rfl, hb⟩; refine ⟨_, rfl, ?_⟩; have n0_ := Aside0.mk (below_step (by repeat (first | (with_reducible first | exact HB.out | apply below_alloc | apply pw_below_drewN | apply below_drew1) | exact HB.out)) hb); clear HB; have HB := n0_; clear n0_; (try clear hb); (try clear hb2); (try clear hk); (try clear hi); have p290 : 0 ≤ (x1_1 : Int) := of_decide_eq_true (by first | (with_reducible assumption) | assumption); have q290 : x1_1 < (l0.length : Int) := of_decide_eq_true (by first | (with_reducible assumption) | assumption); obtain ⟨ad290, e290, hx290_0, hx290_1, hx290_2, hx290_3, hx290_4⟩ := at_T67 HR0.out x1_1 p290 q290; obtain rfl : ad288 = ad290 := (by injection e290); replace hx290_0 := (HB.out.cell (World.block_lt_of_cell? w _ hx290_0)).trans hx290_0; replace hx290_1 := (HB.out.cell (World.block_lt_of_cell? w _ hx290_1)).trans hx290_1; replace hx290_2 := (HB.out.cell (World.block_lt_of_cell? w _ hx290_2)).trans hx290_2; replace hx290_3 := (HB.out.cell (World.block_lt_of_cell? w _ hx290_3)).trans hx290_3; replace hx290_4 := (HB.out.cell (World.block_lt_of_cell? w _ hx290_4)).trans hx290_4; replace p290 := eq_true p290; replace q290 := eq_true q290) | ((with_reducible refine gate_callee (f := 114) rfl ?_); refine goesL_ (some 20) rfl rfl Tryd.func114 (by kernel_rfl) rfl #[.agg #[.int .i64 ((rd_T67 l0 x1_1).f0), .int .i64 ((rd_T67 l0 x1_1).f1), .int .i32 ((rd_T67 l0 x1_1).f2), .bool ((rd_T67 l0 x1_1).f3), .int .u8 ((rd_T67 l0 x1_1).f4)]] rfl (by (try simp only [List.map_toArray, List.map_cons, List.map_nil]); first | done | rfl | (simp only [List.length_drop, List.length_take]; rfl)) ?_; (with_reducible refine (siglumref02_Cell.calls ((rd_T67 l0 x1_1).f0) ((rd_T67 l0 x1_1).f1) ((rd_T67 l0 x1_1).f2) ((rd_T67 l0 x1_1).f3) ((rd_T67 l0 x1_1).f4) t291 _ A8.out).mono ?_); rintro e w22 ⟨rfl, hb⟩; refine ⟨_, rfl, ?_⟩; have n0_ := Aside0.mk (below_step (by repeat (first | (with_reducible first | exact HB.out | apply below_alloc | apply pw_below_drewN | apply below_drew1) | exact HB.out)) hb); clear HB; have HB := n0_; clear n0_; (try clear hb); (try clear hb2); (try clear hk); (try clear hi)))
                go_ret
                exact ⟨by first | rfl | (simp [errW_none, errW_some] <;> rfl) | (simp [*, errW_none, errW_some] <;> rfl), by repeat (first | (with_reducible first | exact HB.out | apply below_alloc | apply pw_below_drewN | apply below_drew1) | exact HB.out)⟩
            · rw [if_neg c9] at H
              have c9b0 : (t291 == 4) = false := beq_eq_false_iff_ne.mpr c9
              have c9b1 : (t291 != 4) = true := bne_iff_ne.mpr c9
              obtain rfl := Option.some.inj H
              have p288 : 0 ≤ (x1_1 : Int) := of_decide_eq_true (by first | (with_reducible assumption) | assumption)
              have q288 : x1_1 < (l0.length : Int) := of_decide_eq_true (by first | (with_reducible assumption) | assumption)
              obtain ⟨ad288, e288, hx288_0, hx288_1, hx288_2, hx288_3, hx288_4⟩ := at_T67 HR0.out x1_1 p288 q288
              cases e288
              replace hx288_0 := (HB.out.cell (World.block_lt_of_cell? w _ hx288_0)).trans hx288_0
              replace hx288_1 := (HB.out.cell (World.block_lt_of_cell? w _ hx288_1)).trans hx288_1
              replace hx288_2 := (HB.out.cell (World.block_lt_of_cell? w _ hx288_2)).trans hx288_2
              replace hx288_3 := (HB.out.cell (World.block_lt_of_cell? w _ hx288_3)).trans hx288_3
              replace hx288_4 := (HB.out.cell (World.block_lt_of_cell? w _ hx288_4)).trans hx288_4
              replace p288 := eq_true p288
              replace q288 := eq_true q288
              go_wp2_with (first | ((with_reducible refine gate_callee (f := 115) rfl ?_); refine goesL_ (some 13) rfl rfl Tryd.func115 (by kernel_rfl) rfl #[.agg #[.int .i64 ((rd_T67 l0 x1_1).f0), .int .i64 ((rd_T67 l0 x1_1).f1), .int .i32 ((rd_T67 l0 x1_1).f2), .bool ((rd_T67 l0 x1_1).f3), .int .u8 ((rd_T67 l0 x1_1).f4)]] rfl (by (try simp only [List.map_toArray, List.map_cons, List.map_nil]); first | done | rfl | (simp only [List.length_drop, List.length_take]; rfl)) ?_; (with_reducible refine (siglumref04_wordy.calls ((rd_T67 l0 x1_1).f0) ((rd_T67 l0 x1_1).f1) ((rd_T67 l0 x1_1).f2) ((rd_T67 l0 x1_1).f3) ((rd_T67 l0 x1_1).f4) false _ A5.out).mono ?_); rintro e w23 ⟨rfl, hb⟩; refine ⟨_, rfl, ?_⟩; have n0_ := Aside0.mk (below_step (by repeat (first | (with_reducible first | exact HB.out | apply below_alloc | apply pw_below_drewN | apply below_drew1) | exact HB.out)) hb); clear HB; have HB := n0_; clear n0_; (try clear hb); (try clear hb2); (try clear hk); (try clear hi); have p290 : 0 ≤ (x1_1 : Int) := of_decide_eq_true (by first | (with_reducible assumption) | assumption); have q290 : x1_1 < (l0.length : Int) := of_decide_eq_true (by first | (with_reducible assumption) | assumption); obtain ⟨ad290, e290, hx290_0, hx290_1, hx290_2, hx290_3, hx290_4⟩ := at_T67 HR0.out x1_1 p290 q290; obtain rfl : ad288 = ad290 := (by injection e290); replace hx290_0 := (HB.out.cell (World.block_lt_of_cell? w _ hx290_0)).trans hx290_0; replace hx290_1 := (HB.out.cell (World.block_lt_of_cell? w _ hx290_1)).trans hx290_1; replace hx290_2 := (HB.out.cell (World.block_lt_of_cell? w _ hx290_2)).trans hx290_2; replace hx290_3 := (HB.out.cell (World.block_lt_of_cell? w _ hx290_3)).trans hx290_3; replace hx290_4 := (HB.out.cell (World.block_lt_of_cell? w _ hx290_4)).trans hx290_4; replace p290 := eq_true p290; replace q290 := eq_true q290) | ((with_reducible refine gate_callee (f := 114) rfl ?_); refine goesL_ (some 20) rfl rfl Tryd.func114 (by kernel_rfl) rfl #[.agg #[.int .i64 ((rd_T67 l0 x1_1).f0), .int .i64 ((rd_T67 l0 x1_1).f1), .int .i32 ((rd_T67 l0 x1_1).f2), .bool ((rd_T67 l0 x1_1).f3), .int .u8 ((rd_T67 l0 x1_1).f4)]] rfl (by (try simp only [List.map_toArray, List.map_cons, List.map_nil]); first | done | rfl | (simp only [List.length_drop, List.length_take]; rfl)) ?_; (with_reducible refine (siglumref02_Cell.calls ((rd_T67 l0 x1_1).f0) ((rd_T67 l0 x1_1).f1) ((rd_T67 l0 x1_1).f2) ((rd_T67 l0 x1_1).f3) ((rd_T67 l0 x1_1).f4) t291 _ A8.out).mono ?_); rintro e w24 ⟨rfl, hb⟩; refine ⟨_, rfl, ?_⟩; have n0_ := Aside0.mk (below_step (by repeat (first | (with_reducible first | exact HB.out | apply below_alloc | apply pw_below_drewN | apply below_drew1) | exact HB.out)) hb); clear HB; have HB := n0_; clear n0_; (try clear hb); (try clear hb2); (try clear hk); (try clear hi)))
              go_ret
              exact ⟨by first | rfl | (simp [errW_none, errW_some] <;> rfl) | (simp [*, errW_none, errW_some] <;> rfl), by repeat (first | (with_reducible first | exact HB.out | apply below_alloc | apply pw_below_drewN | apply below_drew1) | exact HB.out)⟩
        · rw [if_neg c4] at H
          exact absurd H (by simp)
      · rw [if_neg c3] at H
        have c3b0 : decide (x1_1 < (l0.length : Int)) = false := decide_eq_false c3
        clear c3
        obtain rfl := Option.some.inj H
        go_wp2
        go_ret
        exact ⟨by first | rfl | (simp [errW_none, errW_some] <;> rfl) | (simp [*, errW_none, errW_some] <;> rfl), by repeat (first | (with_reducible first | exact HB.out | apply below_alloc | apply pw_below_drewN | apply below_drew1) | exact HB.out)⟩
end Go.Proofs.YtblpiceallbfjaaDoor.Pr
/- siglumref03.small, the reference's small form of a rune: its plain function and its contract, by hand. -/
namespace Go.Proofs.YtblpiceallbfjaaDoor.Pr
open Go.RowKit Go.Proofs.YtblpiceallbfjaaDoorW.PrintWords Go.Proofs.YtblpiceallbfjaaDoorW.PrintLast Go.Proofs.YtblpiceallbfjaaDoorW.PrintMore
set_option linter.unusedVariables false
def siglumref03_small.f (a0 : Int) : Option Int := some (smallI a0)
set_option maxHeartbeats 8000000 in
set_option maxRecDepth 100000 in
theorem siglumref03_small.calls (a0 : Int) (r : Int) (w : World) (h : siglumref03_small.f a0 = some r) :
    Calls Tryd.prog 46 #[.int .i32 a0] w fun e w' => e = .returned (.int .i32 r) ∧ Drawn0 w w' := by
  obtain rfl := Option.some.inj h
  clear h
  go_enter Tryd.func46, Tryd.ntmps46
  go_wp2
  all_goals go_ret
  all_goals refine ⟨congrArg (fun z => Ending.returned (.int .i32 z)) ?_, Drawn0.refl _⟩
  all_goals unfold smallI
  all_goals (simp only [bne_iff_ne, beq_iff_eq, beq_eq_false_iff_ne, bne_eq_false_iff_eq, ne_eq, Bool.not_eq_eq_eq_not, Bool.not_true, Bool.not_false, Bool.not_eq_true'] at *)
  all_goals (repeat' split)
  all_goals first | rfl | omega
end Go.Proofs.YtblpiceallbfjaaDoor.Pr
