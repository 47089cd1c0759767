/- Texts of this claim, one behind the other, of each what the row uses: Pr19, Pr20. -/
import Derived.Test.YtblpiceallbfjaaDoorCt072
import Derived.Test.YtblpiceallbfjaaDoorCt077
import Derived.Test.YtblpiceallbfjaaDoorCt073
namespace Go.Proofs.YtblpiceallbfjaaDoor.Pr
open Go.RowKit Go.Proofs.YtblpiceallbfjaaDoorW.PrintWords Go.Proofs.YtblpiceallbfjaaDoorW.PrintLast Go.Proofs.YtblpiceallbfjaaDoorW.PrintMore
attribute [local go_sem] max2_int min2_int max_two min_two max_three min_three max_four min_four   -- for this text's walks alone
set_option linter.unusedVariables false
set_option linter.unusedSimpArgs false
def siglumref04_token.l0 : Nat → List (S67) → Int → Option (Int × Int)
  | 0, _, _ => none
  | k + 1, x0, x7 => if x7 < (x0.length : Int) then (if 0 ≤ x7 then ((siglumref02_Cell.f ((rd_T67 x0 x7).f0) ((rd_T67 x0 x7).f1) ((rd_T67 x0 x7).f2) ((rd_T67 x0 x7).f3) ((rd_T67 x0 x7).f4)).bind fun t300 => (if t300 = 5 then (siglumref04_token.l0 k x0 (wrap64 (x7 + 1))) else (some (2, x7)))) else (none)) else (some (2, x7))
def siglumref04_token.f (k : Nat) (l0 : List (S67)) (a1 : Int) : Option (Int × Int) := if 0 ≤ a1 then (if a1 < (l0.length : Int) then ((siglumref02_Cell.f ((rd_T67 l0 a1).f0) ((rd_T67 l0 a1).f1) ((rd_T67 l0 a1).f2) ((rd_T67 l0 a1).f3) ((rd_T67 l0 a1).f4)).bind fun t295 => ((siglumref04_wordy.f ((rd_T67 l0 a1).f0) ((rd_T67 l0 a1).f1) ((rd_T67 l0 a1).f2) ((rd_T67 l0 a1).f3) ((rd_T67 l0 a1).f4)).bind fun t297 => (if t297 = true then ((siglumref04_word.f k l0 a1).bind fun t298 => (some (1, t298))) else (if t295 = 5 then (siglumref04_token.l0 k l0 a1) else (if t295 = 6 then (if ((rd_T67 l0 a1).f2) = 13 then (if (wrap64 (a1 + 1)) < (l0.length : Int) then (if 0 ≤ (wrap64 (a1 + 1)) then (if ((rd_T67 l0 (wrap64 (a1 + 1))).f2) = 10 then (some (3, wrap64 (a1 + 2))) else (some (3, wrap64 (a1 + 1)))) else (none)) else (some (3, wrap64 (a1 + 1)))) else (some (3, wrap64 (a1 + 1)))) else (if t295 = 7 then (some (4, wrap64 (a1 + 1))) else (if t295 = 4 then (some (4, wrap64 (a1 + 1))) else (some (5, wrap64 (a1 + 1)))))))))) else (none)) else (none)
theorem siglumref04_token.mono_l : ∀ k, (∀ y0 y1, LeO (siglumref04_token.l0 k y0 y1) (siglumref04_token.l0 (k + 1) y0 y1))
  | 0 => fun _ _ r h => by simp [siglumref04_token.l0] at h
  | k + 1 => by
    have ih0 := siglumref04_token.mono_l k
    · intro y0 y1
      unfold siglumref04_token.l0
      repeat' first
      | (with_reducible exact ih0 _ _)
      | (with_reducible exact siglumref04_word.mono _ _ _)
      | (with_reducible exact LeO.refl _)
      | (with_reducible exact LeO.none _)
      | (with_reducible refine LeO.ite ?_ ?_)
      | (with_reducible refine LeO.bind ?_ (fun _ => ?_))
      | exact ih0 _ _
      | exact siglumref04_word.mono _ _ _
      | exact LeO.none _
      | refine LeO.ite ?_ ?_
      | refine LeO.bind ?_ (fun _ => ?_)
theorem siglumref04_token.mono : ∀ a0 a1 k, LeO (siglumref04_token.f k a0 a1) (siglumref04_token.f (k + 1) a0 a1) := by
  intro a0 a1 k
  have ih0 := siglumref04_token.mono_l k
  unfold siglumref04_token.f
  repeat' first
      | (with_reducible exact ih0 _ _)
      | (with_reducible exact siglumref04_word.mono _ _ _)
      | (with_reducible exact LeO.refl _)
      | (with_reducible exact LeO.none _)
      | (with_reducible refine LeO.ite ?_ ?_)
      | (with_reducible refine LeO.bind ?_ (fun _ => ?_))
      | exact ih0 _ _
      | exact siglumref04_word.mono _ _ _
      | exact LeO.none _
      | refine LeO.ite ?_ ?_
      | refine LeO.bind ?_ (fun _ => ?_)
set_option maxHeartbeats 8000000 in
set_option maxRecDepth 100000 in
theorem siglumref04_token.calls (k : Nat) (A0 : Option Addr) (c0 : Nat) (l0 : List (S67)) (a1 : Int) (r1 : Int) (r2 : Int) (w : World) (hr0 : Kd.C k67 w A0 l0.length l0) (hc0 : l0.length ≤ c0) (h : siglumref04_token.f k l0 a1 = some (r1, r2)) :
    Calls Tryd.prog 102 #[.slice A0 l0.length c0, .int .i64 a1] w fun e w' => e = .returned (.tuple #[.int .i64 r1, .int .i64 r2]) ∧ Below w.heap.size w w' := by
  have hu67 := Tryd.underlying67
  have HR0 := Aside0.mk hr0
  have HC0 := Aside0.mk hc0
  clear hr0 hc0
  have HB := Aside0.mk (Below.refl w.heap.size w)
  have H : (if 0 ≤ a1 then (if a1 < (l0.length : Int) then ((siglumref02_Cell.f ((rd_T67 l0 a1).f0) ((rd_T67 l0 a1).f1) ((rd_T67 l0 a1).f2) ((rd_T67 l0 a1).f3) ((rd_T67 l0 a1).f4)).bind fun t295 => ((siglumref04_wordy.f ((rd_T67 l0 a1).f0) ((rd_T67 l0 a1).f1) ((rd_T67 l0 a1).f2) ((rd_T67 l0 a1).f3) ((rd_T67 l0 a1).f4)).bind fun t297 => (if t297 = true then ((siglumref04_word.f k l0 a1).bind fun t298 => (some (1, t298))) else (if t295 = 5 then (siglumref04_token.l0 k l0 a1) else (if t295 = 6 then (if ((rd_T67 l0 a1).f2) = 13 then (if (wrap64 (a1 + 1)) < (l0.length : Int) then (if 0 ≤ (wrap64 (a1 + 1)) then (if ((rd_T67 l0 (wrap64 (a1 + 1))).f2) = 10 then (some (3, wrap64 (a1 + 2))) else (some (3, wrap64 (a1 + 1)))) else (none)) else (some (3, wrap64 (a1 + 1)))) else (some (3, wrap64 (a1 + 1)))) else (if t295 = 7 then (some (4, wrap64 (a1 + 1))) else (if t295 = 4 then (some (4, wrap64 (a1 + 1))) else (some (5, wrap64 (a1 + 1)))))))))) else (none)) else (none)) = some (r1, r2) := h
  clear h
  by_cases c3 : 0 ≤ a1
  · rw [if_pos c3] at H
    have c3b0 : decide (0 ≤ a1) = true := decide_eq_true c3
    clear c3
    by_cases c4 : a1 < (l0.length : Int)
    · rw [if_pos c4] at H
      have c4b0 : decide (a1 < (l0.length : Int)) = true := decide_eq_true c4
      clear c4
      replace H := Option.bind_eq_some_iff.mp H
      obtain ⟨t295, A50, H⟩ := H
      replace H : ((siglumref04_wordy.f ((rd_T67 l0 a1).f0) ((rd_T67 l0 a1).f1) ((rd_T67 l0 a1).f2) ((rd_T67 l0 a1).f3) ((rd_T67 l0 a1).f4)).bind fun t297 => (if t297 = true then ((siglumref04_word.f k l0 a1).bind fun t298 => (some (1, t298))) else (if t295 = 5 then (siglumref04_token.l0 k l0 a1) else (if t295 = 6 then (if ((rd_T67 l0 a1).f2) = 13 then (if (wrap64 (a1 + 1)) < (l0.length : Int) then (if 0 ≤ (wrap64 (a1 + 1)) then (if ((rd_T67 l0 (wrap64 (a1 + 1))).f2) = 10 then (some (3, wrap64 (a1 + 2))) else (some (3, wrap64 (a1 + 1)))) else (none)) else (some (3, wrap64 (a1 + 1)))) else (some (3, wrap64 (a1 + 1)))) else (if t295 = 7 then (some (4, wrap64 (a1 + 1))) else (if t295 = 4 then (some (4, wrap64 (a1 + 1))) else (some (5, wrap64 (a1 + 1))))))))) = some (r1, r2) := H
      have A5 := Aside0.mk A50
      clear A50
      replace H := Option.bind_eq_some_iff.mp H
      obtain ⟨t297, A60, H⟩ := H
      replace H : (if t297 = true then ((siglumref04_word.f k l0 a1).bind fun t298 => (some (1, t298))) else (if t295 = 5 then (siglumref04_token.l0 k l0 a1) else (if t295 = 6 then (if ((rd_T67 l0 a1).f2) = 13 then (if (wrap64 (a1 + 1)) < (l0.length : Int) then (if 0 ≤ (wrap64 (a1 + 1)) then (if ((rd_T67 l0 (wrap64 (a1 + 1))).f2) = 10 then (some (3, wrap64 (a1 + 2))) else (some (3, wrap64 (a1 + 1)))) else (none)) else (some (3, wrap64 (a1 + 1)))) else (some (3, wrap64 (a1 + 1)))) else (if t295 = 7 then (some (4, wrap64 (a1 + 1))) else (if t295 = 4 then (some (4, wrap64 (a1 + 1))) else (some (5, wrap64 (a1 + 1)))))))) = some (r1, r2) := H
      have A6 := Aside0.mk A60
      clear A60
      by_cases c7 : t297 = true
      · subst c7
        have H1 : ((siglumref04_word.f k l0 a1).bind fun t298 => (some (1, t298))) = some (r1, r2) := by rw [if_pos rfl] at H; exact H
        clear H
        have H := H1
        clear H1
        replace H := Option.bind_eq_some_iff.mp H
        obtain ⟨t298, A80, H⟩ := H
        replace H : (some (1, t298)) = some (r1, r2) := H
        have A8 := Aside0.mk A80
        clear A80
        simp only [Option.some.injEq, Prod.mk.injEq] at H
        obtain ⟨rfl, rfl⟩ := H
        have p294 : 0 ≤ (a1 : Int) := of_decide_eq_true (by first | (with_reducible assumption) | assumption)
        have q294 : a1 < (l0.length : Int) := of_decide_eq_true (by first | (with_reducible assumption) | assumption)
        obtain ⟨ad294, e294, hx294_0, hx294_1, hx294_2, hx294_3, hx294_4⟩ := at_T67 HR0.out a1 p294 q294
        cases e294
        replace p294 := eq_true p294
        replace q294 := eq_true q294
        go_enter Tryd.func102, Tryd.ntmps102
        go_wp2_with (first | ((with_reducible refine gate_callee (f := 114) rfl ?_); refine goesL_ (some 12) rfl rfl Tryd.func114 (by kernel_rfl) rfl #[.agg #[.int .i64 ((rd_T67 l0 a1).f0), .int .i64 ((rd_T67 l0 a1).f1), .int .i32 ((rd_T67 l0 a1).f2), .bool ((rd_T67 l0 a1).f3), .int .u8 ((rd_T67 l0 a1).f4)]] rfl (by (try simp only [List.map_toArray, List.map_cons, List.map_nil]); first | done | rfl | (simp only [List.length_drop, List.length_take]; rfl)) ?_; (with_reducible refine (siglumref02_Cell.calls ((rd_T67 l0 a1).f0) ((rd_T67 l0 a1).f1) ((rd_T67 l0 a1).f2) ((rd_T67 l0 a1).f3) ((rd_T67 l0 a1).f4) t295 _ A5.out).mono ?_); rintro e w9 ⟨rfl, hb⟩; refine ⟨_, rfl, ?_⟩; have n0_ := Aside0.mk (below_step (by repeat (first | (with_reducible first | exact HB.out | apply below_alloc | apply pw_below_drewN | apply below_drew1) | exact HB.out)) hb); clear HB; have HB := n0_; clear n0_; (try clear hb); (try clear hb2); (try clear hk); (try clear hi); have p296 : 0 ≤ (a1 : Int) := of_decide_eq_true (by first | (with_reducible assumption) | assumption); have q296 : a1 < (l0.length : Int) := of_decide_eq_true (by first | (with_reducible assumption) | assumption); obtain ⟨ad296, e296, hx296_0, hx296_1, hx296_2, hx296_3, hx296_4⟩ := at_T67 HR0.out a1 p296 q296; obtain rfl : ad294 = ad296 := (by injection e296); replace hx296_0 := (HB.out.cell (World.block_lt_of_cell? w _ hx296_0)).trans hx296_0; replace hx296_1 := (HB.out.cell (World.block_lt_of_cell? w _ hx296_1)).trans hx296_1; replace hx296_2 := (HB.out.cell (World.block_lt_of_cell? w _ hx296_2)).trans hx296_2; replace hx296_3 := (HB.out.cell (World.block_lt_of_cell? w _ hx296_3)).trans hx296_3; replace hx296_4 := (HB.out.cell (World.block_lt_of_cell? w _ hx296_4)).trans hx296_4; replace p296 := eq_true p296; replace q296 := eq_true q296) | ((with_reducible refine gate_callee (f := 115) rfl ?_); refine goesL_ (some 18) rfl rfl Tryd.func115 (by kernel_rfl) rfl #[.agg #[.int .i64 ((rd_T67 l0 a1).f0), .int .i64 ((rd_T67 l0 a1).f1), .int .i32 ((rd_T67 l0 a1).f2), .bool ((rd_T67 l0 a1).f3), .int .u8 ((rd_T67 l0 a1).f4)]] rfl (by (try simp only [List.map_toArray, List.map_cons, List.map_nil]); first | done | rfl | (simp only [List.length_drop, List.length_take]; rfl)) ?_; (with_reducible refine (siglumref04_wordy.calls ((rd_T67 l0 a1).f0) ((rd_T67 l0 a1).f1) ((rd_T67 l0 a1).f2) ((rd_T67 l0 a1).f3) ((rd_T67 l0 a1).f4) true _ A6.out).mono ?_); rintro e w10 ⟨rfl, hb⟩; refine ⟨_, rfl, ?_⟩; have n0_ := Aside0.mk (below_step (by repeat (first | (with_reducible first | exact HB.out | apply below_alloc | apply pw_below_drewN | apply below_drew1) | exact HB.out)) hb); clear HB; have HB := n0_; clear n0_; (try clear hb); (try clear hb2); (try clear hk); (try clear hi)) | ((with_reducible refine gate_callee (f := 116) rfl ?_); refine goesL_ (some 21) rfl rfl Tryd.func116 (by kernel_rfl) rfl #[.slice (some ad294) l0.length c0, .int .i64 a1] rfl (by (try simp only [List.map_toArray, List.map_cons, List.map_nil]); first | done | rfl | (simp only [List.length_drop, List.length_take]; rfl)) ?_; (with_reducible refine (siglumref04_word.calls k _ _ l0 a1 t298 _ ?side1 ?side2 A8.out).mono ?_); (case side1 => repeat (first | exact (Kd.C_below HR0.out HB.out) | (with_reducible refine Kd.C_alloc ?_ _) | (with_reducible refine Kd.C_drewN ?_ _) | (with_reducible refine Kd.C_drew ?_))); (case side2 => exact HC0.out); rintro e w11 ⟨rfl, hb⟩; refine ⟨_, rfl, ?_⟩; have n0_ := Aside0.mk (below_step (by repeat (first | (with_reducible first | exact HB.out | apply below_alloc | apply pw_below_drewN | apply below_drew1) | exact HB.out)) hb); clear HB; have HB := n0_; clear n0_; (try clear hb); (try clear hb2); (try clear hk); (try clear hi)))
        go_ret2
        exact ⟨by first | rfl | (simp [errW_none, errW_some] <;> rfl) | (simp [*, errW_none, errW_some] <;> rfl), by repeat (first | (with_reducible first | exact HB.out | apply below_alloc | apply pw_below_drewN | apply below_drew1) | exact HB.out)⟩
      · replace c7 := Bool.eq_false_iff.mpr c7
        subst c7
        have H1 : (if t295 = 5 then (siglumref04_token.l0 k l0 a1) else (if t295 = 6 then (if ((rd_T67 l0 a1).f2) = 13 then (if (wrap64 (a1 + 1)) < (l0.length : Int) then (if 0 ≤ (wrap64 (a1 + 1)) then (if ((rd_T67 l0 (wrap64 (a1 + 1))).f2) = 10 then (some (3, wrap64 (a1 + 2))) else (some (3, wrap64 (a1 + 1)))) else (none)) else (some (3, wrap64 (a1 + 1)))) else (some (3, wrap64 (a1 + 1)))) else (if t295 = 7 then (some (4, wrap64 (a1 + 1))) else (if t295 = 4 then (some (4, wrap64 (a1 + 1))) else (some (5, wrap64 (a1 + 1))))))) = some (r1, r2) := by rw [if_neg (show ¬ (false = true) by decide)] at H; exact H
        clear H
        have H := H1
        clear H1
        by_cases c12 : t295 = 5
        · rw [if_pos c12] at H
          have c12b0 : (t295 == 5) = true := beq_iff_eq.mpr c12
          have c12b1 : (t295 != 5) = false := bne_eq_false_iff_eq.mpr c12
          clear c12
          have H' := Aside0.mk H
          clear H
          have p294 : 0 ≤ (a1 : Int) := of_decide_eq_true (by first | (with_reducible assumption) | assumption)
          have q294 : a1 < (l0.length : Int) := of_decide_eq_true (by first | (with_reducible assumption) | assumption)
          obtain ⟨ad294, e294, hx294_0, hx294_1, hx294_2, hx294_3, hx294_4⟩ := at_T67 HR0.out a1 p294 q294
          cases e294
          replace p294 := eq_true p294
          replace q294 := eq_true q294
          go_enter Tryd.func102, Tryd.ntmps102
          go_wp2_with (first | ((with_reducible refine gate_callee (f := 114) rfl ?_); refine goesL_ (some 12) rfl rfl Tryd.func114 (by kernel_rfl) rfl #[.agg #[.int .i64 ((rd_T67 l0 a1).f0), .int .i64 ((rd_T67 l0 a1).f1), .int .i32 ((rd_T67 l0 a1).f2), .bool ((rd_T67 l0 a1).f3), .int .u8 ((rd_T67 l0 a1).f4)]] rfl (by (try simp only [List.map_toArray, List.map_cons, List.map_nil]); first | done | rfl | (simp only [List.length_drop, List.length_take]; rfl)) ?_; (with_reducible refine (siglumref02_Cell.calls ((rd_T67 l0 a1).f0) ((rd_T67 l0 a1).f1) ((rd_T67 l0 a1).f2) ((rd_T67 l0 a1).f3) ((rd_T67 l0 a1).f4) t295 _ A5.out).mono ?_); rintro e w13 ⟨rfl, hb⟩; refine ⟨_, rfl, ?_⟩; have n0_ := Aside0.mk (below_step (by repeat (first | (with_reducible first | exact HB.out | apply below_alloc | apply pw_below_drewN | apply below_drew1) | exact HB.out)) hb); clear HB; have HB := n0_; clear n0_; (try clear hb); (try clear hb2); (try clear hk); (try clear hi); have p296 : 0 ≤ (a1 : Int) := of_decide_eq_true (by first | (with_reducible assumption) | assumption); have q296 : a1 < (l0.length : Int) := of_decide_eq_true (by first | (with_reducible assumption) | assumption); obtain ⟨ad296, e296, hx296_0, hx296_1, hx296_2, hx296_3, hx296_4⟩ := at_T67 HR0.out a1 p296 q296; obtain rfl : ad294 = ad296 := (by injection e296); replace hx296_0 := (HB.out.cell (World.block_lt_of_cell? w _ hx296_0)).trans hx296_0; replace hx296_1 := (HB.out.cell (World.block_lt_of_cell? w _ hx296_1)).trans hx296_1; replace hx296_2 := (HB.out.cell (World.block_lt_of_cell? w _ hx296_2)).trans hx296_2; replace hx296_3 := (HB.out.cell (World.block_lt_of_cell? w _ hx296_3)).trans hx296_3; replace hx296_4 := (HB.out.cell (World.block_lt_of_cell? w _ hx296_4)).trans hx296_4; replace p296 := eq_true p296; replace q296 := eq_true q296) | ((with_reducible refine gate_callee (f := 115) rfl ?_); refine goesL_ (some 18) rfl rfl Tryd.func115 (by kernel_rfl) rfl #[.agg #[.int .i64 ((rd_T67 l0 a1).f0), .int .i64 ((rd_T67 l0 a1).f1), .int .i32 ((rd_T67 l0 a1).f2), .bool ((rd_T67 l0 a1).f3), .int .u8 ((rd_T67 l0 a1).f4)]] rfl (by (try simp only [List.map_toArray, List.map_cons, List.map_nil]); first | done | rfl | (simp only [List.length_drop, List.length_take]; rfl)) ?_; (with_reducible refine (siglumref04_wordy.calls ((rd_T67 l0 a1).f0) ((rd_T67 l0 a1).f1) ((rd_T67 l0 a1).f2) ((rd_T67 l0 a1).f3) ((rd_T67 l0 a1).f4) false _ A6.out).mono ?_); rintro e w14 ⟨rfl, hb⟩; refine ⟨_, rfl, ?_⟩; have n0_ := Aside0.mk (below_step (by repeat (first | (with_reducible first | exact HB.out | apply below_alloc | apply pw_below_drewN | apply below_drew1) | exact HB.out)) hb); clear HB; have HB := n0_; clear n0_; (try clear hb); (try clear hb2); (try clear hk); (try clear hi)))
          go_loopg [7] k (fun kq v7 w' => ∃ (x7_1 : Int), v7 = .int .i64 x7_1 ∧ Aside0 (siglumref04_token.l0 kq l0 x7_1 = some (r1, r2)) ∧ Aside0 (kq ≤ k) ∧ Aside0 (Below w.heap.size w w'))
          case atStart => exact ⟨(a1), (by first | rfl | (simp; done) | (simp [*]; done)), H', ⟨Nat.le_refl _⟩, ⟨by repeat (first | (with_reducible first | exact HB.out | apply below_alloc | apply pw_below_drewN | apply below_drew1) | exact HB.out)⟩⟩
          case round =>
            clear H'
            try clear c1
            try clear p2
            try clear q2
            try clear hx2
            try clear c3
            try clear c3b0
            try clear c4
            try clear c4b0
            try clear p6
            try clear c7
            try clear c10
            try clear c11
            try clear c12
            try clear c12b0
            try clear c12b1
            try clear hx294_0
            try clear hx294_1
            try clear hx294_2
            try clear hx294_3
            try clear hx294_4
            try clear hx296_0
            try clear hx296_1
            try clear hx296_2
            try clear hx296_3
            try clear hx296_4
            try clear p294
            try clear p296
            try clear q294
            try clear q296
            obtain ⟨x7_1, rfl, HA, HK1, HB⟩ := hrel
            cases gk with
            | zero => exact absurd HA.out (by simp [siglumref04_token.l0])
            | succ k1 =>
              have H := HA.out
              clear HA
              simp only [siglumref04_token.l0] at H
              by_cases c15 : x7_1 < (l0.length : Int)
              · rw [if_pos c15] at H
                have c15b0 : decide (x7_1 < (l0.length : Int)) = true := decide_eq_true c15
                clear c15
                by_cases c16 : 0 ≤ x7_1
                · rw [if_pos c16] at H
                  have c16b0 : decide (0 ≤ x7_1) = true := decide_eq_true c16
                  clear c16
                  replace H := Option.bind_eq_some_iff.mp H
                  obtain ⟨t300, A170, H⟩ := H
                  replace H : (if t300 = 5 then (siglumref04_token.l0 k1 l0 (wrap64 (x7_1 + 1))) else (some (2, x7_1))) = some (r1, r2) := H
                  have A17 := Aside0.mk A170
                  clear A170
                  by_cases c18 : t300 = 5
                  · rw [if_pos c18] at H
                    have c18b0 : (t300 == 5) = true := beq_iff_eq.mpr c18
                    have c18b1 : (t300 != 5) = false := bne_eq_false_iff_eq.mpr c18
                    clear c18
                    have H' := Aside0.mk H
                    clear H
                    have p299 : 0 ≤ (x7_1 : Int) := of_decide_eq_true (by first | (with_reducible assumption) | assumption)
                    have q299 : x7_1 < (l0.length : Int) := of_decide_eq_true (by first | (with_reducible assumption) | assumption)
                    obtain ⟨ad299, e299, hx299_0, hx299_1, hx299_2, hx299_3, hx299_4⟩ := at_T67 HR0.out x7_1 p299 q299
                    obtain rfl : ad294 = ad299 := (by injection e299)
                    replace hx299_0 := (HB.out.cell (World.block_lt_of_cell? w _ hx299_0)).trans hx299_0
                    replace hx299_1 := (HB.out.cell (World.block_lt_of_cell? w _ hx299_1)).trans hx299_1
                    replace hx299_2 := (HB.out.cell (World.block_lt_of_cell? w _ hx299_2)).trans hx299_2
                    replace hx299_3 := (HB.out.cell (World.block_lt_of_cell? w _ hx299_3)).trans hx299_3
                    replace hx299_4 := (HB.out.cell (World.block_lt_of_cell? w _ hx299_4)).trans hx299_4
                    replace p299 := eq_true p299
                    replace q299 := eq_true q299
                    go_wp2_with (first | (go_at_call 114; (with_reducible refine (siglumref02_Cell.calls ((rd_T67 l0 x7_1).f0) ((rd_T67 l0 x7_1).f1) ((rd_T67 l0 x7_1).f2) ((rd_T67 l0 x7_1).f3) ((rd_T67 l0 x7_1).f4) t300 _ A17.out).mono ?_); rintro e w19 ⟨rfl, hb⟩; have n0_ := Aside0.mk (below_step (by repeat (first | (with_reducible first | exact HB.out | apply below_alloc | apply pw_below_drewN | apply below_drew1) | exact HB.out)) hb); clear HB; have HB := n0_; clear n0_; (try clear hb); (try clear hb2); (try clear hk); (try clear hi)))
                    go_roundg k1
                    case measure => have := HK1.out; omega
                    case rel => exact ⟨(wrap64 (x7_1 + 1)), (by first | rfl | (simp; done) | (simp [*]; done)), H', ⟨by have := HK1.out; omega⟩, ⟨by repeat (first | (with_reducible first | exact HB.out | apply below_alloc | apply pw_below_drewN | apply below_drew1) | exact HB.out)⟩⟩
                  · rw [if_neg c18] at H
                    have c18b0 : (t300 == 5) = false := beq_eq_false_iff_ne.mpr c18
                    have c18b1 : (t300 != 5) = true := bne_iff_ne.mpr c18
                    simp only [Option.some.injEq, Prod.mk.injEq] at H
                    obtain ⟨rfl, rfl⟩ := H
                    have p299 : 0 ≤ (x7_1 : Int) := of_decide_eq_true (by first | (with_reducible assumption) | assumption)
                    have q299 : x7_1 < (l0.length : Int) := of_decide_eq_true (by first | (with_reducible assumption) | assumption)
                    obtain ⟨ad299, e299, hx299_0, hx299_1, hx299_2, hx299_3, hx299_4⟩ := at_T67 HR0.out x7_1 p299 q299
                    obtain rfl : ad294 = ad299 := (by injection e299)
                    replace hx299_0 := (HB.out.cell (World.block_lt_of_cell? w _ hx299_0)).trans hx299_0
                    replace hx299_1 := (HB.out.cell (World.block_lt_of_cell? w _ hx299_1)).trans hx299_1
                    replace hx299_2 := (HB.out.cell (World.block_lt_of_cell? w _ hx299_2)).trans hx299_2
                    replace hx299_3 := (HB.out.cell (World.block_lt_of_cell? w _ hx299_3)).trans hx299_3
                    replace hx299_4 := (HB.out.cell (World.block_lt_of_cell? w _ hx299_4)).trans hx299_4
                    replace p299 := eq_true p299
                    replace q299 := eq_true q299
                    go_wp2_with (first | (go_at_call 114; (with_reducible refine (siglumref02_Cell.calls ((rd_T67 l0 x7_1).f0) ((rd_T67 l0 x7_1).f1) ((rd_T67 l0 x7_1).f2) ((rd_T67 l0 x7_1).f3) ((rd_T67 l0 x7_1).f4) t300 _ A17.out).mono ?_); rintro e w20 ⟨rfl, hb⟩; have n0_ := Aside0.mk (below_step (by repeat (first | (with_reducible first | exact HB.out | apply below_alloc | apply pw_below_drewN | apply below_drew1) | exact HB.out)) hb); clear HB; have HB := n0_; clear n0_; (try clear hb); (try clear hb2); (try clear hk); (try clear hi)))
                    go_ret2
                    exact ⟨by first | rfl | (simp [errW_none, errW_some] <;> rfl) | (simp [*, errW_none, errW_some] <;> rfl), by repeat (first | (with_reducible first | exact HB.out | apply below_alloc | apply pw_below_drewN | apply below_drew1) | exact HB.out)⟩
                · rw [if_neg c16] at H
                  exact absurd H (by simp)
              · rw [if_neg c15] at H
                have c15b0 : decide (x7_1 < (l0.length : Int)) = false := decide_eq_false c15
                clear c15
                simp only [Option.some.injEq, Prod.mk.injEq] at H
                obtain ⟨rfl, rfl⟩ := H
                go_wp2
                go_ret2
                exact ⟨by first | rfl | (simp [errW_none, errW_some] <;> rfl) | (simp [*, errW_none, errW_some] <;> rfl), by repeat (first | (with_reducible first | exact HB.out | apply below_alloc | apply pw_below_drewN | apply below_drew1) | exact HB.out)⟩
        · rw [if_neg c12] at H
          have c12b0 : (t295 == 5) = false := beq_eq_false_iff_ne.mpr c12
          have c12b1 : (t295 != 5) = true := bne_iff_ne.mpr c12
          by_cases c21 : t295 = 6
          · rw [if_pos c21] at H
            have c21b0 : (t295 == 6) = true := beq_iff_eq.mpr c21
            have c21b1 : (t295 != 6) = false := bne_eq_false_iff_eq.mpr c21
            clear c21
            by_cases c22 : ((rd_T67 l0 a1).f2) = 13
            · rw [if_pos c22] at H
              have c22b0 : (((rd_T67 l0 a1).f2) == 13) = true := beq_iff_eq.mpr c22
              have c22b1 : (((rd_T67 l0 a1).f2) != 13) = false := bne_eq_false_iff_eq.mpr c22
              clear c22
              by_cases c23 : (wrap64 (a1 + 1)) < (l0.length : Int)
              · rw [if_pos c23] at H
                have c23b0 : decide ((wrap64 (a1 + 1)) < (l0.length : Int)) = true := decide_eq_true c23
                clear c23
                obtain ⟨ji24, hji24⟩ : ∃ j_ : Int, (wrap64 (a1 + 1)) = j_ := ⟨_, rfl⟩
                replace H : (if 0 ≤ (ji24) then (if ((rd_T67 l0 (ji24)).f2) = 10 then (some (3, wrap64 (a1 + 2))) else (some (3, ji24))) else (none)) = some (r1, r2) := by first | (rw [hji24] at H; exact H) | (simp only [hji24] at H ⊢; exact H)
                (try rw [hji24] at c23b0)
                (try rw [hji24] at A5)
                (try rw [hji24] at A6)
                have hji24w : (IntKind.i64.wrap (a1 + 1)) = ji24 := (i64_w _).trans hji24
                by_cases c25 : 0 ≤ (ji24)
                · rw [if_pos c25] at H
                  have c25b0 : decide (0 ≤ (ji24)) = true := decide_eq_true c25
                  clear c25
                  by_cases c26 : ((rd_T67 l0 (ji24)).f2) = 10
                  · rw [if_pos c26] at H
                    have c26b0 : (((rd_T67 l0 (ji24)).f2) == 10) = true := beq_iff_eq.mpr c26
                    have c26b1 : (((rd_T67 l0 (ji24)).f2) != 10) = false := bne_eq_false_iff_eq.mpr c26
                    clear c26
                    simp only [Option.some.injEq, Prod.mk.injEq] at H
                    obtain ⟨rfl, rfl⟩ := H
                    have p294 : 0 ≤ (a1 : Int) := of_decide_eq_true (by first | (with_reducible assumption) | assumption)
                    have q294 : a1 < (l0.length : Int) := of_decide_eq_true (by first | (with_reducible assumption) | assumption)
                    obtain ⟨ad294, e294, hx294_0, hx294_1, hx294_2, hx294_3, hx294_4⟩ := at_T67 HR0.out a1 p294 q294
                    cases e294
                    replace p294 := eq_true p294
                    replace q294 := eq_true q294
                    go_enter Tryd.func102, Tryd.ntmps102
                    go_wp2_with (first | ((with_reducible refine gate_callee (f := 114) rfl ?_); refine goesL_ (some 12) rfl rfl Tryd.func114 (by kernel_rfl) rfl #[.agg #[.int .i64 ((rd_T67 l0 a1).f0), .int .i64 ((rd_T67 l0 a1).f1), .int .i32 ((rd_T67 l0 a1).f2), .bool ((rd_T67 l0 a1).f3), .int .u8 ((rd_T67 l0 a1).f4)]] rfl (by (try simp only [List.map_toArray, List.map_cons, List.map_nil]); first | done | rfl | (simp only [List.length_drop, List.length_take]; rfl)) ?_; (with_reducible refine (siglumref02_Cell.calls ((rd_T67 l0 a1).f0) ((rd_T67 l0 a1).f1) ((rd_T67 l0 a1).f2) ((rd_T67 l0 a1).f3) ((rd_T67 l0 a1).f4) t295 _ A5.out).mono ?_); rintro e w27 ⟨rfl, hb⟩; refine ⟨_, rfl, ?_⟩; have n0_ := Aside0.mk (below_step (by repeat (first | (with_reducible first | exact HB.out | apply below_alloc | apply pw_below_drewN | apply below_drew1) | exact HB.out)) hb); clear HB; have HB := n0_; clear n0_; (try clear hb); (try clear hb2); (try clear hk); (try clear hi); have p296 : 0 ≤ (a1 : Int) := of_decide_eq_true (by first | (with_reducible assumption) | assumption); have q296 : a1 < (l0.length : Int) := of_decide_eq_true (by first | (with_reducible assumption) | assumption); obtain ⟨ad296, e296, hx296_0, hx296_1, hx296_2, hx296_3, hx296_4⟩ := at_T67 HR0.out a1 p296 q296; obtain rfl : ad294 = ad296 := (by injection e296); replace hx296_0 := (HB.out.cell (World.block_lt_of_cell? w _ hx296_0)).trans hx296_0; replace hx296_1 := (HB.out.cell (World.block_lt_of_cell? w _ hx296_1)).trans hx296_1; replace hx296_2 := (HB.out.cell (World.block_lt_of_cell? w _ hx296_2)).trans hx296_2; replace hx296_3 := (HB.out.cell (World.block_lt_of_cell? w _ hx296_3)).trans hx296_3; replace hx296_4 := (HB.out.cell (World.block_lt_of_cell? w _ hx296_4)).trans hx296_4; replace p296 := eq_true p296; replace q296 := eq_true q296) | ((with_reducible refine gate_callee (f := 115) rfl ?_); refine goesL_ (some 18) rfl rfl Tryd.func115 (by kernel_rfl) rfl #[.agg #[.int .i64 ((rd_T67 l0 a1).f0), .int .i64 ((rd_T67 l0 a1).f1), .int .i32 ((rd_T67 l0 a1).f2), .bool ((rd_T67 l0 a1).f3), .int .u8 ((rd_T67 l0 a1).f4)]] rfl (by (try simp only [List.map_toArray, List.map_cons, List.map_nil]); first | done | rfl | (simp only [List.length_drop, List.length_take]; rfl)) ?_; (with_reducible refine (siglumref04_wordy.calls ((rd_T67 l0 a1).f0) ((rd_T67 l0 a1).f1) ((rd_T67 l0 a1).f2) ((rd_T67 l0 a1).f3) ((rd_T67 l0 a1).f4) false _ A6.out).mono ?_); rintro e w28 ⟨rfl, hb⟩; refine ⟨_, rfl, ?_⟩; have n0_ := Aside0.mk (below_step (by repeat (first | (with_reducible first | exact HB.out | apply below_alloc | apply pw_below_drewN | apply below_drew1) | exact HB.out)) hb); clear HB; have HB := n0_; clear n0_; (try clear hb); (try clear hb2); (try clear hk); (try clear hi); have p301 : 0 ≤ (a1 : Int) := of_decide_eq_true (by first | (with_reducible assumption) | assumption); have q301 : a1 < (l0.length : Int) := of_decide_eq_true (by first | (with_reducible assumption) | assumption); obtain ⟨ad301, e301, hx301_0, hx301_1, hx301_2, hx301_3, hx301_4⟩ := at_T67 HR0.out a1 p301 q301; obtain rfl : ad294 = ad301 := (by injection e301); replace hx301_0 := (HB.out.cell (World.block_lt_of_cell? w _ hx301_0)).trans hx301_0; replace hx301_1 := (HB.out.cell (World.block_lt_of_cell? w _ hx301_1)).trans hx301_1; replace hx301_2 := (HB.out.cell (World.block_lt_of_cell? w _ hx301_2)).trans hx301_2; replace hx301_3 := (HB.out.cell (World.block_lt_of_cell? w _ hx301_3)).trans hx301_3; replace hx301_4 := (HB.out.cell (World.block_lt_of_cell? w _ hx301_4)).trans hx301_4; replace p301 := eq_true p301; replace q301 := eq_true q301; have p302 : 0 ≤ ((ji24) : Int) := of_decide_eq_true (by first | (with_reducible assumption) | assumption); have q302 : (ji24) < (l0.length : Int) := of_decide_eq_true (by first | (with_reducible assumption) | assumption); obtain ⟨ad302, e302, hx302_0, hx302_1, hx302_2, hx302_3, hx302_4⟩ := at_T67 HR0.out (ji24) p302 q302; obtain rfl : ad294 = ad302 := (by injection e302); replace hx302_0 := (HB.out.cell (World.block_lt_of_cell? w _ hx302_0)).trans hx302_0; replace hx302_1 := (HB.out.cell (World.block_lt_of_cell? w _ hx302_1)).trans hx302_1; replace hx302_2 := (HB.out.cell (World.block_lt_of_cell? w _ hx302_2)).trans hx302_2; replace hx302_3 := (HB.out.cell (World.block_lt_of_cell? w _ hx302_3)).trans hx302_3; replace hx302_4 := (HB.out.cell (World.block_lt_of_cell? w _ hx302_4)).trans hx302_4; replace p302 := eq_true p302; replace q302 := eq_true q302))
                    go_ret2
                    exact ⟨by first | rfl | (simp [errW_none, errW_some] <;> rfl) | (simp only [← hji24]; first | rfl | (simp [errW_none, errW_some] <;> rfl)) | (simp [*, errW_none, errW_some] <;> rfl), by repeat (first | (with_reducible first | exact HB.out | apply below_alloc | apply pw_below_drewN | apply below_drew1) | exact HB.out)⟩
                  · rw [if_neg c26] at H
                    have c26b0 : (((rd_T67 l0 (ji24)).f2) == 10) = false := beq_eq_false_iff_ne.mpr c26
                    have c26b1 : (((rd_T67 l0 (ji24)).f2) != 10) = true := bne_iff_ne.mpr c26
                    simp only [Option.some.injEq, Prod.mk.injEq] at H
                    obtain ⟨rfl, rfl⟩ := H
                    have p294 : 0 ≤ (a1 : Int) := of_decide_eq_true (by first | (with_reducible assumption) | assumption)
                    have q294 : a1 < (l0.length : Int) := of_decide_eq_true (by first | (with_reducible assumption) | assumption)
                    obtain ⟨ad294, e294, hx294_0, hx294_1, hx294_2, hx294_3, hx294_4⟩ := at_T67 HR0.out a1 p294 q294
                    cases e294
                    replace p294 := eq_true p294
                    replace q294 := eq_true q294
                    go_enter Tryd.func102, Tryd.ntmps102
                    go_wp2_with (first | ((with_reducible refine gate_callee (f := 114) rfl ?_); refine goesL_ (some 12) rfl rfl Tryd.func114 (by kernel_rfl) rfl #[.agg #[.int .i64 ((rd_T67 l0 a1).f0), .int .i64 ((rd_T67 l0 a1).f1), .int .i32 ((rd_T67 l0 a1).f2), .bool ((rd_T67 l0 a1).f3), .int .u8 ((rd_T67 l0 a1).f4)]] rfl (by (try simp only [List.map_toArray, List.map_cons, List.map_nil]); first | done | rfl | (simp only [List.length_drop, List.length_take]; rfl)) ?_; (with_reducible refine (siglumref02_Cell.calls ((rd_T67 l0 a1).f0) ((rd_T67 l0 a1).f1) ((rd_T67 l0 a1).f2) ((rd_T67 l0 a1).f3) ((rd_T67 l0 a1).f4) t295 _ A5.out).mono ?_); rintro e w29 ⟨rfl, hb⟩; refine ⟨_, rfl, ?_⟩; have n0_ := Aside0.mk (below_step (by repeat (first | (with_reducible first | exact HB.out | apply below_alloc | apply pw_below_drewN | apply below_drew1) | exact HB.out)) hb); clear HB; have HB := n0_; clear n0_; (try clear hb); (try clear hb2); (try clear hk); (try clear hi); have p296 : 0 ≤ (a1 : Int) := of_decide_eq_true (by first | (with_reducible assumption) | assumption); have q296 : a1 < (l0.length : Int) := of_decide_eq_true (by first | (with_reducible assumption) | assumption); obtain ⟨ad296, e296, hx296_0, hx296_1, hx296_2, hx296_3, hx296_4⟩ := at_T67 HR0.out a1 p296 q296; obtain rfl : ad294 = ad296 := (by injection e296); replace hx296_0 := (HB.out.cell (World.block_lt_of_cell? w _ hx296_0)).trans hx296_0; replace hx296_1 := (HB.out.cell (World.block_lt_of_cell? w _ hx296_1)).trans hx296_1; replace hx296_2 := (HB.out.cell (World.block_lt_of_cell? w _ hx296_2)).trans hx296_2; replace hx296_3 := (HB.out.cell (World.block_lt_of_cell? w _ hx296_3)).trans hx296_3; replace hx296_4 := (HB.out.cell (World.block_lt_of_cell? w _ hx296_4)).trans hx296_4; replace p296 := eq_true p296; replace q296 := eq_true q296) | ((with_reducible refine gate_callee (f := 115) rfl ?_); refine goesL_ (some 18) rfl rfl Tryd.func115 (by kernel_rfl) rfl #[.agg #[.int .i64 ((rd_T67 l0 a1).f0), .int .i64 ((rd_T67 l0 a1).f1), .int .i32 ((rd_T67 l0 a1).f2), .bool ((rd_T67 l0 a1).f3), .int .u8 ((rd_T67 l0 a1).f4)]] rfl (by (try simp only [List.map_toArray, List.map_cons, List.map_nil]); first | done | rfl | (simp only [List.length_drop, List.length_take]; rfl)) ?_; (with_reducible refine (siglumref04_wordy.calls ((rd_T67 l0 a1).f0) ((rd_T67 l0 a1).f1) ((rd_T67 l0 a1).f2) ((rd_T67 l0 a1).f3) ((rd_T67 l0 a1).f4) false _ A6.out).mono ?_); rintro e w30 ⟨rfl, hb⟩; refine ⟨_, rfl, ?_⟩; have n0_ := Aside0.mk (below_step (by repeat (first | (with_reducible first | exact HB.out | apply below_alloc | apply pw_below_drewN | apply below_drew1) | exact HB.out)) hb); clear HB; have HB := n0_; clear n0_; (try clear hb); (try clear hb2); (try clear hk); (try clear hi); have p301 : 0 ≤ (a1 : Int) := of_decide_eq_true (by first | (with_reducible assumption) | assumption); have q301 : a1 < (l0.length : Int) := of_decide_eq_true (by first | (with_reducible assumption) | assumption); obtain ⟨ad301, e301, hx301_0, hx301_1, hx301_2, hx301_3, hx301_4⟩ := at_T67 HR0.out a1 p301 q301; obtain rfl : ad294 = ad301 := (by injection e301); replace hx301_0 := (HB.out.cell (World.block_lt_of_cell? w _ hx301_0)).trans hx301_0; replace hx301_1 := (HB.out.cell (World.block_lt_of_cell? w _ hx301_1)).trans hx301_1; replace hx301_2 := (HB.out.cell (World.block_lt_of_cell? w _ hx301_2)).trans hx301_2; replace hx301_3 := (HB.out.cell (World.block_lt_of_cell? w _ hx301_3)).trans hx301_3; replace hx301_4 := (HB.out.cell (World.block_lt_of_cell? w _ hx301_4)).trans hx301_4; replace p301 := eq_true p301; replace q301 := eq_true q301; have p302 : 0 ≤ ((ji24) : Int) := of_decide_eq_true (by first | (with_reducible assumption) | assumption); have q302 : (ji24) < (l0.length : Int) := of_decide_eq_true (by first | (with_reducible assumption) | assumption); obtain ⟨ad302, e302, hx302_0, hx302_1, hx302_2, hx302_3, hx302_4⟩ := at_T67 HR0.out (ji24) p302 q302; obtain rfl : ad294 = ad302 := (by injection e302); replace hx302_0 := (HB.out.cell (World.block_lt_of_cell? w _ hx302_0)).trans hx302_0; replace hx302_1 := (HB.out.cell (World.block_lt_of_cell? w _ hx302_1)).trans hx302_1; replace hx302_2 := (HB.out.cell (World.block_lt_of_cell? w _ hx302_2)).trans hx302_2; replace hx302_3 := (HB.out.cell (World.block_lt_of_cell? w _ hx302_3)).trans hx302_3; replace hx302_4 := (HB.out.cell (World.block_lt_of_cell? w _ hx302_4)).trans hx302_4; replace p302 := eq_true p302; replace q302 := eq_true q302))
                    go_ret2
                    exact ⟨by first | rfl | (simp [errW_none, errW_some] <;> rfl) | (simp only [← hji24]; first | rfl | (simp [errW_none, errW_some] <;> rfl)) | (simp [*, errW_none, errW_some] <;> rfl), by repeat (first | (with_reducible first | exact HB.out | apply below_alloc | apply pw_below_drewN | apply below_drew1) | exact HB.out)⟩
                · rw [if_neg c25] at H
                  exact absurd H (by simp)
              · rw [if_neg c23] at H
                have c23b0 : decide ((wrap64 (a1 + 1)) < (l0.length : Int)) = false := decide_eq_false c23
                clear c23
                simp only [Option.some.injEq, Prod.mk.injEq] at H
                obtain ⟨rfl, rfl⟩ := H
                have p294 : 0 ≤ (a1 : Int) := of_decide_eq_true (by first | (with_reducible assumption) | assumption)
                have q294 : a1 < (l0.length : Int) := of_decide_eq_true (by first | (with_reducible assumption) | assumption)
                obtain ⟨ad294, e294, hx294_0, hx294_1, hx294_2, hx294_3, hx294_4⟩ := at_T67 HR0.out a1 p294 q294
                cases e294
                replace p294 := eq_true p294
                replace q294 := eq_true q294
                go_enter Tryd.func102, Tryd.ntmps102
                go_wp2_with (first | ((with_reducible refine gate_callee (f := 114) rfl ?_); refine goesL_ (some 12) rfl rfl Tryd.func114 (by kernel_rfl) rfl #[.agg #[.int .i64 ((rd_T67 l0 a1).f0), .int .i64 ((rd_T67 l0 a1).f1), .int .i32 ((rd_T67 l0 a1).f2), .bool ((rd_T67 l0 a1).f3), .int .u8 ((rd_T67 l0 a1).f4)]] rfl (by (try simp only [List.map_toArray, List.map_cons, List.map_nil]); first | done | rfl | (simp only [List.length_drop, List.length_take]; rfl)) ?_; (with_reducible refine (siglumref02_Cell.calls ((rd_T67 l0 a1).f0) ((rd_T67 l0 a1).f1) ((rd_T67 l0 a1).f2) ((rd_T67 l0 a1).f3) ((rd_T67 l0 a1).f4) t295 _ A5.out).mono ?_); rintro e w31 ⟨rfl, hb⟩; refine ⟨_, rfl, ?_⟩; have n0_ := Aside0.mk (below_step (by repeat (first | (with_reducible first | exact HB.out | apply below_alloc | apply pw_below_drewN | apply below_drew1) | exact HB.out)) hb); clear HB; have HB := n0_; clear n0_; (try clear hb); (try clear hb2); (try clear hk); (try clear hi); have p296 : 0 ≤ (a1 : Int) := of_decide_eq_true (by first | (with_reducible assumption) | assumption); have q296 : a1 < (l0.length : Int) := of_decide_eq_true (by first | (with_reducible assumption) | assumption); obtain ⟨ad296, e296, hx296_0, hx296_1, hx296_2, hx296_3, hx296_4⟩ := at_T67 HR0.out a1 p296 q296; obtain rfl : ad294 = ad296 := (by injection e296); replace hx296_0 := (HB.out.cell (World.block_lt_of_cell? w _ hx296_0)).trans hx296_0; replace hx296_1 := (HB.out.cell (World.block_lt_of_cell? w _ hx296_1)).trans hx296_1; replace hx296_2 := (HB.out.cell (World.block_lt_of_cell? w _ hx296_2)).trans hx296_2; replace hx296_3 := (HB.out.cell (World.block_lt_of_cell? w _ hx296_3)).trans hx296_3; replace hx296_4 := (HB.out.cell (World.block_lt_of_cell? w _ hx296_4)).trans hx296_4; replace p296 := eq_true p296; replace q296 := eq_true q296) | ((with_reducible refine gate_callee (f := 115) rfl ?_); refine goesL_ (some 18) rfl rfl Tryd.func115 (by kernel_rfl) rfl #[.agg #[.int .i64 ((rd_T67 l0 a1).f0), .int .i64 ((rd_T67 l0 a1).f1), .int .i32 ((rd_T67 l0 a1).f2), .bool ((rd_T67 l0 a1).f3), .int .u8 ((rd_T67 l0 a1).f4)]] rfl (by (try simp only [List.map_toArray, List.map_cons, List.map_nil]); first | done | rfl | (simp only [List.length_drop, List.length_take]; rfl)) ?_; (with_reducible refine (siglumref04_wordy.calls ((rd_T67 l0 a1).f0) ((rd_T67 l0 a1).f1) ((rd_T67 l0 a1).f2) ((rd_T67 l0 a1).f3) ((rd_T67 l0 a1).f4) false _ A6.out).mono ?_); rintro e w32 ⟨rfl, hb⟩; refine ⟨_, rfl, ?_⟩; have n0_ := Aside0.mk (below_step (by repeat (first | (with_reducible first | exact HB.out | apply below_alloc | apply pw_below_drewN | apply below_drew1) | exact HB.out)) hb); clear HB; have HB := n0_; clear n0_; (try clear hb); (try clear hb2); (try clear hk); (try clear hi); have p301 : 0 ≤ (a1 : Int) := of_decide_eq_true (by first | (with_reducible assumption) | assumption); have q301 : a1 < (l0.length : Int) := of_decide_eq_true (by first | (with_reducible assumption) | assumption); obtain ⟨ad301, e301, hx301_0, hx301_1, hx301_2, hx301_3, hx301_4⟩ := at_T67 HR0.out a1 p301 q301; obtain rfl : ad294 = ad301 := (by injection e301); replace hx301_0 := (HB.out.cell (World.block_lt_of_cell? w _ hx301_0)).trans hx301_0; replace hx301_1 := (HB.out.cell (World.block_lt_of_cell? w _ hx301_1)).trans hx301_1; replace hx301_2 := (HB.out.cell (World.block_lt_of_cell? w _ hx301_2)).trans hx301_2; replace hx301_3 := (HB.out.cell (World.block_lt_of_cell? w _ hx301_3)).trans hx301_3; replace hx301_4 := (HB.out.cell (World.block_lt_of_cell? w _ hx301_4)).trans hx301_4; replace p301 := eq_true p301; replace q301 := eq_true q301))
                go_ret2
                exact ⟨by first | rfl | (simp [errW_none, errW_some] <;> rfl) | (simp [*, errW_none, errW_some] <;> rfl), by repeat (first | (with_reducible first | exact HB.out | apply below_alloc | apply pw_below_drewN | apply below_drew1) | exact HB.out)⟩
            · rw [if_neg c22] at H
              have c22b0 : (((rd_T67 l0 a1).f2) == 13) = false := beq_eq_false_iff_ne.mpr c22
              have c22b1 : (((rd_T67 l0 a1).f2) != 13) = true := bne_iff_ne.mpr c22
              simp only [Option.some.injEq, Prod.mk.injEq] at H
              obtain ⟨rfl, rfl⟩ := H
              have p294 : 0 ≤ (a1 : Int) := of_decide_eq_true (by first | (with_reducible assumption) | assumption)
              have q294 : a1 < (l0.length : Int) := of_decide_eq_true (by first | (with_reducible assumption) | assumption)
              obtain ⟨ad294, e294, hx294_0, hx294_1, hx294_2, hx294_3, hx294_4⟩ := at_T67 HR0.out a1 p294 q294
              cases e294
              replace p294 := eq_true p294
              replace q294 := eq_true q294
              go_enter Tryd.func102, Tryd.ntmps102
              go_wp2_with (first | ((with_reducible refine gate_callee (f := 114) rfl ?_); refine goesL_ (some 12) rfl rfl Tryd.func114 (by kernel_rfl) rfl #[.agg #[.int .i64 ((rd_T67 l0 a1).f0), .int .i64 ((rd_T67 l0 a1).f1), .int .i32 ((rd_T67 l0 a1).f2), .bool ((rd_T67 l0 a1).f3), .int .u8 ((rd_T67 l0 a1).f4)]] rfl (by (try simp only [List.map_toArray, List.map_cons, List.map_nil]); first | done | rfl | (simp only [List.length_drop, List.length_take]; rfl)) ?_; (with_reducible refine (siglumref02_Cell.calls ((rd_T67 l0 a1).f0) ((rd_T67 l0 a1).f1) ((rd_T67 l0 a1).f2) ((rd_T67 l0 a1).f3) ((rd_T67 l0 a1).f4) t295 _ A5.out).mono ?_); rintro e w33 ⟨rfl, hb⟩; refine ⟨_, rfl, ?_⟩; have n0_ := Aside0.mk (below_step (by repeat (first | (with_reducible first | exact HB.out | apply below_alloc | apply pw_below_drewN | apply below_drew1) | exact HB.out)) hb); clear HB; have HB := n0_; clear n0_; (try clear hb); (try clear hb2); (try clear hk); (try clear hi); have p296 : 0 ≤ (a1 : Int) := of_decide_eq_true (by first | (with_reducible assumption) | assumption); have q296 : a1 < (l0.length : Int) := of_decide_eq_true (by first | (with_reducible assumption) | assumption); obtain ⟨ad296, e296, hx296_0, hx296_1, hx296_2, hx296_3, hx296_4⟩ := at_T67 HR0.out a1 p296 q296; obtain rfl : ad294 = ad296 := (by injection e296); replace hx296_0 := (HB.out.cell (World.block_lt_of_cell? w _ hx296_0)).trans hx296_0; replace hx296_1 := (HB.out.cell (World.block_lt_of_cell? w _ hx296_1)).trans hx296_1; replace hx296_2 := (HB.out.cell (World.block_lt_of_cell? w _ hx296_2)).trans hx296_2; replace hx296_3 := (HB.out.cell (World.block_lt_of_cell? w _ hx296_3)).trans hx296_3; replace hx296_4 := (HB.out.cell (World.block_lt_of_cell? w _ hx296_4)).trans hx296_4; replace p296 := eq_true p296; replace q296 := eq_true q296) | ((with_reducible refine gate_callee (f := 115) rfl ?_); refine goesL_ (some 18) rfl rfl Tryd.func115 (by kernel_rfl) rfl #[.agg #[.int .i64 ((rd_T67 l0 a1).f0), .int .i64 ((rd_T67 l0 a1).f1), .int .i32 ((rd_T67 l0 a1).f2), .bool ((rd_T67 l0 a1).f3), .int .u8 ((rd_T67 l0 a1).f4)]] rfl (by (try simp only [List.map_toArray, List.map_cons, List.map_nil]); first | done | rfl | (simp only [List.length_drop, List.length_take]; rfl)) ?_; (with_reducible refine (siglumref04_wordy.calls ((rd_T67 l0 a1).f0) ((rd_T67 l0 a1).f1) ((rd_T67 l0 a1).f2) ((rd_T67 l0 a1).f3) ((rd_T67 l0 a1).f4) false _ A6.out).mono ?_); rintro e w34 ⟨rfl, hb⟩; refine ⟨_, rfl, ?_⟩; have n0_ := Aside0.mk (below_step (by repeat (first | (with_reducible first | exact HB.out | apply below_alloc | apply pw_below_drewN | apply below_drew1) | exact HB.out)) hb); clear HB; have HB := n0_; clear n0_; (try clear hb); (try clear hb2); (try clear hk); (try clear hi); have p301 : 0 ≤ (a1 : Int) := of_decide_eq_true (by first | (with_reducible assumption) | assumption); have q301 : a1 < (l0.length : Int) := of_decide_eq_true (by first | (with_reducible assumption) | assumption); obtain ⟨ad301, e301, hx301_0, hx301_1, hx301_2, hx301_3, hx301_4⟩ := at_T67 HR0.out a1 p301 q301; obtain rfl : ad294 = ad301 := (by injection e301); replace hx301_0 := (HB.out.cell (World.block_lt_of_cell? w _ hx301_0)).trans hx301_0; replace hx301_1 := (HB.out.cell (World.block_lt_of_cell? w _ hx301_1)).trans hx301_1; replace hx301_2 := (HB.out.cell (World.block_lt_of_cell? w _ hx301_2)).trans hx301_2; replace hx301_3 := (HB.out.cell (World.block_lt_of_cell? w _ hx301_3)).trans hx301_3; replace hx301_4 := (HB.out.cell (World.block_lt_of_cell? w _ hx301_4)).trans hx301_4; replace p301 := eq_true p301; replace q301 := eq_true q301))
              go_ret2
              exact ⟨by first | rfl | (simp [errW_none, errW_some] <;> rfl) | (simp [*, errW_none, errW_some] <;> rfl), by repeat (first | (with_reducible first | exact HB.out | apply below_alloc | apply pw_below_drewN | apply below_drew1) | exact HB.out)⟩
          · rw [if_neg c21] at H
            have c21b0 : (t295 == 6) = false := beq_eq_false_iff_ne.mpr c21
            have c21b1 : (t295 != 6) = true := bne_iff_ne.mpr c21
            by_cases c35 : t295 = 7
            · rw [if_pos c35] at H
              have c35b0 : (t295 == 7) = true := beq_iff_eq.mpr c35
              have c35b1 : (t295 != 7) = false := bne_eq_false_iff_eq.mpr c35
              clear c35
              simp only [Option.some.injEq, Prod.mk.injEq] at H
              obtain ⟨rfl, rfl⟩ := H
              have p294 : 0 ≤ (a1 : Int) := of_decide_eq_true (by first | (with_reducible assumption) | assumption)
              have q294 : a1 < (l0.length : Int) := of_decide_eq_true (by first | (with_reducible assumption) | assumption)
              obtain ⟨ad294, e294, hx294_0, hx294_1, hx294_2, hx294_3, hx294_4⟩ := at_T67 HR0.out a1 p294 q294
              cases e294
              replace p294 := eq_true p294
              replace q294 := eq_true q294
              go_enter Tryd.func102, Tryd.ntmps102
              go_wp2_with (first | ((with_reducible refine gate_callee (f := 114) rfl ?_); refine goesL_ (some 12) rfl rfl Tryd.func114 (by kernel_rfl) rfl #[.agg #[.int .i64 ((rd_T67 l0 a1).f0), .int .i64 ((rd_T67 l0 a1).f1), .int .i32 ((rd_T67 l0 a1).f2), .bool ((rd_T67 l0 a1).f3), .int .u8 ((rd_T67 l0 a1).f4)]] rfl (by (try simp only [List.map_toArray, List.map_cons, List.map_nil]); first | done | rfl | (simp only [List.length_drop, List.length_take]; rfl)) ?_; (with_reducible refine (siglumref02_Cell.calls ((rd_T67 l0 a1).f0) ((rd_T67 l0 a1).f1) ((rd_T67 l0 a1).f2) ((rd_T67 l0 a1).f3) ((rd_T67 l0 a1).f4) t295 _ A5.out).mono ?_); rintro e w36 ⟨rfl, hb⟩; refine ⟨_, rfl, ?_⟩; have n0_ := Aside0.mk (below_step (by repeat (first | (with_reducible first | exact HB.out | apply below_alloc | apply pw_below_drewN | apply below_drew1) | exact HB.out)) hb); clear HB; have HB := n0_; clear n0_; (try clear hb); (try clear hb2); (try clear hk); (try clear hi); have p296 : 0 ≤ (a1 : Int) := of_decide_eq_true (by first | (with_reducible assumption) | assumption); have q296 : a1 < (l0.length : Int) := of_decide_eq_true (by first | (with_reducible assumption) | assumption); obtain ⟨ad296, e296, hx296_0, hx296_1, hx296_2, hx296_3, hx296_4⟩ := at_T67 HR0.out a1 p296 q296; obtain rfl : ad294 = ad296 := (by injection e296); replace hx296_0 := (HB.out.cell (World.block_lt_of_cell? w _ hx296_0)).trans hx296_0; replace hx296_1 := (HB.out.cell (World.block_lt_of_cell? w _ hx296_1)).trans hx296_1; replace hx296_2 := (HB.out.cell (World.block_lt_of_cell? w _ hx296_2)).trans hx296_2; replace hx296_3 := (HB.out.cell (World.block_lt_of_cell? w _ hx296_3)).trans hx296_3; replace hx296_4 := (HB.out.cell (World.block_lt_of_cell? w _ hx296_4)).trans hx296_4; replace p296 := eq_true p296; replace q296 := eq_true q296) | ((with_reducible refine gate_callee (f := 115) rfl ?_); refine goesL_ (some 18) rfl rfl Tryd.func115 (by kernel_rfl) rfl #[.agg #[.int .i64 ((rd_T67 l0 a1).f0), .int .i64 ((rd_T67 l0 a1).f1), .int .i32 ((rd_T67 l0 a1).f2), .bool ((rd_T67 l0 a1).f3), .int .u8 ((rd_T67 l0 a1).f4)]] rfl (by (try simp only [List.map_toArray, List.map_cons, List.map_nil]); first | done | rfl | (simp only [List.length_drop, List.length_take]; rfl)) ?_; (with_reducible refine (siglumref04_wordy.calls ((rd_T67 l0 a1).f0) ((rd_T67 l0 a1).f1) ((rd_T67 l0 a1).f2) ((rd_T67 l0 a1).f3) ((rd_T67 l0 a1).f4) false _ A6.out).mono ?_); rintro e w37 ⟨rfl, hb⟩; refine ⟨_, rfl, ?_⟩; have n0_ := Aside0.mk (below_step (by repeat (first | (with_reducible first | exact HB.out | apply below_alloc | apply pw_below_drewN | apply below_drew1) | exact HB.out)) hb); clear HB; have HB := n0_; clear n0_; (try clear hb); (try clear hb2); (try clear hk); (try clear hi)))
              go_ret2
              exact ⟨by first | rfl | (simp [errW_none, errW_some] <;> rfl) | (simp [*, errW_none, errW_some] <;> rfl), by repeat (first | (with_reducible first | exact HB.out | apply below_alloc | apply pw_below_drewN | apply below_drew1) | exact HB.out)⟩
            · rw [if_neg c35] at H
              have c35b0 : (t295 == 7) = false := beq_eq_false_iff_ne.mpr c35
              have c35b1 : (t295 != 7) = true := bne_iff_ne.mpr c35
              by_cases c38 : t295 = 4
              · rw [if_pos c38] at H
                have c38b0 : (t295 == 4) = true := beq_iff_eq.mpr c38
                have c38b1 : (t295 != 4) = false := bne_eq_false_iff_eq.mpr c38
                clear c38
                simp only [Option.some.injEq, Prod.mk.injEq] at H
                obtain ⟨rfl, rfl⟩ := H
                have p294 : 0 ≤ (a1 : Int) := of_decide_eq_true (by first | (with_reducible assumption) | assumption)
                have q294 : a1 < (l0.length : Int) := of_decide_eq_true (by first | (with_reducible assumption) | assumption)
                obtain ⟨ad294, e294, hx294_0, hx294_1, hx294_2, hx294_3, hx294_4⟩ := at_T67 HR0.out a1 p294 q294
                cases e294
                replace p294 := eq_true p294
                replace q294 := eq_true q294
                go_enter Tryd.func102, Tryd.ntmps102
                go_wp2_with (first | ((with_reducible refine gate_callee (f := 114) rfl ?_); refine goesL_ (some 12) rfl rfl Tryd.func114 (by kernel_rfl) rfl #[.agg #[.int .i64 ((rd_T67 l0 a1).f0), .int .i64 ((rd_T67 l0 a1).f1), .int .i32 ((rd_T67 l0 a1).f2), .bool ((rd_T67 l0 a1).f3), .int .u8 ((rd_T67 l0 a1).f4)]] rfl (by (try simp only [List.map_toArray, List.map_cons, List.map_nil]); first | done | rfl | (simp only [List.length_drop, List.length_take]; rfl)) ?_; (with_reducible refine (siglumref02_Cell.calls ((rd_T67 l0 a1).f0) ((rd_T67 l0 a1).f1) ((rd_T67 l0 a1).f2) ((rd_T67 l0 a1).f3) ((rd_T67 l0 a1).f4) t295 _ A5.out).mono ?_); rintro e w39 ⟨rfl, hb⟩; refine ⟨_, rfl, ?_⟩; have n0_ := Aside0.mk (below_step (by repeat (first | (with_reducible first | exact HB.out | apply below_alloc | apply pw_below_drewN | apply below_drew1) | exact HB.out)) hb); clear HB; have HB := n0_; clear n0_; (try clear hb); (try clear hb2); (try clear hk); (try clear hi); have p296 : 0 ≤ (a1 : Int) := of_decide_eq_true (by first | (with_reducible assumption) | assumption); have q296 : a1 < (l0.length : Int) := of_decide_eq_true (by first | (with_reducible assumption) | assumption); obtain ⟨ad296, e296, hx296_0, hx296_1, hx296_2, hx296_3, hx296_4⟩ := at_T67 HR0.out a1 p296 q296; obtain rfl : ad294 = ad296 := (by injection e296); replace hx296_0 := (HB.out.cell (World.block_lt_of_cell? w _ hx296_0)).trans hx296_0; replace hx296_1 := (HB.out.cell (World.block_lt_of_cell? w _ hx296_1)).trans hx296_1; replace hx296_2 := (HB.out.cell (World.block_lt_of_cell? w _ hx296_2)).trans hx296_2; replace hx296_3 := (HB.out.cell (World.block_lt_of_cell? w _ hx296_3)).trans hx296_3; replace hx296_4 := (HB.out.cell (World.block_lt_of_cell? w _ hx296_4)).trans hx296_4; replace p296 := eq_true p296; replace q296 := eq_true q296) | ((with_reducible refine gate_callee (f := 115) rfl ?_); refine goesL_ (some 18) rfl rfl Tryd.func115 (by kernel_rfl) rfl #[.agg #[.int .i64 ((rd_T67 l0 a1).f0), .int .i64 ((rd_T67 l0 a1).f1), .int .i32 ((rd_T67 l0 a1).f2), .bool ((rd_T67 l0 a1).f3), .int .u8 ((rd_T67 l0 a1).f4)]] rfl (by (try simp only [List.map_toArray, List.map_cons, List.map_nil]); first | done | rfl | (simp only [List.length_drop, List.length_take]; rfl)) ?_; (with_reducible refine (siglumref04_wordy.calls ((rd_T67 l0 a1).f0) ((rd_T67 l0 a1).f1) ((rd_T67 l0 a1).f2) ((rd_T67 l0 a1).f3) ((rd_T67 l0 a1).f4) false _ A6.out).mono ?_); rintro e w40 ⟨rfl, hb⟩; refine ⟨_, rfl, ?_⟩; have n0_ := Aside0.mk (below_step (by repeat (first | (with_reducible first | exact HB.out | apply below_alloc | apply pw_below_drewN | apply below_drew1) | exact HB.out)) hb); clear HB; have HB := n0_; clear n0_; (try clear hb); (try clear hb2); (try clear hk); (try clear hi)))
                go_ret2
                exact ⟨by first | rfl | (simp [errW_none, errW_some] <;> rfl) | (simp [*, errW_none, errW_some] <;> rfl), by repeat (first | (with_reducible first | exact HB.out | apply below_alloc | apply pw_below_drewN | apply below_drew1) | exact HB.out)⟩
              · rw [if_neg c38] at H
                have c38b0 : (t295 == 4) = false := beq_eq_false_iff_ne.mpr c38
                have c38b1 : (t295 != 4) = true := bne_iff_ne.mpr c38
                simp only [Option.some.injEq, Prod.mk.injEq] at H
                obtain ⟨rfl, rfl⟩ := H
                have p294 : 0 ≤ (a1 : Int) := of_decide_eq_true (by first | (with_reducible assumption) | assumption)
                have q294 : a1 < (l0.length : Int) := of_decide_eq_true (by first | (with_reducible assumption) | assumption)
                obtain ⟨ad294, e294, hx294_0, hx294_1, hx294_2, hx294_3, hx294_4⟩ := at_T67 HR0.out a1 p294 q294
                cases e294
                replace p294 := eq_true p294
                replace q294 := eq_true q294
                go_enter Tryd.func102, Tryd.ntmps102
                go_wp2_with (first | ((with_reducible refine gate_callee (f := 114) rfl ?_); refine goesL_ (some 12) rfl rfl Tryd.func114 (by kernel_rfl) rfl #[.agg #[.int .i64 ((rd_T67 l0 a1).f0), .int .i64 ((rd_T67 l0 a1).f1), .int .i32 ((rd_T67 l0 a1).f2), .bool ((rd_T67 l0 a1).f3), .int .u8 ((rd_T67 l0 a1).f4)]] rfl (by (try simp only [List.map_toArray, List.map_cons, List.map_nil]); first | done | rfl | (simp only [List.length_drop, List.length_take]; rfl)) ?_; (with_reducible refine (siglumref02_Cell.calls ((rd_T67 l0 a1).f0) ((rd_T67 l0 a1).f1) ((rd_T67 l0 a1).f2) ((rd_T67 l0 a1).f3) ((rd_T67 l0 a1).f4) t295 _ A5.out).mono ?_); rintro e w41 ⟨rfl, hb⟩; refine ⟨_, rfl, ?_⟩; have n0_ := Aside0.mk (below_step (by repeat (first | (with_reducible first | exact HB.out | apply below_alloc | apply pw_below_drewN | apply below_drew1) | exact HB.out)) hb); clear HB; have HB := n0_; clear n0_; (try clear hb); (try clear hb2); (try clear hk); (try clear hi); have p296 : 0 ≤ (a1 : Int) := of_decide_eq_true (by first | (with_reducible assumption) | assumption); have q296 : a1 < (l0.length : Int) := of_decide_eq_true (by first | (with_reducible assumption) | assumption); obtain ⟨ad296, e296, hx296_0, hx296_1, hx296_2, hx296_3, hx296_4⟩ := at_T67 HR0.out a1 p296 q296; obtain rfl : ad294 = ad296 := (by injection e296); replace hx296_0 := (HB.out.cell (World.block_lt_of_cell? w _ hx296_0)).trans hx296_0; replace hx296_1 := (HB.out.cell (World.block_lt_of_cell? w _ hx296_1)).trans hx296_1; replace hx296_2 := (HB.out.cell (World.block_lt_of_cell? w _ hx296_2)).trans hx296_2; replace hx296_3 := (HB.out.cell (World.block_lt_of_cell? w _ hx296_3)).trans hx296_3; replace hx296_4 := (HB.out.cell (World.block_lt_of_cell? w _ hx296_4)).trans hx296_4; replace p296 := eq_true p296; replace q296 := eq_true q296) | ((with_reducible refine gate_callee (f := 115) rfl ?_); refine goesL_ (some 18) rfl rfl Tryd.func115 (by kernel_rfl) rfl #[.agg #[.int .i64 ((rd_T67 l0 a1).f0), .int .i64 ((rd_T67 l0 a1).f1), .int .i32 ((rd_T67 l0 a1).f2), .bool ((rd_T67 l0 a1).f3), .int .u8 ((rd_T67 l0 a1).f4)]] rfl (by (try simp only [List.map_toArray, List.map_cons, List.map_nil]); first | done | rfl | (simp only [List.length_drop, List.length_take]; rfl)) ?_; (with_reducible refine (siglumref04_wordy.calls ((rd_T67 l0 a1).f0) ((rd_T67 l0 a1).f1) ((rd_T67 l0 a1).f2) ((rd_T67 l0 a1).f3) ((rd_T67 l0 a1).f4) false _ A6.out).mono ?_); rintro e w42 ⟨rfl, hb⟩; refine ⟨_, rfl, ?_⟩; have n0_ := Aside0.mk (below_step (by repeat (first | (with_reducible first | exact HB.out | apply below_alloc | apply pw_below_drewN | apply below_drew1) | exact HB.out)) hb); clear HB; have HB := n0_; clear n0_; (try clear hb); (try clear hb2); (try clear hk); (try clear hi)))
                go_ret2
                exact ⟨by first | rfl | (simp [errW_none, errW_some] <;> rfl) | (simp [*, errW_none, errW_some] <;> rfl), by repeat (first | (with_reducible first | exact HB.out | apply below_alloc | apply pw_below_drewN | apply below_drew1) | exact HB.out)⟩
    · rw [if_neg c4] at H
      exact absurd H (by simp)
  · rw [if_neg c3] at H
    exact absurd H (by simp)
end Go.Proofs.YtblpiceallbfjaaDoor.Pr
namespace Go.Proofs.YtblpiceallbfjaaDoor.Pr
open Go.RowKit Go.Proofs.YtblpiceallbfjaaDoorW.PrintWords Go.Proofs.YtblpiceallbfjaaDoorW.PrintLast Go.Proofs.YtblpiceallbfjaaDoorW.PrintMore
attribute [local go_sem] max2_int min2_int max_two min_two max_three min_three max_four min_four   -- for this text's walks alone
set_option linter.unusedVariables false
set_option linter.unusedSimpArgs false
def siglumref04_Tokens.l0 : Nat → ByteArray → List (S67) → List (S125) → Int → Option ((List (S125)) × Int)
  | 0, _, _, _, _ => none
  | k + 1, x0, x4, x5, x6 => if x6 < (x4.length : Int) then ((siglumref04_token.f k x4 x6).bind fun bt306 => (if bt306.2 < (x4.length : Int) then (if 0 ≤ bt306.2 then (if 0 ≤ x6 then (if 0 ≤ ((rd_T67 x4 x6).f0) then (if ((rd_T67 x4 x6).f0) ≤ ((rd_T67 x4 bt306.2).f0) then (if ((rd_T67 x4 bt306.2).f0) ≤ (x0.size : Int) then (if x5.length < 4398046511104 then (siglumref04_Tokens.l0 k x0 x4 (x5 ++ [(⟨bt306.1, (rd_T67 x4 x6).f0, x0.extract (((rd_T67 x4 x6).f0) : Int).toNat (((rd_T67 x4 bt306.2).f0) : Int).toNat⟩ : S125)]) bt306.2) else (none)) else (none)) else (none)) else (none)) else (none)) else (none)) else (if 0 ≤ x6 then (if 0 ≤ ((rd_T67 x4 x6).f0) then (if ((rd_T67 x4 x6).f0) ≤ (x0.size : Int) then (if (x0.size : Int) ≤ (x0.size : Int) then (if x5.length < 4398046511104 then (siglumref04_Tokens.l0 k x0 x4 (x5 ++ [(⟨bt306.1, (rd_T67 x4 x6).f0, x0.extract (((rd_T67 x4 x6).f0) : Int).toNat ((x0.size : Int) : Int).toNat⟩ : S125)]) bt306.2) else (none)) else (none)) else (none)) else (none)) else (none)))) else (some (x5, 0))
def siglumref04_Tokens.f (k : Nat) (a0 : ByteArray) : Option ((List (S125)) × Int) := if (a0.size : Int) > 65536 then (some (([] : List (S125)), 1)) else ((siglumref01_Cells.f k a0).bind fun t303 => (siglumref04_Tokens.l0 k a0 t303 ([] : List (S125)) 0))
theorem siglumref04_Tokens.mono_l : ∀ k, (∀ y0 y1 y2 y3, LeO (siglumref04_Tokens.l0 k y0 y1 y2 y3) (siglumref04_Tokens.l0 (k + 1) y0 y1 y2 y3))
  | 0 => fun _ _ _ _ r h => by simp [siglumref04_Tokens.l0] at h
  | k + 1 => by
    have ih0 := siglumref04_Tokens.mono_l k
    · intro y0 y1 y2 y3
      unfold siglumref04_Tokens.l0
      repeat' first
      | (with_reducible exact ih0 _ _ _ _)
      | (with_reducible exact siglumref01_Cells.mono _ _)
      | (with_reducible exact siglumref04_token.mono _ _ _)
      | (with_reducible exact LeO.refl _)
      | (with_reducible exact LeO.none _)
      | (with_reducible refine LeO.ite ?_ ?_)
      | (with_reducible refine LeO.bind ?_ (fun _ => ?_))
      | exact ih0 _ _ _ _
      | exact siglumref01_Cells.mono _ _
      | exact siglumref04_token.mono _ _ _
      | exact LeO.none _
      | refine LeO.ite ?_ ?_
      | refine LeO.bind ?_ (fun _ => ?_)
theorem siglumref04_Tokens.mono : ∀ a0 k, LeO (siglumref04_Tokens.f k a0) (siglumref04_Tokens.f (k + 1) a0) := by
  intro a0 k
  have ih0 := siglumref04_Tokens.mono_l k
  unfold siglumref04_Tokens.f
  repeat' first
      | (with_reducible exact ih0 _ _ _ _)
      | (with_reducible exact siglumref01_Cells.mono _ _)
      | (with_reducible exact siglumref04_token.mono _ _ _)
      | (with_reducible exact LeO.refl _)
      | (with_reducible exact LeO.none _)
      | (with_reducible refine LeO.ite ?_ ?_)
      | (with_reducible refine LeO.bind ?_ (fun _ => ?_))
      | exact ih0 _ _ _ _
      | exact siglumref01_Cells.mono _ _
      | exact siglumref04_token.mono _ _ _
      | exact LeO.none _
      | refine LeO.ite ?_ ?_
      | refine LeO.bind ?_ (fun _ => ?_)
def siglumref04_Tokens.T11 : Bool × List (List Nat × List Nat) := (true, [([], []), ([], []), ([], []), ([], []), ([2, 3], [2, 3]), ([4], [4]), ([5], [5]), ([], []), ([], []), ([], []), ([8, 9], [8, 9]), ([10], [10]), ([11], [11]), ([], []), ([7, 12, 13], [7, 12, 13]), ([1, 6, 14], [1, 6, 14]), ([15], [15]), ([0, 16], [0, 16]), ([17, 17, 0, 1, 2, 3, 4, 5, 6, 7, 8, 9, 10, 11, 12, 13, 14, 15, 16, 17], [0, 17])])
def siglumref04_Tokens.B11 : List Nat := [0, 0, 0, 0, 12, 28, 60, 0, 0, 0, 768, 1792, 3840, 0, 16256, 32766, 65534, 131071, 262143]
theorem siglumref04_Tokens.tab11 : rtab .any (opsOf Tryd.f83 11) = siglumref04_Tokens.T11 := by kernel_rfl
theorem siglumref04_Tokens.bits11 : waitsOk siglumref04_Tokens.T11.2 siglumref04_Tokens.B11 = true := by kernel_rfl
set_option maxHeartbeats 8000000 in
set_option maxRecDepth 100000 in
theorem siglumref04_Tokens.calls (k : Nat) (a0 : ByteArray) (r1 : List (S125)) (r2 : Int) (w : World) (h : siglumref04_Tokens.f k a0 = some (r1, r2)) :
    Calls Tryd.prog 83 #[.string a0] w fun e w' => ∃ v0_ : Value, e = .returned (.tuple #[v0_, .int .i64 r2]) ∧ Kd.R k125 125 w' w.heap.size (fun _ => True) v0_ r1 ∧ Below w.heap.size w w' := by
  have hu125 := Tryd.underlying125
  have HB := Aside0.mk (Below.refl w.heap.size w)
  have H : (if (a0.size : Int) > 65536 then (some (([] : List (S125)), 1)) else ((siglumref01_Cells.f k a0).bind fun t303 => (siglumref04_Tokens.l0 k a0 t303 ([] : List (S125)) 0))) = some (r1, r2) := h
  clear h
  by_cases c2 : (a0.size : Int) > 65536
  · rw [if_pos c2] at H
    have c2b0 : decide (65536 < (a0.size : Int)) = true := decide_eq_true c2
    have c2b1 : decide (65536 < a0.size) = true := decide_eq_true (by omega)
    clear c2
    simp only [Option.some.injEq, Prod.mk.injEq] at H
    obtain ⟨rfl, rfl⟩ := H
    go_enter Tryd.func83, Tryd.ntmps83
    go_wp2
    go_ret2
    exact ⟨_, by first | rfl | (simp [errW_none, errW_some] <;> rfl) | (simp [*, errW_none, errW_some] <;> rfl), by first | exact Kd.R_nil _ _ _ _ _ | exact Kd.N_nil _ _ _ _ _ | exact Kd.V_nil _ _ _ _ _ | exact Kd.Q_nil _ _ _ _ _ | exact Kd.S_nil _ _ _ _ _, by repeat (first | (with_reducible first | exact HB.out | apply below_alloc | apply pw_below_drewN | apply below_drew1) | exact HB.out)⟩
  · rw [if_neg c2] at H
    have c2b0 : decide (65536 < (a0.size : Int)) = false := decide_eq_false c2
    have c2b1 : decide (65536 < a0.size) = false := decide_eq_false (by omega)
    clear c2
    replace H := Option.bind_eq_some_iff.mp H
    obtain ⟨t303, A30, H⟩ := H
    replace H : (siglumref04_Tokens.l0 k a0 t303 ([] : List (S125)) 0) = some (r1, r2) := H
    have A3 := Aside0.mk A30
    clear A30
    have H' := Aside0.mk H
    clear H
    go_enter Tryd.func83, Tryd.ntmps83
    go_wp2_with (first | ((with_reducible refine gate_callee (f := 37) rfl ?_); refine goesL_ (some 14) rfl rfl Tryd.func37 (by kernel_rfl) rfl #[.string a0] rfl (by (try simp only [List.map_toArray, List.map_cons, List.map_nil]); first | done | rfl | (simp only [List.length_drop, List.length_take]; rfl)) ?_; (with_reducible refine (siglumref01_Cells.calls k a0 t303 _ A3.out).mono ?_); rintro e w4 ⟨v304, rfl, ho0, hb⟩; refine ⟨_, rfl, ?_⟩; have n0_ := Aside0.mk (Kd.R_lower ho0 (below_size (by repeat (first | (with_reducible first | exact HB.out | apply below_alloc | apply pw_below_drewN | apply below_drew1) | exact HB.out)))); have n1_ := Aside0.mk (below_step (by repeat (first | (with_reducible first | exact HB.out | apply below_alloc | apply pw_below_drewN | apply below_drew1) | exact HB.out)) hb); clear HB; have HO305 := n0_; have HB := n1_; clear n0_ n1_; (try clear hb); (try clear hb2); (try clear hk); (try clear hi); (try clear ho0)))
    go_loopg [5, 6] k (fun kq v5 v6 w' => ∃ (x5_1 : List (S125)) (x6_1 : Int), v6 = .int .i64 x6_1 ∧ Aside0 (siglumref04_Tokens.l0 kq a0 t303 x5_1 x6_1 = some (r1, r2)) ∧ Aside0 (kq ≤ k) ∧ Aside0 (Kd.R k67 67 w' w.heap.size (fun _ => True) v304 t303) ∧ Aside0 (Kd.R k125 125 w' w.heap.size (fun _ => True) v5 x5_1) ∧ Aside0 (Below w.heap.size w w'))
    case atStart => exact ⟨(([] : List (S125))), (0), (by first | rfl | (simp; done) | (simp [*]; done)), H', ⟨Nat.le_refl _⟩, ⟨by (with_reducible repeat (first | apply Kd.R_alloc | apply Kd.R_drewN | apply Kd.R_drew)); exact HO305.out⟩, ⟨by first | exact Kd.R_nil _ _ _ _ _ | exact Kd.N_nil _ _ _ _ _ | exact Kd.V_nil _ _ _ _ _ | exact Kd.Q_nil _ _ _ _ _ | exact Kd.S_nil _ _ _ _ _⟩, ⟨by repeat (first | (with_reducible first | exact HB.out | apply below_alloc | apply pw_below_drewN | apply below_drew1) | exact HB.out)⟩⟩
    case round =>
      clear H'
      try clear c2
      try clear c2b0
      try clear c2b1
      try clear p2
      try clear c3
      obtain ⟨x5_1, x6_1, rfl, HA, HK1, HO_4, HO_5, HB⟩ := hrel
      cases gk with
      | zero => exact absurd HA.out (by simp [siglumref04_Tokens.l0])
      | succ k1 =>
        have H := HA.out
        clear HA
        simp only [siglumref04_Tokens.l0] at H
        by_cases c5 : x6_1 < (t303.length : Int)
        · rw [if_pos c5] at H
          have c5b0 : decide (x6_1 < (t303.length : Int)) = true := decide_eq_true c5
          clear c5
          replace H := Option.bind_eq_some_iff.mp H
          obtain ⟨⟨t306, t307⟩, A60, H⟩ := H
          replace H : (if t307 < (t303.length : Int) then (if 0 ≤ t307 then (if 0 ≤ x6_1 then (if 0 ≤ ((rd_T67 t303 x6_1).f0) then (if ((rd_T67 t303 x6_1).f0) ≤ ((rd_T67 t303 t307).f0) then (if ((rd_T67 t303 t307).f0) ≤ (a0.size : Int) then (if x5_1.length < 4398046511104 then (siglumref04_Tokens.l0 k1 a0 t303 (x5_1 ++ [(⟨t306, (rd_T67 t303 x6_1).f0, a0.extract (((rd_T67 t303 x6_1).f0) : Int).toNat (((rd_T67 t303 t307).f0) : Int).toNat⟩ : S125)]) t307) else (none)) else (none)) else (none)) else (none)) else (none)) else (none)) else (if 0 ≤ x6_1 then (if 0 ≤ ((rd_T67 t303 x6_1).f0) then (if ((rd_T67 t303 x6_1).f0) ≤ (a0.size : Int) then (if (a0.size : Int) ≤ (a0.size : Int) then (if x5_1.length < 4398046511104 then (siglumref04_Tokens.l0 k1 a0 t303 (x5_1 ++ [(⟨t306, (rd_T67 t303 x6_1).f0, a0.extract (((rd_T67 t303 x6_1).f0) : Int).toNat ((a0.size : Int) : Int).toNat⟩ : S125)]) t307) else (none)) else (none)) else (none)) else (none)) else (none))) = some (r1, r2) := H
          have A6 := Aside0.mk A60
          clear A60
          by_cases c7 : t307 < (t303.length : Int)
          · rw [if_pos c7] at H
            have c7b0 : decide (t307 < (t303.length : Int)) = true := decide_eq_true c7
            clear c7
            by_cases c8 : 0 ≤ t307
            · rw [if_pos c8] at H
              have c8b0 : decide (0 ≤ t307) = true := decide_eq_true c8
              clear c8
              by_cases c9 : 0 ≤ x6_1
              · rw [if_pos c9] at H
                have c9b0 : decide (0 ≤ x6_1) = true := decide_eq_true c9
                clear c9
                by_cases c10 : 0 ≤ ((rd_T67 t303 x6_1).f0)
                · rw [if_pos c10] at H
                  have c10b0 := eq_true c10
                  have c10b1 : decide (0 ≤ ((rd_T67 t303 x6_1).f0)) = true := decide_eq_true c10
                  clear c10
                  by_cases c11 : ((rd_T67 t303 x6_1).f0) ≤ ((rd_T67 t303 t307).f0)
                  · rw [if_pos c11] at H
                    have c11b0 := eq_true c11
                    have c11b1 : decide (((rd_T67 t303 x6_1).f0) ≤ ((rd_T67 t303 t307).f0)) = true := decide_eq_true c11
                    clear c11
                    by_cases c12 : ((rd_T67 t303 t307).f0) ≤ (a0.size : Int)
                    · rw [if_pos c12] at H
                      have c12b0 := eq_true c12
                      have c12b1 : decide (((rd_T67 t303 t307).f0) ≤ (a0.size : Int)) = true := decide_eq_true c12
                      clear c12
                      by_cases c13 : x5_1.length < 4398046511104
                      · rw [if_pos c13] at H
                        have LMc13 := Aside0.mk c13
                        clear c13
                        obtain ⟨y311, hy311⟩ : ∃ y_ : List (S125), y_ = (x5_1 ++ [(⟨t306, (rd_T67 t303 x6_1).f0, a0.extract (((rd_T67 t303 x6_1).f0) : Int).toNat (((rd_T67 t303 t307).f0) : Int).toNat⟩ : S125)]) := ⟨_, rfl⟩
                        replace H : (siglumref04_Tokens.l0 k1 a0 t303 y311 t307) = some (r1, r2) := by first | (rw [hy311]; with_reducible exact H) | (have H2_ := (Option.bind_some _ _).symm.trans H; rw [hy311]; with_reducible exact H2_) | (have H2_ := (Option.bind_some _ _).symm.trans H; with_reducible exact H2_) | with_reducible exact H | (rw [hy311]; exact H) | exact H
                        have Ny311 := Aside0.mk hy311
                        clear hy311
                        have H' := Aside0.mk H
                        clear H
                        obtain ⟨Ao14, co14, eo14⟩ := Kd.R_slice HO_4.out
                        subst eo14
                        try go_wp2_with (first | ((with_reducible refine gate_callee (f := 102) rfl ?_); refine goesL_ (some 22) rfl rfl Tryd.func102 (by kernel_rfl) rfl #[.slice Ao14 t303.length co14, .int .i64 x6_1] rfl (by (try simp only [List.map_toArray, List.map_cons, List.map_nil]); first | done | rfl | (simp only [List.length_drop, List.length_take]; rfl)) ?_; (with_reducible refine (siglumref04_token.calls k1 _ _ t303 x6_1 t306 t307 _ ?side1 ?side2 A6.out).mono ?_); (case side1 => repeat (first | exact (Kd.R_reads' HO_4.out).2.2 | (with_reducible refine Kd.C_alloc ?_ _) | (with_reducible refine Kd.C_drewN ?_ _) | (with_reducible refine Kd.C_drew ?_))); (case side2 => exact (Kd.R_reads' HO_4.out).2.1); rintro e w15 ⟨rfl, hb⟩; refine ⟨_, rfl, ?_⟩; have n0_ := Aside0.mk (Kd.R_below (by (with_reducible repeat (first | apply Kd.R_alloc | apply Kd.R_drewN | apply Kd.R_drew)); exact HO_4.out) hb); have n1_ := Aside0.mk (Kd.R_below (by (with_reducible repeat (first | apply Kd.R_alloc | apply Kd.R_drewN | apply Kd.R_drew)); exact HO_5.out) hb); have n2_ := Aside0.mk (below_step (by repeat (first | (with_reducible first | exact HB.out | apply below_alloc | apply pw_below_drewN | apply below_drew1) | exact HB.out)) hb); clear HO_4; clear HO_5; clear HB; have HO_4 := n0_; have HO_5 := n1_; have HB := n2_; clear n0_ n1_ n2_; (try clear hb); (try clear hb2); (try clear hk); (try clear hi); have p308 : 0 ≤ (t307 : Int) := of_decide_eq_true (by first | (with_reducible assumption) | assumption); have q308 : t307 < (t303.length : Int) := of_decide_eq_true (by first | (with_reducible assumption) | assumption); obtain ⟨ad308, e308, hx308_0, hx308_1, hx308_2, hx308_3, hx308_4⟩ := at_T67 (Kd.R_reads' HO_4.out).2.2 t307 p308 q308; cases e308; replace p308 := eq_true p308; replace q308 := eq_true q308))
                        have n0_ := Aside0.mk (Kd.R_drew HO_4.out)
                        have n1_ := Aside0.mk (Kd.R_drew HO_5.out)
                        have n2_ := Aside0.mk (below_drew1 HB.out)
                        clear HO_4
                        clear HO_5
                        clear HB
                        have HO_4 := n0_
                        have HO_5 := n1_
                        have HB := n2_
                        clear n0_ n1_ n2_
                        have p309 : 0 ≤ (x6_1 : Int) := of_decide_eq_true (by first | (with_reducible assumption) | assumption)
                        have q309 : x6_1 < (t303.length : Int) := of_decide_eq_true (by first | (with_reducible assumption) | assumption)
                        obtain ⟨ad309, e309, hx309_0, hx309_1, hx309_2, hx309_3, hx309_4⟩ := at_T67 (Kd.R_reads' HO_4.out).2.2 x6_1 p309 q309
                        obtain rfl : ad308 = ad309 := (by injection e309)
                        replace p309 := eq_true p309
                        replace q309 := eq_true q309
                        have p310 : 0 ≤ (x6_1 : Int) := of_decide_eq_true (by first | (with_reducible assumption) | assumption)
                        have q310 : x6_1 < (t303.length : Int) := of_decide_eq_true (by first | (with_reducible assumption) | assumption)
                        obtain ⟨ad310, e310, hx310_0, hx310_1, hx310_2, hx310_3, hx310_4⟩ := at_T67 (Kd.R_reads' HO_4.out).2.2 x6_1 p310 q310
                        obtain rfl : ad308 = ad310 := (by injection e310)
                        replace p310 := eq_true p310
                        replace q310 := eq_true q310
                        refine start_ (n := 19) (S := fun w' => w'.cell? (ad308.add ((x6_1).toNat * 5)) = some (.int .i64 ((rd_T67 t303 x6_1).f0)) ∧ w'.cell? ⟨(ad308.add ((x6_1).toNat * 5)).block, (ad308.add ((x6_1).toNat * 5)).off + 1, none⟩ = some (.int .i64 ((rd_T67 t303 x6_1).f1)) ∧ w'.cell? ⟨(ad308.add ((x6_1).toNat * 5)).block, (ad308.add ((x6_1).toNat * 5)).off + 2, none⟩ = some (.int .i32 ((rd_T67 t303 x6_1).f2)) ∧ w'.cell? ⟨(ad308.add ((x6_1).toNat * 5)).block, (ad308.add ((x6_1).toNat * 5)).off + 3, none⟩ = some (.bool ((rd_T67 t303 x6_1).f3)) ∧ w'.cell? ⟨(ad308.add ((x6_1).toNat * 5)).block, (ad308.add ((x6_1).toNat * 5)).off + 4, none⟩ = some (.int .u8 ((rd_T67 t303 x6_1).f4)) ∧ w'.cell? (ad308.add ((x6_1).toNat * 5)) = some (.int .i64 ((rd_T67 t303 x6_1).f0)) ∧ w'.cell? ⟨(ad308.add ((x6_1).toNat * 5)).block, (ad308.add ((x6_1).toNat * 5)).off + 1, none⟩ = some (.int .i64 ((rd_T67 t303 x6_1).f1)) ∧ w'.cell? ⟨(ad308.add ((x6_1).toNat * 5)).block, (ad308.add ((x6_1).toNat * 5)).off + 2, none⟩ = some (.int .i32 ((rd_T67 t303 x6_1).f2)) ∧ w'.cell? ⟨(ad308.add ((x6_1).toNat * 5)).block, (ad308.add ((x6_1).toNat * 5)).off + 3, none⟩ = some (.bool ((rd_T67 t303 x6_1).f3)) ∧ w'.cell? ⟨(ad308.add ((x6_1).toNat * 5)).block, (ad308.add ((x6_1).toNat * 5)).off + 4, none⟩ = some (.int .u8 ((rd_T67 t303 x6_1).f4))) (ds := [16, 17]) #[false, false, false, false, false, false, false, false, false, false, false, false, false, false, false, false, false, false, false] (by kernel_rfl) rfl rfl ⟨hx309_0, hx309_1, hx309_2, hx309_3, hx309_4, hx310_0, hx310_1, hx310_2, hx310_3, hx310_4⟩ (fun hHeld => ?_); refine with_tabW siglumref04_Tokens.tab11 siglumref04_Tokens.bits11 (fun HT_ HW_ => ?_)
                        generalize w15.drew = w16 at HO_4 HO_5 HB hx309_0 hx309_1 hx309_2 hx309_3 hx309_4 hx310_0 hx310_1 hx310_2 hx310_3 hx310_4 hHeld ⊢
                        refine pure_ (i := 0) (N := some 36) (v := ?_) (a' := ?_) #[true, false, false, false, false, false, false, false, false, false, false, false, false, false, false, false, false, false, false] rfl rfl (any_of HT_.out (by kernel_rfl)) (fun _ _ _ h => h) (Or.inl ⟨by rfl, ?_⟩) ?_ ?_
                        rotate_left
                        · intro w'
                          go_simp
                          with_reducible rfl
                        rotate_left
                        · simp only [Act.put, List.setIfInBounds_toArray, List.set_cons_zero, List.set_cons_succ, i64_w, i32_w]
                          rfl
                        refine pure_ (i := 1) (N := some 37) (v := ?_) (a' := ?_) #[true, true, false, false, false, false, false, false, false, false, false, false, false, false, false, false, false, false, false] rfl rfl (any_of HT_.out (by kernel_rfl)) (fun _ _ _ h => h) (Or.inl ⟨by rfl, ?_⟩) ?_ ?_
                        rotate_left
                        · intro w'
                          go_simp
                          with_reducible rfl
                        rotate_left
                        · simp only [Act.put, List.setIfInBounds_toArray, List.set_cons_zero, List.set_cons_succ, i64_w, i32_w]
                          rfl
                        refine pure_ (i := 2) (N := some 38) (v := ?_) (a' := ?_) #[true, true, true, false, false, false, false, false, false, false, false, false, false, false, false, false, false, false, false] rfl rfl (any_of HT_.out (by kernel_rfl)) (fun _ _ _ h => h) (Or.inl ⟨by rfl, ?_⟩) ?_ ?_
                        rotate_left
                        · intro w'
                          go_simp
                          with_reducible rfl
                        rotate_left
                        · simp only [Act.put, List.setIfInBounds_toArray, List.set_cons_zero, List.set_cons_succ, i64_w, i32_w]
                          rfl
                        refine pure_ (i := 3) (N := some 39) (v := ?_) (a' := ?_) #[true, true, true, true, false, false, false, false, false, false, false, false, false, false, false, false, false, false, false] rfl rfl (any_of HT_.out (by kernel_rfl)) (fun _ _ _ h => h) (Or.inl ⟨by rfl, ?_⟩) ?_ ?_
                        rotate_left
                        · intro w'
                          go_simp
                          with_reducible rfl
                        rotate_left
                        · simp only [Act.put, List.setIfInBounds_toArray, List.set_cons_zero, List.set_cons_succ, i64_w, i32_w]
                          rfl
                        refine pure_ (i := 4) (N := some 40) (v := ?_) (a' := ?_) #[true, true, true, true, true, false, false, false, false, false, false, false, false, false, false, false, false, false, false] rfl rfl (any_of HT_.out (by kernel_rfl)) (fun _ _ _ h => h) (Or.inl ⟨by rfl, ?_⟩) ?_ ?_
                        rotate_left
                        · intro w'
                          go_simp
                          with_reducible rfl
                        rotate_left
                        · simp only [Act.put, List.setIfInBounds_toArray, List.set_cons_zero, List.set_cons_succ, i64_w, i32_w]
                          rfl
                        refine pure_ (i := 5) (N := some 41) (v := ?_) (a' := ?_) #[true, true, true, true, true, true, false, false, false, false, false, false, false, false, false, false, false, false, false] rfl rfl (any_of HT_.out (by kernel_rfl)) (fun _ _ _ h => h) (Or.inl ⟨by rfl, ?_⟩) ?_ ?_
                        rotate_left
                        · intro w'
                          go_simp
                          with_reducible rfl
                        rotate_left
                        · simp only [Act.put, List.setIfInBounds_toArray, List.set_cons_zero, List.set_cons_succ, i64_w, i32_w]
                          rfl
                        refine pure_ (i := 7) (N := some 43) (v := ?_) (a' := ?_) #[true, true, true, true, true, true, false, true, false, false, false, false, false, false, false, false, false, false, false] rfl rfl (any_of HT_.out (by kernel_rfl)) (fun _ _ _ h => h) (Or.inl ⟨by rfl, ?_⟩) ?_ ?_
                        rotate_left
                        · intro w'
                          go_simp
                          with_reducible rfl
                        rotate_left
                        · simp only [Act.put, List.setIfInBounds_toArray, List.set_cons_zero, List.set_cons_succ, i64_w, i32_w]
                          rfl
                        refine pure_ (i := 8) (N := some 44) (v := ?_) (a' := ?_) #[true, true, true, true, true, true, false, true, true, false, false, false, false, false, false, false, false, false, false] rfl rfl (any_of HT_.out (by kernel_rfl)) (fun _ _ _ h => h) (Or.inl ⟨by rfl, ?_⟩) ?_ ?_
                        rotate_left
                        · intro w'
                          go_simp
                          with_reducible rfl
                        rotate_left
                        · simp only [Act.put, List.setIfInBounds_toArray, List.set_cons_zero, List.set_cons_succ, i64_w, i32_w]
                          rfl
                        refine pure_ (i := 9) (N := some 45) (v := ?_) (a' := ?_) #[true, true, true, true, true, true, false, true, true, true, false, false, false, false, false, false, false, false, false] rfl rfl (any_of HT_.out (by kernel_rfl)) (fun _ _ _ h => h) (Or.inl ⟨by rfl, ?_⟩) ?_ ?_
                        rotate_left
                        · intro w'
                          go_simp
                          with_reducible rfl
                        rotate_left
                        · simp only [Act.put, List.setIfInBounds_toArray, List.set_cons_zero, List.set_cons_succ, i64_w, i32_w]
                          rfl
                        refine pure_ (i := 10) (N := some 46) (v := ?_) (a' := ?_) #[true, true, true, true, true, true, false, true, true, true, true, false, false, false, false, false, false, false, false] rfl rfl (any_of HT_.out (by kernel_rfl)) (fun _ _ _ h => h) (Or.inl ⟨by rfl, ?_⟩) ?_ ?_
                        rotate_left
                        · intro w'
                          go_simp
                          with_reducible rfl
                        rotate_left
                        · simp only [Act.put, List.setIfInBounds_toArray, List.set_cons_zero, List.set_cons_succ, i64_w, i32_w]
                          rfl
                        refine pure_ (i := 11) (N := some 47) (v := ?_) (a' := ?_) #[true, true, true, true, true, true, false, true, true, true, true, true, false, false, false, false, false, false, false] rfl rfl (any_of HT_.out (by kernel_rfl)) (fun _ _ _ h => h) (Or.inl ⟨by rfl, ?_⟩) ?_ ?_
                        rotate_left
                        · intro w'
                          go_simp
                          with_reducible rfl
                        rotate_left
                        · simp only [Act.put, List.setIfInBounds_toArray, List.set_cons_zero, List.set_cons_succ, i64_w, i32_w]
                          rfl
                        refine pure_ (i := 13) (N := some 49) (v := ?_) (a' := ?_) #[true, true, true, true, true, true, false, true, true, true, true, true, false, true, false, false, false, false, false] rfl rfl (any_of HT_.out (by kernel_rfl)) (fun _ _ _ h => h) (Or.inl ⟨by rfl, ?_⟩) ?_ ?_
                        rotate_left
                        · intro w'
                          go_simp
                          with_reducible rfl
                        rotate_left
                        · simp only [Act.put, List.setIfInBounds_toArray, List.set_cons_zero, List.set_cons_succ, i64_w, i32_w]
                          rfl
                        refine take_ (i := 6) (N := some 42) (v := ?_) (a' := ?_) #[true, true, true, true, true, true, true, true, true, true, true, true, false, true, false, false, false, false, false] rfl rfl (take_ofW HT_.out HW_.out (by kernel_rfl)) (fun _ _ _ h => h) (Or.inl ⟨by rfl, ?_⟩) hHeld ?_ ?_
                        rotate_left
                        · rintro w' ⟨s0, s1, s2, s3, s4, s5, s6, s7, s8, s9⟩
                          go_simp
                          with_reducible rfl
                        rotate_left
                        · simp only [Act.put, List.setIfInBounds_toArray, List.set_cons_zero, List.set_cons_succ, i64_w, i32_w]
                          rfl
                        refine take_ (i := 12) (N := some 48) (v := ?_) (a' := ?_) #[true, true, true, true, true, true, true, true, true, true, true, true, true, true, false, false, false, false, false] rfl rfl (take_ofW HT_.out HW_.out (by kernel_rfl)) (fun _ _ _ h => h) (Or.inl ⟨by rfl, ?_⟩) hHeld ?_ ?_
                        rotate_left
                        · rintro w' ⟨s0, s1, s2, s3, s4, s5, s6, s7, s8, s9⟩
                          go_simp
                          with_reducible rfl
                        rotate_left
                        · simp only [Act.put, List.setIfInBounds_toArray, List.set_cons_zero, List.set_cons_succ, i64_w, i32_w]
                          rfl
                        refine pure_ (i := 14) (N := some 50) (v := ?_) (a' := ?_) #[true, true, true, true, true, true, true, true, true, true, true, true, true, true, true, false, false, false, false] rfl rfl (any_of HT_.out (by kernel_rfl)) (fun _ _ _ h => h) (Or.inl ⟨by rfl, ?_⟩) ?_ ?_
                        rotate_left
                        · intro w'
                          go_simp
                          with_reducible rfl
                        rotate_left
                        · simp only [Act.put, List.setIfInBounds_toArray, List.set_cons_zero, List.set_cons_succ, i64_w, i32_w]
                          rfl
                        refine pure_ (i := 15) (N := some 51) (v := ?_) (a' := ?_) #[true, true, true, true, true, true, true, true, true, true, true, true, true, true, true, true, false, false, false] rfl rfl (any_of HT_.out (by kernel_rfl)) (fun _ _ _ h => h) (Or.inl ⟨by rfl, ?_⟩) ?_ ?_
                        rotate_left
                        · intro w'
                          go_simp
                          with_reducible rfl
                        rotate_left
                        · simp only [Act.put, List.setIfInBounds_toArray, List.set_cons_zero, List.set_cons_succ, i64_w, i32_w]
                          rfl
                        refine last_ (i := 16) (N := some 52) #[true, true, true, true, true, true, true, true, true, true, true, true, true, true, true, true, true, false, false] rfl rfl (one_of HT_.out (by kernel_rfl)) (by decide) (fun K hK => ?_)
                        refine value_ (w1 := ?_) (v := ?_) (by rfl) rfl ?_ ?_
                        rotate_left 2
                        · go_simp
                          constructor
                          · rfl
                          · rfl
                        refine hK.out _ _ ?_
                        clear hK K
                        refine norm_ (a' := ?_) ?_ ?_
                        rotate_left
                        · show Act.put _ (some 52) _ = _
                          simp only [Act.put, List.setIfInBounds_toArray, List.set_cons_zero, List.set_cons_succ, i64_w, i32_w]
                          rfl
                        refine last_ (i := 17) (N := some 53) #[true, true, true, true, true, true, true, true, true, true, true, true, true, true, true, true, true, true, false] rfl rfl (one_of HT_.out (by kernel_rfl)) (by decide) (fun K hK => ?_)
                        refine Kd.R_append_step k125 (w0 := w) w.heap.size (by rfl) (.tmp 36) (.tmp 52) 120 125 (.agg #[(.int .i64 0), (.int .i64 0), (.string ⟨#[]⟩)]) 32 rfl Tryd.underlying120 info125 rfl (by decide) (by omega) u5 x5_1 (⟨t306, (rd_T67 t303 x6_1).f0, a0.extract (((rd_T67 t303 x6_1).f0) : Int).toNat (((rd_T67 t303 t307).f0) : Int).toNat⟩ : S125) [.int .i64 t306, .int .i64 ((rd_T67 t303 x6_1).f0), .string (a0.extract (((rd_T67 t303 x6_1).f0) : Int).toNat (((rd_T67 t303 t307).f0) : Int).toNat)] (fun _ => True) (fun _ => False) rfl rfl ?aP (fun _ hk => hk.elim) ?aF ?aO ?aB ?aS ?aL ?_
                        (case aP => exact k125_mkM _ _ _ (⟨t306, (rd_T67 t303 x6_1).f0, a0.extract (((rd_T67 t303 x6_1).f0) : Int).toNat (((rd_T67 t303 t307).f0) : Int).toNat⟩ : S125))
                        (case aB => exact (by repeat (first | (with_reducible first | exact HB.out | apply below_alloc | apply pw_below_drewN | apply below_drew1) | exact HB.out)))
                        (case aF => exact (fun _ _ => trivial))
                        (case aO => exact (by (with_reducible repeat (first | apply Kd.R_alloc | apply Kd.R_drewN | apply Kd.R_drew)); exact HO_5.out))
                        (case aS => exact (below_size (by repeat (first | (with_reducible first | exact HB.out | apply below_alloc | apply pw_below_drewN | apply below_drew1) | exact HB.out))))
                        (case aL => have := LMc13.out; omega)
                        intro v312 w17 ho hb hg hat
                        rw [← Ny311.out] at ho
                        have n0_ := Aside0.mk (Kd.R_over' (by (with_reducible repeat (first | apply Kd.R_alloc | apply Kd.R_drewN | apply Kd.R_drew)); exact HO_4.out) (Kd.R_typed (by (with_reducible repeat (first | apply Kd.R_alloc | apply Kd.R_drewN | apply Kd.R_drew)); exact HO_5.out)) (by decide) hg)
                        have n1_ := Aside0.mk (hb)
                        have n2_ := Aside0.mk (ho)
                        clear HO_4
                        clear HB
                        clear HO_5
                        have HO_4 := n0_
                        have HB := n1_
                        have HO313 := n2_
                        clear n0_ n1_ n2_
                        clear ho hb hg hat
                        refine hK.out _ _ ?_
                        clear hK K
                        refine norm_ (a' := ?_) ?_ ?_
                        rotate_left
                        · show Act.put _ (some 53) _ = _
                          simp only [Act.put, List.setIfInBounds_toArray, List.set_cons_zero, List.set_cons_succ, i64_w, i32_w]
                          rfl
                        refine pure_ (i := 18) (N := some 5) (v := ?_) (a' := ?_) #[true, true, true, true, true, true, true, true, true, true, true, true, true, true, true, true, true, true, true] rfl rfl (any_of HT_.out (by kernel_rfl)) (fun _ _ _ h => h) (Or.inl ⟨by rfl, ?_⟩) ?_ ?_
                        rotate_left
                        · intro w'
                          go_simp
                          with_reducible rfl
                        rotate_left
                        · simp only [Act.put, List.setIfInBounds_toArray, List.set_cons_zero, List.set_cons_succ, i64_w, i32_w]
                          rfl
                        refine done_ (done_of HT_.out (by kernel_rfl)) ?_
                        try go_wp2
                        go_roundg k1
                        case measure => have := HK1.out; omega
                        case rel => exact ⟨(y311), (t307), (by first | rfl | (simp; done) | (simp [*]; done)), H', ⟨by have := HK1.out; omega⟩, ⟨by (with_reducible repeat (first | apply Kd.R_alloc | apply Kd.R_drewN | apply Kd.R_drew)); exact HO_4.out⟩, ⟨by (with_reducible repeat (first | apply Kd.R_alloc | apply Kd.R_drewN | apply Kd.R_drew)); exact HO313.out⟩, ⟨by repeat (first | (with_reducible first | exact HB.out | apply below_alloc | apply pw_below_drewN | apply below_drew1) | exact HB.out)⟩⟩
                      · rw [if_neg c13] at H
                        exact absurd H (by simp)
                    · rw [if_neg c12] at H
                      exact absurd H (by simp)
                  · rw [if_neg c11] at H
                    exact absurd H (by simp)
                · rw [if_neg c10] at H
                  exact absurd H (by simp)
              · rw [if_neg c9] at H
                exact absurd H (by simp)
            · rw [if_neg c8] at H
              exact absurd H (by simp)
          · rw [if_neg c7] at H
            have c7b0 : decide (t307 < (t303.length : Int)) = false := decide_eq_false c7
            clear c7
            by_cases c18 : 0 ≤ x6_1
            · rw [if_pos c18] at H
              have c18b0 : decide (0 ≤ x6_1) = true := decide_eq_true c18
              clear c18
              by_cases c19 : 0 ≤ ((rd_T67 t303 x6_1).f0)
              · rw [if_pos c19] at H
                have c19b0 := eq_true c19
                have c19b1 : decide (0 ≤ ((rd_T67 t303 x6_1).f0)) = true := decide_eq_true c19
                clear c19
                by_cases c20 : ((rd_T67 t303 x6_1).f0) ≤ (a0.size : Int)
                · rw [if_pos c20] at H
                  have c20b0 := eq_true c20
                  have c20b1 : decide (((rd_T67 t303 x6_1).f0) ≤ (a0.size : Int)) = true := decide_eq_true c20
                  clear c20
                  by_cases c21 : (a0.size : Int) ≤ (a0.size : Int)
                  · rw [if_pos c21] at H
                    have c21b0 := eq_true c21
                    have c21b1 : decide ((a0.size : Int) ≤ (a0.size : Int)) = true := decide_eq_true c21
                    clear c21
                    by_cases c22 : x5_1.length < 4398046511104
                    · rw [if_pos c22] at H
                      have LMc22 := Aside0.mk c22
                      clear c22
                      obtain ⟨y316, hy316⟩ : ∃ y_ : List (S125), y_ = (x5_1 ++ [(⟨t306, (rd_T67 t303 x6_1).f0, a0.extract (((rd_T67 t303 x6_1).f0) : Int).toNat ((a0.size : Int) : Int).toNat⟩ : S125)]) := ⟨_, rfl⟩
                      replace H : (siglumref04_Tokens.l0 k1 a0 t303 y316 t307) = some (r1, r2) := by first | (rw [hy316]; with_reducible exact H) | (have H2_ := (Option.bind_some _ _).symm.trans H; rw [hy316]; with_reducible exact H2_) | (have H2_ := (Option.bind_some _ _).symm.trans H; with_reducible exact H2_) | with_reducible exact H | (rw [hy316]; exact H) | exact H
                      have Ny316 := Aside0.mk hy316
                      clear hy316
                      have H' := Aside0.mk H
                      clear H
                      obtain ⟨Ao23, co23, eo23⟩ := Kd.R_slice HO_4.out
                      subst eo23
                      try go_wp2_with (first | ((with_reducible refine gate_callee (f := 102) rfl ?_); refine goesL_ (some 22) rfl rfl Tryd.func102 (by kernel_rfl) rfl #[.slice Ao23 t303.length co23, .int .i64 x6_1] rfl (by (try simp only [List.map_toArray, List.map_cons, List.map_nil]); first | done | rfl | (simp only [List.length_drop, List.length_take]; rfl)) ?_; (with_reducible refine (siglumref04_token.calls k1 _ _ t303 x6_1 t306 t307 _ ?side1 ?side2 A6.out).mono ?_); (case side1 => repeat (first | exact (Kd.R_reads' HO_4.out).2.2 | (with_reducible refine Kd.C_alloc ?_ _) | (with_reducible refine Kd.C_drewN ?_ _) | (with_reducible refine Kd.C_drew ?_))); (case side2 => exact (Kd.R_reads' HO_4.out).2.1); rintro e w24 ⟨rfl, hb⟩; refine ⟨_, rfl, ?_⟩; have n0_ := Aside0.mk (Kd.R_below (by (with_reducible repeat (first | apply Kd.R_alloc | apply Kd.R_drewN | apply Kd.R_drew)); exact HO_4.out) hb); have n1_ := Aside0.mk (Kd.R_below (by (with_reducible repeat (first | apply Kd.R_alloc | apply Kd.R_drewN | apply Kd.R_drew)); exact HO_5.out) hb); have n2_ := Aside0.mk (below_step (by repeat (first | (with_reducible first | exact HB.out | apply below_alloc | apply pw_below_drewN | apply below_drew1) | exact HB.out)) hb); clear HO_4; clear HO_5; clear HB; have HO_4 := n0_; have HO_5 := n1_; have HB := n2_; clear n0_ n1_ n2_; (try clear hb); (try clear hb2); (try clear hk); (try clear hi)))
                      have n0_ := Aside0.mk (Kd.R_drew HO_4.out)
                      have n1_ := Aside0.mk (Kd.R_drew HO_5.out)
                      have n2_ := Aside0.mk (below_drew1 HB.out)
                      clear HO_4
                      clear HO_5
                      clear HB
                      have HO_4 := n0_
                      have HO_5 := n1_
                      have HB := n2_
                      clear n0_ n1_ n2_
                      have p314 : 0 ≤ (x6_1 : Int) := of_decide_eq_true (by first | (with_reducible assumption) | assumption)
                      have q314 : x6_1 < (t303.length : Int) := of_decide_eq_true (by first | (with_reducible assumption) | assumption)
                      obtain ⟨ad314, e314, hx314_0, hx314_1, hx314_2, hx314_3, hx314_4⟩ := at_T67 (Kd.R_reads' HO_4.out).2.2 x6_1 p314 q314
                      cases e314
                      replace p314 := eq_true p314
                      replace q314 := eq_true q314
                      have p315 : 0 ≤ (x6_1 : Int) := of_decide_eq_true (by first | (with_reducible assumption) | assumption)
                      have q315 : x6_1 < (t303.length : Int) := of_decide_eq_true (by first | (with_reducible assumption) | assumption)
                      obtain ⟨ad315, e315, hx315_0, hx315_1, hx315_2, hx315_3, hx315_4⟩ := at_T67 (Kd.R_reads' HO_4.out).2.2 x6_1 p315 q315
                      obtain rfl : ad314 = ad315 := (by injection e315)
                      replace p315 := eq_true p315
                      replace q315 := eq_true q315
                      refine start_ (n := 19) (S := fun w' => w'.cell? (ad314.add ((x6_1).toNat * 5)) = some (.int .i64 ((rd_T67 t303 x6_1).f0)) ∧ w'.cell? ⟨(ad314.add ((x6_1).toNat * 5)).block, (ad314.add ((x6_1).toNat * 5)).off + 1, none⟩ = some (.int .i64 ((rd_T67 t303 x6_1).f1)) ∧ w'.cell? ⟨(ad314.add ((x6_1).toNat * 5)).block, (ad314.add ((x6_1).toNat * 5)).off + 2, none⟩ = some (.int .i32 ((rd_T67 t303 x6_1).f2)) ∧ w'.cell? ⟨(ad314.add ((x6_1).toNat * 5)).block, (ad314.add ((x6_1).toNat * 5)).off + 3, none⟩ = some (.bool ((rd_T67 t303 x6_1).f3)) ∧ w'.cell? ⟨(ad314.add ((x6_1).toNat * 5)).block, (ad314.add ((x6_1).toNat * 5)).off + 4, none⟩ = some (.int .u8 ((rd_T67 t303 x6_1).f4)) ∧ w'.cell? (ad314.add ((x6_1).toNat * 5)) = some (.int .i64 ((rd_T67 t303 x6_1).f0)) ∧ w'.cell? ⟨(ad314.add ((x6_1).toNat * 5)).block, (ad314.add ((x6_1).toNat * 5)).off + 1, none⟩ = some (.int .i64 ((rd_T67 t303 x6_1).f1)) ∧ w'.cell? ⟨(ad314.add ((x6_1).toNat * 5)).block, (ad314.add ((x6_1).toNat * 5)).off + 2, none⟩ = some (.int .i32 ((rd_T67 t303 x6_1).f2)) ∧ w'.cell? ⟨(ad314.add ((x6_1).toNat * 5)).block, (ad314.add ((x6_1).toNat * 5)).off + 3, none⟩ = some (.bool ((rd_T67 t303 x6_1).f3)) ∧ w'.cell? ⟨(ad314.add ((x6_1).toNat * 5)).block, (ad314.add ((x6_1).toNat * 5)).off + 4, none⟩ = some (.int .u8 ((rd_T67 t303 x6_1).f4))) (ds := [16, 17]) #[false, false, false, false, false, false, false, false, false, false, false, false, false, false, false, false, false, false, false] (by kernel_rfl) rfl rfl ⟨hx314_0, hx314_1, hx314_2, hx314_3, hx314_4, hx315_0, hx315_1, hx315_2, hx315_3, hx315_4⟩ (fun hHeld => ?_); refine with_tabW siglumref04_Tokens.tab11 siglumref04_Tokens.bits11 (fun HT_ HW_ => ?_)
                      generalize w24.drew = w25 at HO_4 HO_5 HB hx314_0 hx314_1 hx314_2 hx314_3 hx314_4 hx315_0 hx315_1 hx315_2 hx315_3 hx315_4 hHeld ⊢
                      refine pure_ (i := 0) (N := some 36) (v := ?_) (a' := ?_) #[true, false, false, false, false, false, false, false, false, false, false, false, false, false, false, false, false, false, false] rfl rfl (any_of HT_.out (by kernel_rfl)) (fun _ _ _ h => h) (Or.inl ⟨by rfl, ?_⟩) ?_ ?_
                      rotate_left
                      · intro w'
                        go_simp
                        with_reducible rfl
                      rotate_left
                      · simp only [Act.put, List.setIfInBounds_toArray, List.set_cons_zero, List.set_cons_succ, i64_w, i32_w]
                        rfl
                      refine pure_ (i := 1) (N := some 37) (v := ?_) (a' := ?_) #[true, true, false, false, false, false, false, false, false, false, false, false, false, false, false, false, false, false, false] rfl rfl (any_of HT_.out (by kernel_rfl)) (fun _ _ _ h => h) (Or.inl ⟨by rfl, ?_⟩) ?_ ?_
                      rotate_left
                      · intro w'
                        go_simp
                        with_reducible rfl
                      rotate_left
                      · simp only [Act.put, List.setIfInBounds_toArray, List.set_cons_zero, List.set_cons_succ, i64_w, i32_w]
                        rfl
                      refine pure_ (i := 2) (N := some 38) (v := ?_) (a' := ?_) #[true, true, true, false, false, false, false, false, false, false, false, false, false, false, false, false, false, false, false] rfl rfl (any_of HT_.out (by kernel_rfl)) (fun _ _ _ h => h) (Or.inl ⟨by rfl, ?_⟩) ?_ ?_
                      rotate_left
                      · intro w'
                        go_simp
                        with_reducible rfl
                      rotate_left
                      · simp only [Act.put, List.setIfInBounds_toArray, List.set_cons_zero, List.set_cons_succ, i64_w, i32_w]
                        rfl
                      refine pure_ (i := 3) (N := some 39) (v := ?_) (a' := ?_) #[true, true, true, true, false, false, false, false, false, false, false, false, false, false, false, false, false, false, false] rfl rfl (any_of HT_.out (by kernel_rfl)) (fun _ _ _ h => h) (Or.inl ⟨by rfl, ?_⟩) ?_ ?_
                      rotate_left
                      · intro w'
                        go_simp
                        with_reducible rfl
                      rotate_left
                      · simp only [Act.put, List.setIfInBounds_toArray, List.set_cons_zero, List.set_cons_succ, i64_w, i32_w]
                        rfl
                      refine pure_ (i := 4) (N := some 40) (v := ?_) (a' := ?_) #[true, true, true, true, true, false, false, false, false, false, false, false, false, false, false, false, false, false, false] rfl rfl (any_of HT_.out (by kernel_rfl)) (fun _ _ _ h => h) (Or.inl ⟨by rfl, ?_⟩) ?_ ?_
                      rotate_left
                      · intro w'
                        go_simp
                        with_reducible rfl
                      rotate_left
                      · simp only [Act.put, List.setIfInBounds_toArray, List.set_cons_zero, List.set_cons_succ, i64_w, i32_w]
                        rfl
                      refine pure_ (i := 5) (N := some 41) (v := ?_) (a' := ?_) #[true, true, true, true, true, true, false, false, false, false, false, false, false, false, false, false, false, false, false] rfl rfl (any_of HT_.out (by kernel_rfl)) (fun _ _ _ h => h) (Or.inl ⟨by rfl, ?_⟩) ?_ ?_
                      rotate_left
                      · intro w'
                        go_simp
                        with_reducible rfl
                      rotate_left
                      · simp only [Act.put, List.setIfInBounds_toArray, List.set_cons_zero, List.set_cons_succ, i64_w, i32_w]
                        rfl
                      refine pure_ (i := 7) (N := some 43) (v := ?_) (a' := ?_) #[true, true, true, true, true, true, false, true, false, false, false, false, false, false, false, false, false, false, false] rfl rfl (any_of HT_.out (by kernel_rfl)) (fun _ _ _ h => h) (Or.inl ⟨by rfl, ?_⟩) ?_ ?_
                      rotate_left
                      · intro w'
                        go_simp
                        with_reducible rfl
                      rotate_left
                      · simp only [Act.put, List.setIfInBounds_toArray, List.set_cons_zero, List.set_cons_succ, i64_w, i32_w]
                        rfl
                      refine pure_ (i := 8) (N := some 44) (v := ?_) (a' := ?_) #[true, true, true, true, true, true, false, true, true, false, false, false, false, false, false, false, false, false, false] rfl rfl (any_of HT_.out (by kernel_rfl)) (fun _ _ _ h => h) (Or.inl ⟨by rfl, ?_⟩) ?_ ?_
                      rotate_left
                      · intro w'
                        go_simp
                        with_reducible rfl
                      rotate_left
                      · simp only [Act.put, List.setIfInBounds_toArray, List.set_cons_zero, List.set_cons_succ, i64_w, i32_w]
                        rfl
                      refine pure_ (i := 9) (N := some 45) (v := ?_) (a' := ?_) #[true, true, true, true, true, true, false, true, true, true, false, false, false, false, false, false, false, false, false] rfl rfl (any_of HT_.out (by kernel_rfl)) (fun _ _ _ h => h) (Or.inl ⟨by rfl, ?_⟩) ?_ ?_
                      rotate_left
                      · intro w'
                        go_simp
                        with_reducible rfl
                      rotate_left
                      · simp only [Act.put, List.setIfInBounds_toArray, List.set_cons_zero, List.set_cons_succ, i64_w, i32_w]
                        rfl
                      refine pure_ (i := 10) (N := some 46) (v := ?_) (a' := ?_) #[true, true, true, true, true, true, false, true, true, true, true, false, false, false, false, false, false, false, false] rfl rfl (any_of HT_.out (by kernel_rfl)) (fun _ _ _ h => h) (Or.inl ⟨by rfl, ?_⟩) ?_ ?_
                      rotate_left
                      · intro w'
                        go_simp
                        with_reducible rfl
                      rotate_left
                      · simp only [Act.put, List.setIfInBounds_toArray, List.set_cons_zero, List.set_cons_succ, i64_w, i32_w]
                        rfl
                      refine pure_ (i := 11) (N := some 47) (v := ?_) (a' := ?_) #[true, true, true, true, true, true, false, true, true, true, true, true, false, false, false, false, false, false, false] rfl rfl (any_of HT_.out (by kernel_rfl)) (fun _ _ _ h => h) (Or.inl ⟨by rfl, ?_⟩) ?_ ?_
                      rotate_left
                      · intro w'
                        go_simp
                        with_reducible rfl
                      rotate_left
                      · simp only [Act.put, List.setIfInBounds_toArray, List.set_cons_zero, List.set_cons_succ, i64_w, i32_w]
                        rfl
                      refine pure_ (i := 13) (N := some 49) (v := ?_) (a' := ?_) #[true, true, true, true, true, true, false, true, true, true, true, true, false, true, false, false, false, false, false] rfl rfl (any_of HT_.out (by kernel_rfl)) (fun _ _ _ h => h) (Or.inl ⟨by rfl, ?_⟩) ?_ ?_
                      rotate_left
                      · intro w'
                        go_simp
                        with_reducible rfl
                      rotate_left
                      · simp only [Act.put, List.setIfInBounds_toArray, List.set_cons_zero, List.set_cons_succ, i64_w, i32_w]
                        rfl
                      refine take_ (i := 6) (N := some 42) (v := ?_) (a' := ?_) #[true, true, true, true, true, true, true, true, true, true, true, true, false, true, false, false, false, false, false] rfl rfl (take_ofW HT_.out HW_.out (by kernel_rfl)) (fun _ _ _ h => h) (Or.inl ⟨by rfl, ?_⟩) hHeld ?_ ?_
                      rotate_left
                      · rintro w' ⟨s0, s1, s2, s3, s4, s5, s6, s7, s8, s9⟩
                        go_simp
                        with_reducible rfl
                      rotate_left
                      · simp only [Act.put, List.setIfInBounds_toArray, List.set_cons_zero, List.set_cons_succ, i64_w, i32_w]
                        rfl
                      refine take_ (i := 12) (N := some 48) (v := ?_) (a' := ?_) #[true, true, true, true, true, true, true, true, true, true, true, true, true, true, false, false, false, false, false] rfl rfl (take_ofW HT_.out HW_.out (by kernel_rfl)) (fun _ _ _ h => h) (Or.inl ⟨by rfl, ?_⟩) hHeld ?_ ?_
                      rotate_left
                      · rintro w' ⟨s0, s1, s2, s3, s4, s5, s6, s7, s8, s9⟩
                        go_simp
                        with_reducible rfl
                      rotate_left
                      · simp only [Act.put, List.setIfInBounds_toArray, List.set_cons_zero, List.set_cons_succ, i64_w, i32_w]
                        rfl
                      refine pure_ (i := 14) (N := some 50) (v := ?_) (a' := ?_) #[true, true, true, true, true, true, true, true, true, true, true, true, true, true, true, false, false, false, false] rfl rfl (any_of HT_.out (by kernel_rfl)) (fun _ _ _ h => h) (Or.inl ⟨by rfl, ?_⟩) ?_ ?_
                      rotate_left
                      · intro w'
                        go_simp
                        with_reducible rfl
                      rotate_left
                      · simp only [Act.put, List.setIfInBounds_toArray, List.set_cons_zero, List.set_cons_succ, i64_w, i32_w]
                        rfl
                      refine pure_ (i := 15) (N := some 51) (v := ?_) (a' := ?_) #[true, true, true, true, true, true, true, true, true, true, true, true, true, true, true, true, false, false, false] rfl rfl (any_of HT_.out (by kernel_rfl)) (fun _ _ _ h => h) (Or.inl ⟨by rfl, ?_⟩) ?_ ?_
                      rotate_left
                      · intro w'
                        go_simp
                        with_reducible rfl
                      rotate_left
                      · simp only [Act.put, List.setIfInBounds_toArray, List.set_cons_zero, List.set_cons_succ, i64_w, i32_w]
                        rfl
                      refine last_ (i := 16) (N := some 52) #[true, true, true, true, true, true, true, true, true, true, true, true, true, true, true, true, true, false, false] rfl rfl (one_of HT_.out (by kernel_rfl)) (by decide) (fun K hK => ?_)
                      refine value_ (w1 := ?_) (v := ?_) (by rfl) rfl ?_ ?_
                      rotate_left 2
                      · go_simp
                        constructor
                        · rfl
                        · rfl
                      refine hK.out _ _ ?_
                      clear hK K
                      refine norm_ (a' := ?_) ?_ ?_
                      rotate_left
                      · show Act.put _ (some 52) _ = _
                        simp only [Act.put, List.setIfInBounds_toArray, List.set_cons_zero, List.set_cons_succ, i64_w, i32_w]
                        rfl
                      refine last_ (i := 17) (N := some 53) #[true, true, true, true, true, true, true, true, true, true, true, true, true, true, true, true, true, true, false] rfl rfl (one_of HT_.out (by kernel_rfl)) (by decide) (fun K hK => ?_)
                      refine Kd.R_append_step k125 (w0 := w) w.heap.size (by rfl) (.tmp 36) (.tmp 52) 120 125 (.agg #[(.int .i64 0), (.int .i64 0), (.string ⟨#[]⟩)]) 32 rfl Tryd.underlying120 info125 rfl (by decide) (by omega) u5 x5_1 (⟨t306, (rd_T67 t303 x6_1).f0, a0.extract (((rd_T67 t303 x6_1).f0) : Int).toNat ((a0.size : Int) : Int).toNat⟩ : S125) [.int .i64 t306, .int .i64 ((rd_T67 t303 x6_1).f0), .string (a0.extract (((rd_T67 t303 x6_1).f0) : Int).toNat ((a0.size : Int) : Int).toNat)] (fun _ => True) (fun _ => False) rfl rfl ?aP (fun _ hk => hk.elim) ?aF ?aO ?aB ?aS ?aL ?_
                      (case aP => exact k125_mkM _ _ _ (⟨t306, (rd_T67 t303 x6_1).f0, a0.extract (((rd_T67 t303 x6_1).f0) : Int).toNat ((a0.size : Int) : Int).toNat⟩ : S125))
                      (case aB => exact (by repeat (first | (with_reducible first | exact HB.out | apply below_alloc | apply pw_below_drewN | apply below_drew1) | exact HB.out)))
                      (case aF => exact (fun _ _ => trivial))
                      (case aO => exact (by (with_reducible repeat (first | apply Kd.R_alloc | apply Kd.R_drewN | apply Kd.R_drew)); exact HO_5.out))
                      (case aS => exact (below_size (by repeat (first | (with_reducible first | exact HB.out | apply below_alloc | apply pw_below_drewN | apply below_drew1) | exact HB.out))))
                      (case aL => have := LMc22.out; omega)
                      intro v317 w26 ho hb hg hat
                      rw [← Ny316.out] at ho
                      have n0_ := Aside0.mk (Kd.R_over' (by (with_reducible repeat (first | apply Kd.R_alloc | apply Kd.R_drewN | apply Kd.R_drew)); exact HO_4.out) (Kd.R_typed (by (with_reducible repeat (first | apply Kd.R_alloc | apply Kd.R_drewN | apply Kd.R_drew)); exact HO_5.out)) (by decide) hg)
                      have n1_ := Aside0.mk (hb)
                      have n2_ := Aside0.mk (ho)
                      clear HO_4
                      clear HB
                      clear HO_5
                      have HO_4 := n0_
                      have HB := n1_
                      have HO318 := n2_
                      clear n0_ n1_ n2_
                      clear ho hb hg hat
                      refine hK.out _ _ ?_
                      clear hK K
                      refine norm_ (a' := ?_) ?_ ?_
                      rotate_left
                      · show Act.put _ (some 53) _ = _
                        simp only [Act.put, List.setIfInBounds_toArray, List.set_cons_zero, List.set_cons_succ, i64_w, i32_w]
                        rfl
                      refine pure_ (i := 18) (N := some 5) (v := ?_) (a' := ?_) #[true, true, true, true, true, true, true, true, true, true, true, true, true, true, true, true, true, true, true] rfl rfl (any_of HT_.out (by kernel_rfl)) (fun _ _ _ h => h) (Or.inl ⟨by rfl, ?_⟩) ?_ ?_
                      rotate_left
                      · intro w'
                        go_simp
                        with_reducible rfl
                      rotate_left
                      · simp only [Act.put, List.setIfInBounds_toArray, List.set_cons_zero, List.set_cons_succ, i64_w, i32_w]
                        rfl
                      refine done_ (done_of HT_.out (by kernel_rfl)) ?_
                      try go_wp2
                      go_roundg k1
                      case measure => have := HK1.out; omega
                      case rel => exact ⟨(y316), (t307), (by first | rfl | (simp; done) | (simp [*]; done)), H', ⟨by have := HK1.out; omega⟩, ⟨by (with_reducible repeat (first | apply Kd.R_alloc | apply Kd.R_drewN | apply Kd.R_drew)); exact HO_4.out⟩, ⟨by (with_reducible repeat (first | apply Kd.R_alloc | apply Kd.R_drewN | apply Kd.R_drew)); exact HO318.out⟩, ⟨by repeat (first | (with_reducible first | exact HB.out | apply below_alloc | apply pw_below_drewN | apply below_drew1) | exact HB.out)⟩⟩
                    · rw [if_neg c22] at H
                      exact absurd H (by simp)
                  · rw [if_neg c21] at H
                    exact absurd H (by simp)
                · rw [if_neg c20] at H
                  exact absurd H (by simp)
              · rw [if_neg c19] at H
                exact absurd H (by simp)
            · rw [if_neg c18] at H
              exact absurd H (by simp)
        · rw [if_neg c5] at H
          have c5b0 : decide (x6_1 < (t303.length : Int)) = false := decide_eq_false c5
          clear c5
          simp only [Option.some.injEq, Prod.mk.injEq] at H
          obtain ⟨rfl, rfl⟩ := H
          obtain ⟨Ao27, co27, eo27⟩ := Kd.R_slice HO_4.out
          subst eo27
          go_wp2
          go_ret2
          exact ⟨_, by first | rfl | (simp [errW_none, errW_some] <;> rfl) | (simp [*, errW_none, errW_some] <;> rfl), by (with_reducible repeat (first | apply Kd.R_alloc | apply Kd.R_drewN | apply Kd.R_drew)); exact HO_5.out, by repeat (first | (with_reducible first | exact HB.out | apply below_alloc | apply pw_below_drewN | apply below_drew1) | exact HB.out)⟩
end Go.Proofs.YtblpiceallbfjaaDoor.Pr
