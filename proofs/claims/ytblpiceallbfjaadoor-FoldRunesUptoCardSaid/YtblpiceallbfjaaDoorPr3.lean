-- Written by a program of ours (drive.py) by way of the kit's printer. Lean checks it.
import Derived.Test.YtblpiceallbfjaaDoorPr0
import Derived.Test.YtblpiceallbfjaaDoorExtFold
import Derived.Test.YtblpiceallbfjaaDoorGlobals
namespace Go.Proofs.YtblpiceallbfjaaDoor.Pr
open Go.RowKit Go.Proofs.YtblpiceallbfjaaDoorW.PrintWords Go.Proofs.YtblpiceallbfjaaDoorW.PrintLast Go.Proofs.YtblpiceallbfjaaDoorW.PrintMore
attribute [local go_sem] max2_int min2_int max_two min_two max_three min_three max_four min_four   -- for this text's walks alone
set_option linter.unusedVariables false
set_option linter.unusedSimpArgs false

/-! ### siglumlaw03_awake: function 13 -/
def siglumlaw03_awake.f  : Option (Bool) := (fold_Text.f (⟨#[197, 146, 117, 118, 114, 101, 255]⟩ : ByteArray) 31).bind fun bt101 => ((fold_Text.f (⟨#[97]⟩ : ByteArray) 32).bind fun bt103 => (if bt101.1.toList = ([111, 101, 117, 117, 114, 101, 255] : List UInt8) then (if bt101.2 = 0 then (some (bt103.2 == 2)) else (some false)) else (some false)))
set_option maxHeartbeats 8000000 in
set_option maxRecDepth 100000 in
theorem siglumlaw03_awake.calls  (r : Bool) (w : World) (hG : Gu w) (h : siglumlaw03_awake.f  = some r) :
    Calls Tryd.prog 13 #[] w fun e w' => e = .returned (.bool r) ∧ Below w.heap.size w w' := by
  have HB := Aside0.mk (Below.refl w.heap.size w)
  have HG := Aside0.mk hG
  clear hG
  have H : ((fold_Text.f (⟨#[197, 146, 117, 118, 114, 101, 255]⟩ : ByteArray) 31).bind fun bt101 => ((fold_Text.f (⟨#[97]⟩ : ByteArray) 32).bind fun bt103 => (if bt101.1.toList = ([111, 101, 117, 117, 114, 101, 255] : List UInt8) then (if bt101.2 = 0 then (some (bt103.2 == 2)) else (some false)) else (some false)))) = some r := h
  clear h
  replace H := Option.bind_eq_some_iff.mp H
  obtain ⟨⟨t101, t102⟩, A10, H⟩ := H
  replace H : ((fold_Text.f (⟨#[97]⟩ : ByteArray) 32).bind fun bt103 => (if t101.toList = ([111, 101, 117, 117, 114, 101, 255] : List UInt8) then (if t102 = 0 then (some (bt103.2 == 2)) else (some false)) else (some false))) = some r := H
  have A1 := Aside0.mk A10
  clear A10
  replace H := Option.bind_eq_some_iff.mp H
  obtain ⟨⟨t103, t104⟩, A20, H⟩ := H
  replace H : (if t101.toList = ([111, 101, 117, 117, 114, 101, 255] : List UInt8) then (if t102 = 0 then (some (t104 == 2)) else (some false)) else (some false)) = some r := H
  have A2 := Aside0.mk A20
  clear A20
  by_cases c3 : t101.toList = ([111, 101, 117, 117, 114, 101, 255] : List UInt8)
  · rw [if_pos c3] at H
    have c3b0 : (t101.toList == ([111, 101, 117, 117, 114, 101, 255] : List UInt8)) = true := beq_iff_eq.mpr c3
    have c3b1 : (t101.toList != ([111, 101, 117, 117, 114, 101, 255] : List UInt8)) = false := bne_eq_false_iff_eq.mpr c3
    clear c3
    by_cases c4 : t102 = 0
    · rw [if_pos c4] at H
      have c4b0 : (t102 == 0) = true := beq_iff_eq.mpr c4
      have c4b1 : (t102 != 0) = false := bne_eq_false_iff_eq.mpr c4
      clear c4
      obtain rfl := Option.some.inj H
      go_enter Tryd.func13, Tryd.ntmps13
      go_wp2_with (first | ((with_reducible refine gate_callee (f := 15) rfl ?_); refine goesL_ (some 6) rfl rfl Tryd.func15 (by kernel_rfl) rfl #[.string (⟨#[197, 146, 117, 118, 114, 101, 255]⟩ : ByteArray), .int .i64 31] rfl (by (try simp only [List.map_toArray, List.map_cons, List.map_nil]); first | done | rfl | (simp only [List.length_drop, List.length_take]; rfl)) ?_; (with_reducible refine (fold_Text.calls (⟨#[197, 146, 117, 118, 114, 101, 255]⟩ : ByteArray) 31 t101 t102 _ ?side1 A1.out).mono ?_); (case side1 => exact Gu.below HG.out (by repeat (first | (with_reducible first | exact HB.out | apply below_alloc | apply pw_below_drewN | apply below_drew1) | exact HB.out))); rintro e w5 ⟨rfl, hb⟩; refine ⟨_, rfl, ?_⟩; have n0_ := Aside0.mk (below_step (by repeat (first | (with_reducible first | exact HB.out | apply below_alloc | apply pw_below_drewN | apply below_drew1) | exact HB.out)) hb); clear HB; have HB := n0_; clear n0_; (try clear hb); (try clear hb2); (try clear hk); (try clear hi)) | ((with_reducible refine gate_callee (f := 15) rfl ?_); refine goesL_ (some 10) rfl rfl Tryd.func15 (by kernel_rfl) rfl #[.string (⟨#[97]⟩ : ByteArray), .int .i64 32] rfl (by (try simp only [List.map_toArray, List.map_cons, List.map_nil]); first | done | rfl | (simp only [List.length_drop, List.length_take]; rfl)) ?_; (with_reducible refine (fold_Text.calls (⟨#[97]⟩ : ByteArray) 32 t103 t104 _ ?side1 A2.out).mono ?_); (case side1 => exact Gu.below HG.out (by repeat (first | (with_reducible first | exact HB.out | apply below_alloc | apply pw_below_drewN | apply below_drew1) | exact HB.out))); rintro e w6 ⟨rfl, hb⟩; refine ⟨_, rfl, ?_⟩; have n0_ := Aside0.mk (below_step (by repeat (first | (with_reducible first | exact HB.out | apply below_alloc | apply pw_below_drewN | apply below_drew1) | exact HB.out)) hb); clear HB; have HB := n0_; clear n0_; (try clear hb); (try clear hb2); (try clear hk); (try clear hi)))
      go_ret
      exact ⟨by first | rfl | (simp [errW_none, errW_some] <;> rfl) | (simp [*, errW_none, errW_some] <;> rfl), by repeat (first | (with_reducible first | exact HB.out | apply below_alloc | apply pw_below_drewN | apply below_drew1) | exact HB.out)⟩
    · rw [if_neg c4] at H
      have c4b0 : (t102 == 0) = false := beq_eq_false_iff_ne.mpr c4
      have c4b1 : (t102 != 0) = true := bne_iff_ne.mpr c4
      obtain rfl := Option.some.inj H
      go_enter Tryd.func13, Tryd.ntmps13
      go_wp2_with (first | ((with_reducible refine gate_callee (f := 15) rfl ?_); refine goesL_ (some 6) rfl rfl Tryd.func15 (by kernel_rfl) rfl #[.string (⟨#[197, 146, 117, 118, 114, 101, 255]⟩ : ByteArray), .int .i64 31] rfl (by (try simp only [List.map_toArray, List.map_cons, List.map_nil]); first | done | rfl | (simp only [List.length_drop, List.length_take]; rfl)) ?_; (with_reducible refine (fold_Text.calls (⟨#[197, 146, 117, 118, 114, 101, 255]⟩ : ByteArray) 31 t101 t102 _ ?side1 A1.out).mono ?_); (case side1 => exact Gu.below HG.out (by repeat (first | (with_reducible first | exact HB.out | apply below_alloc | apply pw_below_drewN | apply below_drew1) | exact HB.out))); rintro e w7 ⟨rfl, hb⟩; refine ⟨_, rfl, ?_⟩; have n0_ := Aside0.mk (below_step (by repeat (first | (with_reducible first | exact HB.out | apply below_alloc | apply pw_below_drewN | apply below_drew1) | exact HB.out)) hb); clear HB; have HB := n0_; clear n0_; (try clear hb); (try clear hb2); (try clear hk); (try clear hi)) | ((with_reducible refine gate_callee (f := 15) rfl ?_); refine goesL_ (some 10) rfl rfl Tryd.func15 (by kernel_rfl) rfl #[.string (⟨#[97]⟩ : ByteArray), .int .i64 32] rfl (by (try simp only [List.map_toArray, List.map_cons, List.map_nil]); first | done | rfl | (simp only [List.length_drop, List.length_take]; rfl)) ?_; (with_reducible refine (fold_Text.calls (⟨#[97]⟩ : ByteArray) 32 t103 t104 _ ?side1 A2.out).mono ?_); (case side1 => exact Gu.below HG.out (by repeat (first | (with_reducible first | exact HB.out | apply below_alloc | apply pw_below_drewN | apply below_drew1) | exact HB.out))); rintro e w8 ⟨rfl, hb⟩; refine ⟨_, rfl, ?_⟩; have n0_ := Aside0.mk (below_step (by repeat (first | (with_reducible first | exact HB.out | apply below_alloc | apply pw_below_drewN | apply below_drew1) | exact HB.out)) hb); clear HB; have HB := n0_; clear n0_; (try clear hb); (try clear hb2); (try clear hk); (try clear hi)))
      go_ret
      exact ⟨by first | rfl | (simp [errW_none, errW_some] <;> rfl) | (simp [*, errW_none, errW_some] <;> rfl), by repeat (first | (with_reducible first | exact HB.out | apply below_alloc | apply pw_below_drewN | apply below_drew1) | exact HB.out)⟩
  · rw [if_neg c3] at H
    have c3b0 : (t101.toList == ([111, 101, 117, 117, 114, 101, 255] : List UInt8)) = false := beq_eq_false_iff_ne.mpr c3
    have c3b1 : (t101.toList != ([111, 101, 117, 117, 114, 101, 255] : List UInt8)) = true := bne_iff_ne.mpr c3
    obtain rfl := Option.some.inj H
    go_enter Tryd.func13, Tryd.ntmps13
    go_wp2_with (first | ((with_reducible refine gate_callee (f := 15) rfl ?_); refine goesL_ (some 6) rfl rfl Tryd.func15 (by kernel_rfl) rfl #[.string (⟨#[197, 146, 117, 118, 114, 101, 255]⟩ : ByteArray), .int .i64 31] rfl (by (try simp only [List.map_toArray, List.map_cons, List.map_nil]); first | done | rfl | (simp only [List.length_drop, List.length_take]; rfl)) ?_; (with_reducible refine (fold_Text.calls (⟨#[197, 146, 117, 118, 114, 101, 255]⟩ : ByteArray) 31 t101 t102 _ ?side1 A1.out).mono ?_); (case side1 => exact Gu.below HG.out (by repeat (first | (with_reducible first | exact HB.out | apply below_alloc | apply pw_below_drewN | apply below_drew1) | exact HB.out))); rintro e w9 ⟨rfl, hb⟩; refine ⟨_, rfl, ?_⟩; have n0_ := Aside0.mk (below_step (by repeat (first | (with_reducible first | exact HB.out | apply below_alloc | apply pw_below_drewN | apply below_drew1) | exact HB.out)) hb); clear HB; have HB := n0_; clear n0_; (try clear hb); (try clear hb2); (try clear hk); (try clear hi)) | ((with_reducible refine gate_callee (f := 15) rfl ?_); refine goesL_ (some 10) rfl rfl Tryd.func15 (by kernel_rfl) rfl #[.string (⟨#[97]⟩ : ByteArray), .int .i64 32] rfl (by (try simp only [List.map_toArray, List.map_cons, List.map_nil]); first | done | rfl | (simp only [List.length_drop, List.length_take]; rfl)) ?_; (with_reducible refine (fold_Text.calls (⟨#[97]⟩ : ByteArray) 32 t103 t104 _ ?side1 A2.out).mono ?_); (case side1 => exact Gu.below HG.out (by repeat (first | (with_reducible first | exact HB.out | apply below_alloc | apply pw_below_drewN | apply below_drew1) | exact HB.out))); rintro e w10 ⟨rfl, hb⟩; refine ⟨_, rfl, ?_⟩; have n0_ := Aside0.mk (below_step (by repeat (first | (with_reducible first | exact HB.out | apply below_alloc | apply pw_below_drewN | apply below_drew1) | exact HB.out)) hb); clear HB; have HB := n0_; clear n0_; (try clear hb); (try clear hb2); (try clear hk); (try clear hi)))
    go_ret
    exact ⟨by first | rfl | (simp [errW_none, errW_some] <;> rfl) | (simp [*, errW_none, errW_some] <;> rfl), by repeat (first | (with_reducible first | exact HB.out | apply below_alloc | apply pw_below_drewN | apply below_drew1) | exact HB.out)⟩

end Go.Proofs.YtblpiceallbfjaaDoor.Pr
