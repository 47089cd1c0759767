/- Texts of this claim, one behind the other, of each what the row uses: Pr10, Pr12. -/
import Derived.Test.YtblpiceallbfjaaDoorCt072
import Derived.Test.YtblpiceallbfjaaDoorCt073
import Derived.Test.YtblpiceallbfjaaDoorCt074
import Derived.Test.YtblpiceallbfjaaDoorCt077
namespace Go.Proofs.YtblpiceallbfjaaDoor.Pr
open Go.RowKit Go.Proofs.YtblpiceallbfjaaDoorW.PrintWords Go.Proofs.YtblpiceallbfjaaDoorW.PrintLast Go.Proofs.YtblpiceallbfjaaDoorW.PrintMore
attribute [local go_sem] max2_int min2_int max_two min_two max_three min_three max_four min_four   -- for this text's walks alone
set_option linter.unusedVariables false
set_option linter.unusedSimpArgs false
mutual
def siglumref03_Rune.j0 : Nat → Int → Int → Bool → Option (ByteArray × Int)
  | 0, _, _, _ => none
  | k + 1, x0, x1, x13 => if x13 = true then (some ((⟨#[]⟩ : ByteArray), 2)) else ((some (([x0] : List Int) : List Int)).bind fun y181 => (if (Int.tmod (wrap64 (Int.tdiv x1 16)) 2) = 1 then ((siglumref03_drop.f k y181 4).bind fun t184 => (siglumref03_Rune.j1 k x1 t184)) else (siglumref03_Rune.j1 k x1 y181)))
def siglumref03_Rune.j1 : Nat → Int → List Int → Option (ByteArray × Int)
  | 0, _, _ => none
  | k + 1, x1, x6 => if (Int.tmod (wrap64 (Int.tdiv x1 2)) 2) = 1 then ((siglumref03_drop.f k x6 2).bind fun t187 => (siglumref03_Rune.j2 k x1 t187)) else (siglumref03_Rune.j2 k x1 x6)
def siglumref03_Rune.j2 : Nat → Int → List Int → Option (ByteArray × Int)
  | 0, _, _ => none
  | k + 1, x1, x6 => if (Int.tmod (wrap64 (Int.tdiv x1 4)) 2) = 1 then ((siglumref03_ligs.f k x6).bind fun t190 => (siglumref03_Rune.j3 k x1 t190)) else (siglumref03_Rune.j3 k x1 x6)
def siglumref03_Rune.j3 : Nat → Int → List Int → Option (ByteArray × Int)
  | 0, _, _ => none
  | k + 1, x1, x6 => siglumref03_Rune.l0 k x1 x6 0
def siglumref03_Rune.l0 : Nat → Int → List Int → Int → Option (ByteArray × Int)
  | 0, _, _, _ => none
  | k + 1, x1, x6, x7 => if x7 < (x6.length : Int) then (if (Int.tmod x1 2) = 1 then (if 0 ≤ x7 then ((siglumref03_small.f (rd x6 x7)).bind fun t195 => (siglumref03_Rune.j5 k x1 (x6.set (x7 : Int).toNat t195) x7)) else (none)) else (siglumref03_Rune.j5 k x1 x6 x7)) else ((siglumref01_Back.f k x6).bind fun t193 => (some (t193, 0)))
def siglumref03_Rune.j5 : Nat → Int → List Int → Int → Option (ByteArray × Int)
  | 0, _, _, _ => none
  | k + 1, x1, x6, x7 => if (Int.tmod (wrap64 (Int.tdiv x1 2)) 2) = 1 then (if 0 ≤ x7 then (if x7 < (x6.length : Int) then ((siglumref03_bare.f k (rd x6 x7)).bind fun t198 => ((some (x6.set (x7 : Int).toNat t198 : List Int)).bind fun y199 => (if (Int.tmod (wrap64 (Int.tdiv x1 8)) 2) = 1 then ((siglumref03_plain.f (rd y199 x7)).bind fun t201 => (siglumref03_Rune.l0 k x1 (y199.set (x7 : Int).toNat t201) (wrap64 (x7 + 1)))) else (siglumref03_Rune.l0 k x1 y199 (wrap64 (x7 + 1)))))) else (none)) else (none)) else (if (Int.tmod (wrap64 (Int.tdiv x1 8)) 2) = 1 then (if 0 ≤ x7 then (if x7 < (x6.length : Int) then ((siglumref03_plain.f (rd x6 x7)).bind fun t204 => (siglumref03_Rune.l0 k x1 (x6.set (x7 : Int).toNat t204) (wrap64 (x7 + 1)))) else (none)) else (none)) else (siglumref03_Rune.l0 k x1 x6 (wrap64 (x7 + 1))))
end
def siglumref03_Rune.f (k : Nat) (a0 : Int) (a1 : Int) : Option (ByteArray × Int) := if a1 < 0 then (siglumref03_Rune.j0 k a0 a1 true) else (siglumref03_Rune.j0 k a0 a1 (decide (a1 > 31)))
theorem siglumref03_Rune.mono_l : ∀ k, (∀ y0 y1 y2, LeO (siglumref03_Rune.j0 k y0 y1 y2) (siglumref03_Rune.j0 (k + 1) y0 y1 y2)) ∧ (∀ y0 y1, LeO (siglumref03_Rune.j1 k y0 y1) (siglumref03_Rune.j1 (k + 1) y0 y1)) ∧ (∀ y0 y1, LeO (siglumref03_Rune.j2 k y0 y1) (siglumref03_Rune.j2 (k + 1) y0 y1)) ∧ (∀ y0 y1, LeO (siglumref03_Rune.j3 k y0 y1) (siglumref03_Rune.j3 (k + 1) y0 y1)) ∧ (∀ y0 y1 y2, LeO (siglumref03_Rune.l0 k y0 y1 y2) (siglumref03_Rune.l0 (k + 1) y0 y1 y2)) ∧ (∀ y0 y1 y2, LeO (siglumref03_Rune.j5 k y0 y1 y2) (siglumref03_Rune.j5 (k + 1) y0 y1 y2))
  | 0 => ⟨fun _ _ _ r h => by simp [siglumref03_Rune.j0] at h, fun _ _ r h => by simp [siglumref03_Rune.j1] at h, fun _ _ r h => by simp [siglumref03_Rune.j2] at h, fun _ _ r h => by simp [siglumref03_Rune.j3] at h, fun _ _ _ r h => by simp [siglumref03_Rune.l0] at h, fun _ _ _ r h => by simp [siglumref03_Rune.j5] at h⟩
  | k + 1 => by
    obtain ⟨ih0, ih1, ih2, ih3, ih4, ih5⟩ := siglumref03_Rune.mono_l k
    refine ⟨?_, ?_, ?_, ?_, ?_, ?_⟩
    · intro y0 y1 y2
      unfold siglumref03_Rune.j0
      repeat' first
      | (with_reducible exact ih0 _ _ _)
      | (with_reducible exact ih1 _ _)
      | (with_reducible exact ih2 _ _)
      | (with_reducible exact ih3 _ _)
      | (with_reducible exact ih4 _ _ _)
      | (with_reducible exact ih5 _ _ _)
      | (with_reducible exact siglumref01_Back.mono _ _)
      | (with_reducible exact siglumref03_bare.mono _ _)
      | (with_reducible exact siglumref03_drop.mono _ _ _)
      | (with_reducible exact siglumref03_ligs.mono _ _)
      | (with_reducible exact LeO.refl _)
      | (with_reducible exact LeO.none _)
      | (with_reducible refine LeO.ite ?_ ?_)
      | (with_reducible refine LeO.bind ?_ (fun _ => ?_))
      | exact ih0 _ _ _
      | exact ih1 _ _
      | exact ih2 _ _
      | exact ih3 _ _
      | exact ih4 _ _ _
      | exact ih5 _ _ _
      | exact siglumref01_Back.mono _ _
      | exact siglumref03_bare.mono _ _
      | exact siglumref03_drop.mono _ _ _
      | exact siglumref03_ligs.mono _ _
      | exact LeO.none _
      | refine LeO.ite ?_ ?_
      | refine LeO.bind ?_ (fun _ => ?_)
    · intro y0 y1
      unfold siglumref03_Rune.j1
      repeat' first
      | (with_reducible exact ih0 _ _ _)
      | (with_reducible exact ih1 _ _)
      | (with_reducible exact ih2 _ _)
      | (with_reducible exact ih3 _ _)
      | (with_reducible exact ih4 _ _ _)
      | (with_reducible exact ih5 _ _ _)
      | (with_reducible exact siglumref01_Back.mono _ _)
      | (with_reducible exact siglumref03_bare.mono _ _)
      | (with_reducible exact siglumref03_drop.mono _ _ _)
      | (with_reducible exact siglumref03_ligs.mono _ _)
      | (with_reducible exact LeO.refl _)
      | (with_reducible exact LeO.none _)
      | (with_reducible refine LeO.ite ?_ ?_)
      | (with_reducible refine LeO.bind ?_ (fun _ => ?_))
      | exact ih0 _ _ _
      | exact ih1 _ _
      | exact ih2 _ _
      | exact ih3 _ _
      | exact ih4 _ _ _
      | exact ih5 _ _ _
      | exact siglumref01_Back.mono _ _
      | exact siglumref03_bare.mono _ _
      | exact siglumref03_drop.mono _ _ _
      | exact siglumref03_ligs.mono _ _
      | exact LeO.none _
      | refine LeO.ite ?_ ?_
      | refine LeO.bind ?_ (fun _ => ?_)
    · intro y0 y1
      unfold siglumref03_Rune.j2
      repeat' first
      | (with_reducible exact ih0 _ _ _)
      | (with_reducible exact ih1 _ _)
      | (with_reducible exact ih2 _ _)
      | (with_reducible exact ih3 _ _)
      | (with_reducible exact ih4 _ _ _)
      | (with_reducible exact ih5 _ _ _)
      | (with_reducible exact siglumref01_Back.mono _ _)
      | (with_reducible exact siglumref03_bare.mono _ _)
      | (with_reducible exact siglumref03_drop.mono _ _ _)
      | (with_reducible exact siglumref03_ligs.mono _ _)
      | (with_reducible exact LeO.refl _)
      | (with_reducible exact LeO.none _)
      | (with_reducible refine LeO.ite ?_ ?_)
      | (with_reducible refine LeO.bind ?_ (fun _ => ?_))
      | exact ih0 _ _ _
      | exact ih1 _ _
      | exact ih2 _ _
      | exact ih3 _ _
      | exact ih4 _ _ _
      | exact ih5 _ _ _
      | exact siglumref01_Back.mono _ _
      | exact siglumref03_bare.mono _ _
      | exact siglumref03_drop.mono _ _ _
      | exact siglumref03_ligs.mono _ _
      | exact LeO.none _
      | refine LeO.ite ?_ ?_
      | refine LeO.bind ?_ (fun _ => ?_)
    · intro y0 y1
      unfold siglumref03_Rune.j3
      repeat' first
      | (with_reducible exact ih0 _ _ _)
      | (with_reducible exact ih1 _ _)
      | (with_reducible exact ih2 _ _)
      | (with_reducible exact ih3 _ _)
      | (with_reducible exact ih4 _ _ _)
      | (with_reducible exact ih5 _ _ _)
      | (with_reducible exact siglumref01_Back.mono _ _)
      | (with_reducible exact siglumref03_bare.mono _ _)
      | (with_reducible exact siglumref03_drop.mono _ _ _)
      | (with_reducible exact siglumref03_ligs.mono _ _)
      | (with_reducible exact LeO.refl _)
      | (with_reducible exact LeO.none _)
      | (with_reducible refine LeO.ite ?_ ?_)
      | (with_reducible refine LeO.bind ?_ (fun _ => ?_))
      | exact ih0 _ _ _
      | exact ih1 _ _
      | exact ih2 _ _
      | exact ih3 _ _
      | exact ih4 _ _ _
      | exact ih5 _ _ _
      | exact siglumref01_Back.mono _ _
      | exact siglumref03_bare.mono _ _
      | exact siglumref03_drop.mono _ _ _
      | exact siglumref03_ligs.mono _ _
      | exact LeO.none _
      | refine LeO.ite ?_ ?_
      | refine LeO.bind ?_ (fun _ => ?_)
    · intro y0 y1 y2
      unfold siglumref03_Rune.l0
      repeat' first
      | (with_reducible exact ih0 _ _ _)
      | (with_reducible exact ih1 _ _)
      | (with_reducible exact ih2 _ _)
      | (with_reducible exact ih3 _ _)
      | (with_reducible exact ih4 _ _ _)
      | (with_reducible exact ih5 _ _ _)
      | (with_reducible exact siglumref01_Back.mono _ _)
      | (with_reducible exact siglumref03_bare.mono _ _)
      | (with_reducible exact siglumref03_drop.mono _ _ _)
      | (with_reducible exact siglumref03_ligs.mono _ _)
      | (with_reducible exact LeO.refl _)
      | (with_reducible exact LeO.none _)
      | (with_reducible refine LeO.ite ?_ ?_)
      | (with_reducible refine LeO.bind ?_ (fun _ => ?_))
      | exact ih0 _ _ _
      | exact ih1 _ _
      | exact ih2 _ _
      | exact ih3 _ _
      | exact ih4 _ _ _
      | exact ih5 _ _ _
      | exact siglumref01_Back.mono _ _
      | exact siglumref03_bare.mono _ _
      | exact siglumref03_drop.mono _ _ _
      | exact siglumref03_ligs.mono _ _
      | exact LeO.none _
      | refine LeO.ite ?_ ?_
      | refine LeO.bind ?_ (fun _ => ?_)
    · intro y0 y1 y2
      unfold siglumref03_Rune.j5
      repeat' first
      | (with_reducible exact ih0 _ _ _)
      | (with_reducible exact ih1 _ _)
      | (with_reducible exact ih2 _ _)
      | (with_reducible exact ih3 _ _)
      | (with_reducible exact ih4 _ _ _)
      | (with_reducible exact ih5 _ _ _)
      | (with_reducible exact siglumref01_Back.mono _ _)
      | (with_reducible exact siglumref03_bare.mono _ _)
      | (with_reducible exact siglumref03_drop.mono _ _ _)
      | (with_reducible exact siglumref03_ligs.mono _ _)
      | (with_reducible exact LeO.refl _)
      | (with_reducible exact LeO.none _)
      | (with_reducible refine LeO.ite ?_ ?_)
      | (with_reducible refine LeO.bind ?_ (fun _ => ?_))
      | exact ih0 _ _ _
      | exact ih1 _ _
      | exact ih2 _ _
      | exact ih3 _ _
      | exact ih4 _ _ _
      | exact ih5 _ _ _
      | exact siglumref01_Back.mono _ _
      | exact siglumref03_bare.mono _ _
      | exact siglumref03_drop.mono _ _ _
      | exact siglumref03_ligs.mono _ _
      | exact LeO.none _
      | refine LeO.ite ?_ ?_
      | refine LeO.bind ?_ (fun _ => ?_)
theorem siglumref03_Rune.mono : ∀ a0 a1 k, LeO (siglumref03_Rune.f k a0 a1) (siglumref03_Rune.f (k + 1) a0 a1) := by
  intro a0 a1 k
  obtain ⟨ih0, ih1, ih2, ih3, ih4, ih5⟩ := siglumref03_Rune.mono_l k
  unfold siglumref03_Rune.f
  repeat' first
      | (with_reducible exact ih0 _ _ _)
      | (with_reducible exact ih1 _ _)
      | (with_reducible exact ih2 _ _)
      | (with_reducible exact ih3 _ _)
      | (with_reducible exact ih4 _ _ _)
      | (with_reducible exact ih5 _ _ _)
      | (with_reducible exact siglumref01_Back.mono _ _)
      | (with_reducible exact siglumref03_bare.mono _ _)
      | (with_reducible exact siglumref03_drop.mono _ _ _)
      | (with_reducible exact siglumref03_ligs.mono _ _)
      | (with_reducible exact LeO.refl _)
      | (with_reducible exact LeO.none _)
      | (with_reducible refine LeO.ite ?_ ?_)
      | (with_reducible refine LeO.bind ?_ (fun _ => ?_))
      | exact ih0 _ _ _
      | exact ih1 _ _
      | exact ih2 _ _
      | exact ih3 _ _
      | exact ih4 _ _ _
      | exact ih5 _ _ _
      | exact siglumref01_Back.mono _ _
      | exact siglumref03_bare.mono _ _
      | exact siglumref03_drop.mono _ _ _
      | exact siglumref03_ligs.mono _ _
      | exact LeO.none _
      | refine LeO.ite ?_ ?_
      | refine LeO.bind ?_ (fun _ => ?_)
set_option maxHeartbeats 8000000 in
set_option maxRecDepth 100000 in
theorem siglumref03_Rune.calls (k : Nat) (a0 : Int) (a1 : Int) (r1 : ByteArray) (r2 : Int) (w : World) (h : siglumref03_Rune.f k a0 a1 = some (r1, r2)) :
    Calls Tryd.prog 17 #[.int .i32 a0, .int .i64 a1] w fun e w' => e = .returned (.tuple #[.string r1, .int .i64 r2]) ∧ Below w.heap.size w w' := by
  have HB := Aside0.mk (Below.refl w.heap.size w)
  have H : (if a1 < 0 then (siglumref03_Rune.j0 k a0 a1 true) else (siglumref03_Rune.j0 k a0 a1 (decide (a1 > 31)))) = some (r1, r2) := h
  clear h
  have HC3 := Aside0.mk H
  clear H
  go_enter Tryd.func17, Tryd.ntmps17
  go_upto_region 1 with (fail)
  go_cut [13] (fun v13 wc => ∃ (kq : Nat) (x13_2 : Bool), v13 = .bool x13_2 ∧ Aside0 (siglumref03_Rune.j0 kq a0 a1 x13_2 = some (r1, r2)) ∧ Aside0 (kq ≤ k) ∧ Aside0 (Below w.heap.size w wc))
  case first =>
    have H := HC3.out
    clear HC3
    by_cases c4 : a1 < 0
    · rw [if_pos c4] at H
      have c4b0 : decide (a1 < 0) = true := decide_eq_true c4
      clear c4
      (first | rw [c4b0] | (simp only [i64_w, i32_w]; rw [c4b0]) | skip)
      have H' := Aside0.mk H
      clear H
      go_wp2
      go_meet
      case rel => exact ⟨_, (true), (by first | rfl | (simp; done) | (simp [*]; done)), H', ⟨by first | omega | exact Nat.le_refl _⟩, ⟨by repeat (first | (with_reducible first | exact HB.out | apply below_alloc | apply pw_below_drewN | apply below_drew1) | exact HB.out)⟩⟩
    · rw [if_neg c4] at H
      have c4b0 : decide (a1 < 0) = false := decide_eq_false c4
      clear c4
      (first | rw [c4b0] | (simp only [i64_w, i32_w]; rw [c4b0]) | skip)
      have H' := Aside0.mk H
      clear H
      go_wp2
      go_meet
      case rel => exact ⟨_, (decide (a1 > 31)), (by first | rfl | (simp; done) | (simp [*]; done)), H', ⟨by first | omega | exact Nat.le_refl _⟩, ⟨by repeat (first | (with_reducible first | exact HB.out | apply below_alloc | apply pw_below_drewN | apply below_drew1) | exact HB.out)⟩⟩
  case rest =>
    clear HC3
    try clear c1
    try clear p2
    try clear c4
    try clear c4b0
    obtain ⟨kq, x13_2, rfl, HA, HJ2, HB⟩ := hcut
    cases kq with
    | zero => exact absurd HA.out (by simp [siglumref03_Rune.j0])
    | succ kj2 =>
      have H := HA.out
      clear HA
      simp only [siglumref03_Rune.j0] at H
      by_cases c5 : x13_2 = true
      · subst c5
        have H1 : (some ((⟨#[]⟩ : ByteArray), 2)) = some (r1, r2) := by rw [if_pos rfl] at H; exact H
        clear H
        have H := H1
        clear H1
        simp only [Option.some.injEq, Prod.mk.injEq] at H
        obtain ⟨rfl, rfl⟩ := H
        go_wp2
        go_ret2
        exact ⟨by first | rfl | (simp [errW_none, errW_some] <;> rfl) | (simp [*, errW_none, errW_some] <;> rfl), by repeat (first | (with_reducible first | exact HB.out | apply below_alloc | apply pw_below_drewN | apply below_drew1) | exact HB.out)⟩
      · replace c5 := Bool.eq_false_iff.mpr c5
        subst c5
        have H1 : ((some (([a0] : List Int) : List Int)).bind fun y181 => (if (Int.tmod (wrap64 (Int.tdiv a1 16)) 2) = 1 then ((siglumref03_drop.f kj2 y181 4).bind fun t184 => (siglumref03_Rune.j1 kj2 a1 t184)) else (siglumref03_Rune.j1 kj2 a1 y181))) = some (r1, r2) := by rw [if_neg (show ¬ (false = true) by decide)] at H; exact H
        clear H
        have H := H1
        clear H1
        obtain ⟨y181, hy181⟩ : ∃ y_ : List Int, y_ = (([a0] : List Int)) := ⟨_, rfl⟩
        replace H : (if (Int.tmod (wrap64 (Int.tdiv a1 16)) 2) = 1 then ((siglumref03_drop.f kj2 y181 4).bind fun t184 => (siglumref03_Rune.j1 kj2 a1 t184)) else (siglumref03_Rune.j1 kj2 a1 y181)) = some (r1, r2) := by first | (rw [hy181]; with_reducible exact H) | (have H2_ := (Option.bind_some _ _).symm.trans H; rw [hy181]; with_reducible exact H2_) | (have H2_ := (Option.bind_some _ _).symm.trans H; with_reducible exact H2_) | with_reducible exact H | (rw [hy181]; exact H) | exact H
        have Ny181 := Aside0.mk hy181
        clear hy181
        have HC6 := Aside0.mk H
        clear H
        go_upto_if 19 with (first | ((with_reducible refine gate_dst (N := 15) rfl ?_); refine Kd.R_lit (Kd.int .i32) _ 21 ?hg (N := 15) ?hd (xs := ([a0] : List Int)) (inner := [.int .i32 a0]) (ok := fun _ => True) (okp := fun _ => True) ?hr ?hp (fun _ hk => hk) trivial (Below.refl _ _) (Nat.le_refl _) (by simp) ?_; (case hd => rfl); (case hg => rfl); (case hr => first | (go_simp; done) | (go_simp; rfl)); (case hp => exact (Reps.one (show Kd.M (Kd.int .i32) _ _ _ a0 [.int .i32 a0] from rfl) (Reps.none _ _))); intro v182 w7 ho8 hb hg_ hnew_; clear hg_ hnew_; (first | rw [← Ny181.out] at ho8 | (simp only [Int.reduceToNat] at ho8; rw [← Ny181.out] at ho8)); have n0_ := Aside0.mk (Kd.R_lower ho8 (below_size (by repeat (first | (with_reducible first | exact HB.out | apply below_alloc | apply pw_below_drewN | apply below_drew1) | exact HB.out)))); have n1_ := Aside0.mk (below_step (by repeat (first | (with_reducible first | exact HB.out | apply below_alloc | apply pw_below_drewN | apply below_drew1) | exact HB.out)) hb); clear HB; have HO183 := n0_; have HB := n1_; clear n0_ n1_; clear hb ho8))
        (try simp only [Act.put, List.setIfInBounds_toArray, List.set_cons_zero, List.set_cons_succ])
        go_cut [6] (fun v6 wc => ∃ (kq : Nat) (x6_5 : List Int), Aside0 (siglumref03_Rune.j1 kq a1 x6_5 = some (r1, r2)) ∧ Aside0 (kq ≤ kj2) ∧ Aside0 (Kd.R (Kd.int .i32) 21 wc w.heap.size (fun _ => True) v6 x6_5) ∧ Aside0 (Below w.heap.size w wc))
        case first =>
          have H := HC6.out
          clear HC6
          by_cases c9 : (Int.tmod (wrap64 (Int.tdiv a1 16)) 2) = 1
          · rw [if_pos c9] at H
            have c9b0 : ((Int.tmod (wrap64 (Int.tdiv a1 16)) 2) == 1) = true := beq_iff_eq.mpr c9
            have c9b1 : ((Int.tmod (wrap64 (Int.tdiv a1 16)) 2) != 1) = false := bne_eq_false_iff_eq.mpr c9
            clear c9
            (first | rw [c9b0] | (simp only [i64_w, i32_w]; rw [c9b0]) | skip)
            replace H := Option.bind_eq_some_iff.mp H
            obtain ⟨t184, A100, H⟩ := H
            replace H : (siglumref03_Rune.j1 kj2 a1 t184) = some (r1, r2) := H
            have A10 := Aside0.mk A100
            clear A100
            have H' := Aside0.mk H
            clear H
            obtain ⟨Ao11, co11, eo11⟩ := Kd.R_slice HO183.out
            subst eo11
            go_wp2_with (first | ((with_reducible refine gate_callee (f := 44) rfl ?_); refine goesL_ (some 21) rfl rfl Tryd.func44 (by kernel_rfl) rfl #[.slice Ao11 y181.length co11, .int .i64 4] rfl (by (try simp only [List.map_toArray, List.map_cons, List.map_nil]); first | done | rfl | (simp only [List.length_drop, List.length_take]; rfl)) ?_; (with_reducible refine (siglumref03_drop.calls kj2 _ _ y181 4 t184 _ ?side1 ?side2 A10.out).mono ?_); (case side1 => repeat (first | exact (Kd.R_reads' HO183.out).2.2 | (with_reducible refine Kd.C_alloc ?_ _) | (with_reducible refine Kd.C_drewN ?_ _) | (with_reducible refine Kd.C_drew ?_))); (case side2 => exact (Kd.R_reads' HO183.out).2.1); rintro e w12 ⟨v185, rfl, ho0, hb⟩; refine ⟨_, rfl, ?_⟩; have n0_ := Aside0.mk (Kd.R_elder' (by (with_reducible repeat (first | apply Kd.R_alloc | apply Kd.R_drewN | apply Kd.R_drew)); exact HO183.out) (Kd.R_base ho0) hb); have n1_ := Aside0.mk (Kd.R_lower (Kd.R_new' ho0 (Kd.R_lt (by (with_reducible repeat (first | apply Kd.R_alloc | apply Kd.R_drewN | apply Kd.R_drew)); exact HO183.out))) (below_size (by repeat (first | (with_reducible first | exact HB.out | apply below_alloc | apply pw_below_drewN | apply below_drew1) | exact HB.out)))); have n2_ := Aside0.mk (below_step (by repeat (first | (with_reducible first | exact HB.out | apply below_alloc | apply pw_below_drewN | apply below_drew1) | exact HB.out)) hb); clear HO183; clear HB; have HO183 := n0_; have HO186 := n1_; have HB := n2_; clear n0_ n1_ n2_; (try clear hb); (try clear hb2); (try clear hk); (try clear hi); (try clear ho0)))
            go_meet
            case rel => exact ⟨_, (t184), H', ⟨by have := HJ2.out; first | omega | exact Nat.le_refl _⟩, ⟨by (with_reducible repeat (first | apply Kd.R_alloc | apply Kd.R_drewN | apply Kd.R_drew)); exact Kd.R_mono HO186.out (fun _ hk => trivial)⟩, ⟨by repeat (first | (with_reducible first | exact HB.out | apply below_alloc | apply pw_below_drewN | apply below_drew1) | exact HB.out)⟩⟩
          · rw [if_neg c9] at H
            have c9b0 : ((Int.tmod (wrap64 (Int.tdiv a1 16)) 2) == 1) = false := beq_eq_false_iff_ne.mpr c9
            have c9b1 : ((Int.tmod (wrap64 (Int.tdiv a1 16)) 2) != 1) = true := bne_iff_ne.mpr c9
            (first | rw [c9b0] | (simp only [i64_w, i32_w]; rw [c9b0]) | skip)
            have H' := Aside0.mk H
            clear H
            go_wp2
            go_meet
            case rel => exact ⟨_, (y181), H', ⟨by have := HJ2.out; first | omega | exact Nat.le_refl _⟩, ⟨by (with_reducible repeat (first | apply Kd.R_alloc | apply Kd.R_drewN | apply Kd.R_drew)); exact HO183.out⟩, ⟨by repeat (first | (with_reducible first | exact HB.out | apply below_alloc | apply pw_below_drewN | apply below_drew1) | exact HB.out)⟩⟩
        case rest =>
          clear HC6
          try clear c1
          try clear p2
          try clear c4
          try clear c4b0
          try clear c5
          try clear p6
          try clear c9
          try clear c9b0
          try clear c9b1
          try clear p2
          obtain ⟨kq, x6_5, HA, HJ5, HO_6, HB⟩ := hcut
          cases kq with
          | zero => exact absurd HA.out (by simp [siglumref03_Rune.j1])
          | succ kj5 =>
            have H := HA.out
            clear HA
            simp only [siglumref03_Rune.j1] at H
            have HC13 := Aside0.mk H
            clear H
            go_upto_if 25 with (fail)
            go_cut [6] (fun v6 wc => ∃ (kq : Nat) (x6_12 : List Int), Aside0 (siglumref03_Rune.j2 kq a1 x6_12 = some (r1, r2)) ∧ Aside0 (kq ≤ kj5) ∧ Aside0 (Kd.R (Kd.int .i32) 21 wc w.heap.size (fun _ => True) v6 x6_12) ∧ Aside0 (Below w.heap.size w wc))
            case first =>
              have H := HC13.out
              clear HC13
              by_cases c14 : (Int.tmod (wrap64 (Int.tdiv a1 2)) 2) = 1
              · rw [if_pos c14] at H
                have c14b0 : ((Int.tmod (wrap64 (Int.tdiv a1 2)) 2) == 1) = true := beq_iff_eq.mpr c14
                have c14b1 : ((Int.tmod (wrap64 (Int.tdiv a1 2)) 2) != 1) = false := bne_eq_false_iff_eq.mpr c14
                clear c14
                (first | rw [c14b0] | (simp only [i64_w, i32_w]; rw [c14b0]) | skip)
                replace H := Option.bind_eq_some_iff.mp H
                obtain ⟨t187, A150, H⟩ := H
                replace H : (siglumref03_Rune.j2 kj5 a1 t187) = some (r1, r2) := H
                have A15 := Aside0.mk A150
                clear A150
                have H' := Aside0.mk H
                clear H
                obtain ⟨Ao16, co16, eo16⟩ := Kd.R_slice HO_6.out
                subst eo16
                go_wp2_with (first | ((with_reducible refine gate_callee (f := 44) rfl ?_); refine goesL_ (some 27) rfl rfl Tryd.func44 (by kernel_rfl) rfl #[.slice Ao16 x6_5.length co16, .int .i64 2] rfl (by (try simp only [List.map_toArray, List.map_cons, List.map_nil]); first | done | rfl | (simp only [List.length_drop, List.length_take]; rfl)) ?_; (with_reducible refine (siglumref03_drop.calls kj5 _ _ x6_5 2 t187 _ ?side1 ?side2 A15.out).mono ?_); (case side1 => repeat (first | exact (Kd.R_reads' HO_6.out).2.2 | (with_reducible refine Kd.C_alloc ?_ _) | (with_reducible refine Kd.C_drewN ?_ _) | (with_reducible refine Kd.C_drew ?_))); (case side2 => exact (Kd.R_reads' HO_6.out).2.1); rintro e w17 ⟨v188, rfl, ho0, hb⟩; refine ⟨_, rfl, ?_⟩; have n0_ := Aside0.mk (Kd.R_elder' (by (with_reducible repeat (first | apply Kd.R_alloc | apply Kd.R_drewN | apply Kd.R_drew)); exact HO_6.out) (Kd.R_base ho0) hb); have n1_ := Aside0.mk (Kd.R_lower (Kd.R_new' ho0 (Kd.R_lt (by (with_reducible repeat (first | apply Kd.R_alloc | apply Kd.R_drewN | apply Kd.R_drew)); exact HO_6.out))) (below_size (by repeat (first | (with_reducible first | exact HB.out | apply below_alloc | apply pw_below_drewN | apply below_drew1) | exact HB.out)))); have n2_ := Aside0.mk (below_step (by repeat (first | (with_reducible first | exact HB.out | apply below_alloc | apply pw_below_drewN | apply below_drew1) | exact HB.out)) hb); clear HO_6; clear HB; have HO_6 := n0_; have HO189 := n1_; have HB := n2_; clear n0_ n1_ n2_; (try clear hb); (try clear hb2); (try clear hk); (try clear hi); (try clear ho0)))
                go_meet
                case rel => exact ⟨_, (t187), H', ⟨by have := HJ2.out; have := HJ5.out; first | omega | exact Nat.le_refl _⟩, ⟨by (with_reducible repeat (first | apply Kd.R_alloc | apply Kd.R_drewN | apply Kd.R_drew)); exact Kd.R_mono HO189.out (fun _ hk => trivial)⟩, ⟨by repeat (first | (with_reducible first | exact HB.out | apply below_alloc | apply pw_below_drewN | apply below_drew1) | exact HB.out)⟩⟩
              · rw [if_neg c14] at H
                have c14b0 : ((Int.tmod (wrap64 (Int.tdiv a1 2)) 2) == 1) = false := beq_eq_false_iff_ne.mpr c14
                have c14b1 : ((Int.tmod (wrap64 (Int.tdiv a1 2)) 2) != 1) = true := bne_iff_ne.mpr c14
                (first | rw [c14b0] | (simp only [i64_w, i32_w]; rw [c14b0]) | skip)
                have H' := Aside0.mk H
                clear H
                go_wp2
                go_meet
                case rel => exact ⟨_, (x6_5), H', ⟨by have := HJ2.out; have := HJ5.out; first | omega | exact Nat.le_refl _⟩, ⟨by (with_reducible repeat (first | apply Kd.R_alloc | apply Kd.R_drewN | apply Kd.R_drew)); exact HO_6.out⟩, ⟨by repeat (first | (with_reducible first | exact HB.out | apply below_alloc | apply pw_below_drewN | apply below_drew1) | exact HB.out)⟩⟩
            case rest =>
              clear HC13
              try clear c1
              try clear p2
              try clear c4
              try clear c4b0
              try clear c5
              try clear p6
              try clear c9
              try clear c9b0
              try clear c9b1
              try clear c14
              try clear c14b0
              try clear c14b1
              try clear c17
              try clear p2
              try clear p6
              obtain ⟨kq, x6_12, HA, HJ12, HO_6, HB⟩ := hcut
              cases kq with
              | zero => exact absurd HA.out (by simp [siglumref03_Rune.j2])
              | succ kj12 =>
                have H := HA.out
                clear HA
                simp only [siglumref03_Rune.j2] at H
                have HC18 := Aside0.mk H
                clear H
                go_upto_if 31 with (fail)
                go_cut [6] (fun v6 wc => ∃ (kq : Nat) (x6_17 : List Int), Aside0 (siglumref03_Rune.j3 kq a1 x6_17 = some (r1, r2)) ∧ Aside0 (kq ≤ kj12) ∧ Aside0 (Kd.R (Kd.int .i32) 21 wc w.heap.size (fun _ => True) v6 x6_17) ∧ Aside0 (Below w.heap.size w wc))
                case first =>
                  have H := HC18.out
                  clear HC18
                  by_cases c19 : (Int.tmod (wrap64 (Int.tdiv a1 4)) 2) = 1
                  · rw [if_pos c19] at H
                    have c19b0 : ((Int.tmod (wrap64 (Int.tdiv a1 4)) 2) == 1) = true := beq_iff_eq.mpr c19
                    have c19b1 : ((Int.tmod (wrap64 (Int.tdiv a1 4)) 2) != 1) = false := bne_eq_false_iff_eq.mpr c19
                    clear c19
                    (first | rw [c19b0] | (simp only [i64_w, i32_w]; rw [c19b0]) | skip)
                    replace H := Option.bind_eq_some_iff.mp H
                    obtain ⟨t190, A200, H⟩ := H
                    replace H : (siglumref03_Rune.j3 kj12 a1 t190) = some (r1, r2) := H
                    have A20 := Aside0.mk A200
                    clear A200
                    have H' := Aside0.mk H
                    clear H
                    obtain ⟨Ao21, co21, eo21⟩ := Kd.R_slice HO_6.out
                    subst eo21
                    go_wp2_with (first | ((with_reducible refine gate_callee (f := 45) rfl ?_); refine goesL_ (some 33) rfl rfl Tryd.func45 (by kernel_rfl) rfl #[.slice Ao21 x6_12.length co21] rfl (by (try simp only [List.map_toArray, List.map_cons, List.map_nil]); first | done | rfl | (simp only [List.length_drop, List.length_take]; rfl)) ?_; (with_reducible refine (siglumref03_ligs.calls kj12 _ _ x6_12 t190 _ ?side1 ?side2 A20.out).mono ?_); (case side1 => repeat (first | exact (Kd.R_reads' HO_6.out).2.2 | (with_reducible refine Kd.C_alloc ?_ _) | (with_reducible refine Kd.C_drewN ?_ _) | (with_reducible refine Kd.C_drew ?_))); (case side2 => exact (Kd.R_reads' HO_6.out).2.1); rintro e w22 ⟨v191, rfl, ho0, hb⟩; refine ⟨_, rfl, ?_⟩; have n0_ := Aside0.mk (Kd.R_elder' (by (with_reducible repeat (first | apply Kd.R_alloc | apply Kd.R_drewN | apply Kd.R_drew)); exact HO_6.out) (Kd.R_base ho0) hb); have n1_ := Aside0.mk (Kd.R_lower (Kd.R_new' ho0 (Kd.R_lt (by (with_reducible repeat (first | apply Kd.R_alloc | apply Kd.R_drewN | apply Kd.R_drew)); exact HO_6.out))) (below_size (by repeat (first | (with_reducible first | exact HB.out | apply below_alloc | apply pw_below_drewN | apply below_drew1) | exact HB.out)))); have n2_ := Aside0.mk (below_step (by repeat (first | (with_reducible first | exact HB.out | apply below_alloc | apply pw_below_drewN | apply below_drew1) | exact HB.out)) hb); clear HO_6; clear HB; have HO_6 := n0_; have HO192 := n1_; have HB := n2_; clear n0_ n1_ n2_; (try clear hb); (try clear hb2); (try clear hk); (try clear hi); (try clear ho0)))
                    go_meet
                    case rel => exact ⟨_, (t190), H', ⟨by have := HJ2.out; have := HJ5.out; have := HJ12.out; first | omega | exact Nat.le_refl _⟩, ⟨by (with_reducible repeat (first | apply Kd.R_alloc | apply Kd.R_drewN | apply Kd.R_drew)); exact Kd.R_mono HO192.out (fun _ hk => trivial)⟩, ⟨by repeat (first | (with_reducible first | exact HB.out | apply below_alloc | apply pw_below_drewN | apply below_drew1) | exact HB.out)⟩⟩
                  · rw [if_neg c19] at H
                    have c19b0 : ((Int.tmod (wrap64 (Int.tdiv a1 4)) 2) == 1) = false := beq_eq_false_iff_ne.mpr c19
                    have c19b1 : ((Int.tmod (wrap64 (Int.tdiv a1 4)) 2) != 1) = true := bne_iff_ne.mpr c19
                    (first | rw [c19b0] | (simp only [i64_w, i32_w]; rw [c19b0]) | skip)
                    have H' := Aside0.mk H
                    clear H
                    go_wp2
                    go_meet
                    case rel => exact ⟨_, (x6_12), H', ⟨by have := HJ2.out; have := HJ5.out; have := HJ12.out; first | omega | exact Nat.le_refl _⟩, ⟨by (with_reducible repeat (first | apply Kd.R_alloc | apply Kd.R_drewN | apply Kd.R_drew)); exact HO_6.out⟩, ⟨by repeat (first | (with_reducible first | exact HB.out | apply below_alloc | apply pw_below_drewN | apply below_drew1) | exact HB.out)⟩⟩
                case rest =>
                  clear HC18
                  try clear c1
                  try clear p2
                  try clear c4
                  try clear c4b0
                  try clear c5
                  try clear p6
                  try clear c9
                  try clear c9b0
                  try clear c9b1
                  try clear c14
                  try clear c14b0
                  try clear c14b1
                  try clear c17
                  try clear c19
                  try clear c19b0
                  try clear c19b1
                  try clear p2
                  try clear p6
                  obtain ⟨kq, x6_17, HA, HJ17, HO_6, HB⟩ := hcut
                  cases kq with
                  | zero => exact absurd HA.out (by simp [siglumref03_Rune.j3])
                  | succ kj17 =>
                    have H := HA.out
                    clear HA
                    simp only [siglumref03_Rune.j3] at H
                    have H' := Aside0.mk H
                    clear H
                    go_wp2
                    go_loopg [7] kj17 (fun kq v7 w' => ∃ (x6_5 : List Int) (x7_5 : Int), v7 = .int .i64 x7_5 ∧ Aside0 (siglumref03_Rune.l0 kq a1 x6_5 x7_5 = some (r1, r2)) ∧ Aside0 (kq ≤ kj17) ∧ Aside0 (Kd.R (Kd.int .i32) 21 w' w.heap.size (fun _ => True) u6 x6_5) ∧ Aside0 (Below w.heap.size w w'))
                    case atStart => exact ⟨(x6_17), (0), (by first | rfl | (simp; done) | (simp [*]; done)), H', ⟨Nat.le_refl _⟩, ⟨by (with_reducible repeat (first | apply Kd.R_alloc | apply Kd.R_drewN | apply Kd.R_drew)); exact HO_6.out⟩, ⟨by repeat (first | (with_reducible first | exact HB.out | apply below_alloc | apply pw_below_drewN | apply below_drew1) | exact HB.out)⟩⟩
                    case round =>
                      clear H'
                      try clear c1
                      try clear p2
                      try clear c4
                      try clear c4b0
                      try clear c5
                      try clear p6
                      try clear c9
                      try clear c9b0
                      try clear c9b1
                      try clear c14
                      try clear c14b0
                      try clear c14b1
                      try clear c17
                      try clear c19
                      try clear c19b0
                      try clear c19b1
                      try clear p2
                      try clear p6
                      obtain ⟨x6_5, x7_5, rfl, HA, HK5, HO_6, HB⟩ := hrel
                      cases gk with
                      | zero => exact absurd HA.out (by simp [siglumref03_Rune.l0])
                      | succ k5 =>
                        have H := HA.out
                        clear HA
                        simp only [siglumref03_Rune.l0] at H
                        by_cases c23 : x7_5 < (x6_5.length : Int)
                        · rw [if_pos c23] at H
                          have c23b0 : decide (x7_5 < (x6_5.length : Int)) = true := decide_eq_true c23
                          clear c23
                          have HC24 := Aside0.mk H
                          clear H
                          obtain ⟨Ao25, co25, eo25⟩ := Kd.R_slice HO_6.out
                          subst eo25
                          go_upto_if 42 with (fail)
                          go_cut [] (fun wc => ∃ (kq : Nat) (x6_23 : List Int), Aside0 (siglumref03_Rune.j5 kq a1 x6_23 x7_5 = some (r1, r2)) ∧ Aside0 (kq ≤ k5) ∧ Aside0 (Kd.R (Kd.int .i32) 21 wc w.heap.size (fun _ => True) (.slice Ao25 x6_5.length co25) x6_23) ∧ Aside0 (Below w.heap.size w wc))
                          case first =>
                            have H := HC24.out
                            clear HC24
                            by_cases c26 : (Int.tmod a1 2) = 1
                            · rw [if_pos c26] at H
                              have c26b0 : ((Int.tmod a1 2) == 1) = true := beq_iff_eq.mpr c26
                              have c26b1 : ((Int.tmod a1 2) != 1) = false := bne_eq_false_iff_eq.mpr c26
                              clear c26
                              (first | rw [c26b0] | (simp only [i64_w, i32_w]; rw [c26b0]) | skip)
                              by_cases c27 : 0 ≤ x7_5
                              · rw [if_pos c27] at H
                                have c27b0 : decide (0 ≤ x7_5) = true := decide_eq_true c27
                                clear c27
                                replace H := Option.bind_eq_some_iff.mp H
                                obtain ⟨t195, A280, H⟩ := H
                                replace H : (siglumref03_Rune.j5 k5 a1 (x6_5.set (x7_5 : Int).toNat t195) x7_5) = some (r1, r2) := H
                                have A28 := Aside0.mk A280
                                clear A280
                                obtain ⟨y196, hy196⟩ : ∃ y_ : List Int, y_ = (x6_5.set (x7_5 : Int).toNat t195) := ⟨_, rfl⟩
                                replace H : (siglumref03_Rune.j5 k5 a1 y196 x7_5) = some (r1, r2) := by first | (rw [hy196]; with_reducible exact H) | (have H2_ := (Option.bind_some _ _).symm.trans H; rw [hy196]; with_reducible exact H2_) | (have H2_ := (Option.bind_some _ _).symm.trans H; with_reducible exact H2_) | with_reducible exact H | (rw [hy196]; exact H) | exact H
                                have Ny196 := Aside0.mk hy196
                                clear hy196
                                have H' := Aside0.mk H
                                clear H
                                have p194 : 0 ≤ (x7_5 : Int) := of_decide_eq_true (by first | (with_reducible assumption) | assumption)
                                have q194 : x7_5 < (x6_5.length : Int) := of_decide_eq_true (by first | (with_reducible assumption) | assumption)
                                obtain ⟨ad194, e194, hx194_0⟩ := Kd.at_int (Kd.R_reads' HO_6.out).2.2 x7_5 p194 q194
                                cases e194
                                replace p194 := eq_true p194
                                replace q194 := eq_true q194
                                go_wp2_with (first | ((with_reducible refine gate_callee (f := 46) rfl ?_); refine goesL_ (some 49) rfl rfl Tryd.func46 (by kernel_rfl) rfl #[.int .i32 (rd x6_5 x7_5)] rfl (by (try simp only [List.map_toArray, List.map_cons, List.map_nil]); first | done | rfl | (simp only [List.length_drop, List.length_take]; rfl)) ?_; (with_reducible refine (siglumref03_small.calls (rd x6_5 x7_5) t195 _ A28.out).mono ?_); rintro e w' ⟨rfl, ⟨nd, rfl⟩⟩; refine ⟨_, rfl, ?_⟩; (try (rw [drewN_self wr]; generalize hq_ : World.drewN wr _ = wr; have n0_ : Aside0 (Kd.R (Kd.int .i32) 21 wr w.heap.size (fun _ => True) (.slice (some ad194) x6_5.length co25) x6_5) := ⟨by rw [← hq_]; exact (by (with_reducible repeat (first | apply Kd.R_alloc | apply Kd.R_drewN | apply Kd.R_drew)); exact HO_6.out)⟩; have n1_ : Aside0 (Below w.heap.size w wr) := ⟨by rw [← hq_]; exact (by repeat (first | (with_reducible first | exact HB.out | apply below_alloc | apply pw_below_drewN | apply below_drew1) | exact HB.out))⟩; clear HO_6 HB hq_; have HO_6 := n0_; have HB := n1_; clear n0_ n1_)); have p29 : 0 ≤ (x7_5 : Int) := of_decide_eq_true (by first | (with_reducible assumption) | assumption); have q29 : (x7_5 : Int) < ((x6_5.length : Int) : Int) := of_decide_eq_true (by first | (with_reducible assumption) | assumption); obtain ⟨go29, co29, eo29, gb29, gl29, cl29, HG29⟩ := Kd.R_form HO_6.out (by omega); (first | cases eo29 | (injection eo29 with ea_ en_ ec_; (first | subst ea_ | (injection ea_ with ea_; subst ea_)); subst ec_; clear en_)); have GB29 := Aside0.mk gb29; have GG29 := Aside0.mk HG29; clear gb29 gl29 HG29; (first | simp only [add_plain] at hx194_0 | skip); obtain ⟨hx29_0, hf29_0⟩ := Kd.R_celln 0 HO_6.out (x7_5 : Int) p29 q29; replace p29 := eq_true p29; replace q29 := eq_true q29; obtain ⟨hy30_, hz30_⟩ := Kd.R_celln 0 HO_6.out (x7_5 : Int) (of_decide_eq_true (by first | (with_reducible assumption) | assumption)) (of_decide_eq_true (by first | (with_reducible assumption) | assumption)); have HP30 := Kd.R_putg HO_6.out (x7_5 : Int) t195) | ((with_reducible refine gate_store (t := 21) (p := 50) rfl ?_); refine store_event (t := 21) (p := 50) (v := ?vo_w31) (w1 := (wr.setCell ⟨go29, (x7_5 : Int).toNat, none⟩ (.int .i32 t195))) ?hg ?ho ?hn ?hr ?_; (case ho => rfl); (case hg => rfl); (case hn => rfl); (case hr => first | (go_simp; done) | (go_simp; rfl)); intro w31 hw; have hg : wr.grownBy w31 (some go29) := (by rw [hw]; exact HP30.2); have hp_ : Kd.R (Kd.int .i32) 21 w31 w.heap.size (fun _ => True) (.slice (some ⟨go29, 0, none⟩) x6_5.length co25) y196 := (by rw [hw, Ny196.out]; exact HP30.1); clear HP30; have n0_ := Aside0.mk (hp_); have n1_ := Aside0.mk ((by rw [hw]; exact below_set (HB.out) GB29.out : Below w.heap.size w w31)); clear HO_6; clear HB; have HO_6 := n0_; have HB := n1_; clear n0_ n1_; clear hg hw hp_))
                                go_meet
                                case rel => exact ⟨_, (y196), H', ⟨by have := HJ2.out; have := HJ5.out; have := HJ12.out; have := HJ17.out; have := HK5.out; first | omega | exact Nat.le_refl _⟩, ⟨by (with_reducible repeat (first | apply Kd.R_alloc | apply Kd.R_drewN | apply Kd.R_drew)); exact HO_6.out⟩, ⟨by repeat (first | (with_reducible first | exact HB.out | apply below_alloc | apply pw_below_drewN | apply below_drew1) | exact HB.out)⟩⟩
                              · rw [if_neg c27] at H
                                exact absurd H (by simp)
                            · rw [if_neg c26] at H
                              have c26b0 : ((Int.tmod a1 2) == 1) = false := beq_eq_false_iff_ne.mpr c26
                              have c26b1 : ((Int.tmod a1 2) != 1) = true := bne_iff_ne.mpr c26
                              (first | rw [c26b0] | (simp only [i64_w, i32_w]; rw [c26b0]) | skip)
                              have H' := Aside0.mk H
                              clear H
                              go_wp2
                              go_meet
                              case rel => exact ⟨_, (x6_5), H', ⟨by have := HJ2.out; have := HJ5.out; have := HJ12.out; have := HJ17.out; have := HK5.out; first | omega | exact Nat.le_refl _⟩, ⟨by (with_reducible repeat (first | apply Kd.R_alloc | apply Kd.R_drewN | apply Kd.R_drew)); exact HO_6.out⟩, ⟨by repeat (first | (with_reducible first | exact HB.out | apply below_alloc | apply pw_below_drewN | apply below_drew1) | exact HB.out)⟩⟩
                          case rest =>
                            clear HC24
                            try clear c1
                            try clear p1
                            try clear q1
                            try clear hx1
                            try clear c2
                            try clear p2
                            try clear q2
                            try clear hx2
                            try clear hf2
                            try clear c4
                            try clear c4b0
                            try clear c5
                            try clear p6
                            try clear c9
                            try clear c9b0
                            try clear c9b1
                            try clear c14
                            try clear c14b0
                            try clear c14b1
                            try clear c17
                            try clear c19
                            try clear c19b0
                            try clear c19b1
                            try clear p19
                            try clear q19
                            try clear hx19
                            try clear c23
                            try clear c23b0
                            try clear c26
                            try clear c26b0
                            try clear c26b1
                            try clear c27
                            try clear c27b0
                            try clear p29
                            try clear q29
                            try clear hx29
                            try clear hf29
                            try clear hx194_0
                            try clear hx29_0
                            try clear p194
                            try clear p2
                            try clear p29
                            try clear p6
                            try clear q194
                            try clear q29
                            obtain ⟨kq, x6_23, HA, HJ23, HO_6, HB⟩ := hcut
                            have hl6_23 := (Kd.R_reads' HO_6.out).1
                            rw [hl6_23] at HO_6
                            (try simp only [hl6_23])
                            cases kq with
                            | zero => exact absurd HA.out (by simp [siglumref03_Rune.j5])
                            | succ kj23 =>
                              have H := HA.out
                              clear HA
                              simp only [siglumref03_Rune.j5] at H
                              by_cases c32 : (Int.tmod (wrap64 (Int.tdiv a1 2)) 2) = 1
                              · rw [if_pos c32] at H
                                have c32b0 : ((Int.tmod (wrap64 (Int.tdiv a1 2)) 2) == 1) = true := beq_iff_eq.mpr c32
                                have c32b1 : ((Int.tmod (wrap64 (Int.tdiv a1 2)) 2) != 1) = false := bne_eq_false_iff_eq.mpr c32
                                clear c32
                                by_cases c33 : 0 ≤ x7_5
                                · rw [if_pos c33] at H
                                  have c33b0 : decide (0 ≤ x7_5) = true := decide_eq_true c33
                                  clear c33
                                  by_cases c34 : x7_5 < (x6_23.length : Int)
                                  · rw [if_pos c34] at H
                                    have c34b0 : decide (x7_5 < (x6_23.length : Int)) = true := decide_eq_true c34
                                    clear c34
                                    replace H := Option.bind_eq_some_iff.mp H
                                    obtain ⟨t198, A350, H⟩ := H
                                    replace H : ((some (x6_23.set (x7_5 : Int).toNat t198 : List Int)).bind fun y199 => (if (Int.tmod (wrap64 (Int.tdiv a1 8)) 2) = 1 then ((siglumref03_plain.f (rd y199 x7_5)).bind fun t201 => (siglumref03_Rune.l0 kj23 a1 (y199.set (x7_5 : Int).toNat t201) (wrap64 (x7_5 + 1)))) else (siglumref03_Rune.l0 kj23 a1 y199 (wrap64 (x7_5 + 1))))) = some (r1, r2) := H
                                    have A35 := Aside0.mk A350
                                    clear A350
                                    obtain ⟨y199, hy199⟩ : ∃ y_ : List Int, y_ = (x6_23.set (x7_5 : Int).toNat t198) := ⟨_, rfl⟩
                                    replace H : (if (Int.tmod (wrap64 (Int.tdiv a1 8)) 2) = 1 then ((siglumref03_plain.f (rd y199 x7_5)).bind fun t201 => (siglumref03_Rune.l0 kj23 a1 (y199.set (x7_5 : Int).toNat t201) (wrap64 (x7_5 + 1)))) else (siglumref03_Rune.l0 kj23 a1 y199 (wrap64 (x7_5 + 1)))) = some (r1, r2) := by first | (rw [hy199]; with_reducible exact H) | (have H2_ := (Option.bind_some _ _).symm.trans H; rw [hy199]; with_reducible exact H2_) | (have H2_ := (Option.bind_some _ _).symm.trans H; with_reducible exact H2_) | with_reducible exact H | (rw [hy199]; exact H) | exact H
                                    have Ny199 := Aside0.mk hy199
                                    clear hy199
                                    by_cases c37 : (Int.tmod (wrap64 (Int.tdiv a1 8)) 2) = 1
                                    · rw [if_pos c37] at H
                                      have c37b0 : ((Int.tmod (wrap64 (Int.tdiv a1 8)) 2) == 1) = true := beq_iff_eq.mpr c37
                                      have c37b1 : ((Int.tmod (wrap64 (Int.tdiv a1 8)) 2) != 1) = false := bne_eq_false_iff_eq.mpr c37
                                      clear c37
                                      replace H := Option.bind_eq_some_iff.mp H
                                      obtain ⟨t201, A380, H⟩ := H
                                      replace H : (siglumref03_Rune.l0 kj23 a1 (y199.set (x7_5 : Int).toNat t201) (wrap64 (x7_5 + 1))) = some (r1, r2) := H
                                      have A38 := Aside0.mk A380
                                      clear A380
                                      obtain ⟨y202, hy202⟩ : ∃ y_ : List Int, y_ = (y199.set (x7_5 : Int).toNat t201) := ⟨_, rfl⟩
                                      replace H : (siglumref03_Rune.l0 kj23 a1 y202 (wrap64 (x7_5 + 1))) = some (r1, r2) := by first | (rw [hy202]; with_reducible exact H) | (have H2_ := (Option.bind_some _ _).symm.trans H; rw [hy202]; with_reducible exact H2_) | (have H2_ := (Option.bind_some _ _).symm.trans H; with_reducible exact H2_) | with_reducible exact H | (rw [hy202]; exact H) | exact H
                                      have Ny202 := Aside0.mk hy202
                                      clear hy202
                                      have H' := Aside0.mk H
                                      clear H
                                      have p197 : 0 ≤ (x7_5 : Int) := of_decide_eq_true (by first | (with_reducible assumption) | assumption)
                                      have q197 : x7_5 < (x6_23.length : Int) := of_decide_eq_true (by first | (with_reducible assumption) | assumption)
                                      obtain ⟨ad197, e197, hx197_0⟩ := Kd.at_int (Kd.R_reads' HO_6.out).2.2 x7_5 p197 q197
                                      cases e197
                                      replace p197 := eq_true p197
                                      replace q197 := eq_true q197
                                      go_wp2_with (first | ((with_reducible refine gate_callee (f := 47) rfl ?_); refine goesL_ (some 61) rfl rfl Tryd.func47 (by kernel_rfl) rfl #[.int .i32 (rd x6_23 x7_5)] rfl (by (try simp only [List.map_toArray, List.map_cons, List.map_nil]); first | done | rfl | (simp only [List.length_drop, List.length_take]; rfl)) ?_; (with_reducible refine (siglumref03_bare.calls kj23 (rd x6_23 x7_5) t198 _ A35.out).mono ?_); rintro e w40 ⟨rfl, hb⟩; refine ⟨_, rfl, ?_⟩; have n0_ := Aside0.mk (Kd.R_below (by (with_reducible repeat (first | apply Kd.R_alloc | apply Kd.R_drewN | apply Kd.R_drew)); exact HO_6.out) hb); have n1_ := Aside0.mk (below_step (by repeat (first | (with_reducible first | exact HB.out | apply below_alloc | apply pw_below_drewN | apply below_drew1) | exact HB.out)) hb); clear HO_6; clear HB; have HO_6 := n0_; have HB := n1_; clear n0_ n1_; (try clear hb); (try clear hb2); (try clear hk); (try clear hi); have p36 : 0 ≤ (x7_5 : Int) := of_decide_eq_true (by first | (with_reducible assumption) | assumption); have q36 : (x7_5 : Int) < ((x6_23.length : Int) : Int) := of_decide_eq_true (by first | (with_reducible assumption) | assumption); obtain ⟨go36, co36, eo36, gb36, gl36, cl36, HG36⟩ := Kd.R_form HO_6.out (by omega); (first | cases eo36 | (injection eo36 with ea_ en_ ec_; (first | subst ea_ | (injection ea_ with ea_; subst ea_)); subst ec_; clear en_)); have GB36 := Aside0.mk gb36; have GG36 := Aside0.mk HG36; clear gb36 gl36 HG36; (first | simp only [add_plain] at hx197_0 | skip); obtain ⟨hx36_0, hf36_0⟩ := Kd.R_celln 0 HO_6.out (x7_5 : Int) p36 q36; replace p36 := eq_true p36; replace q36 := eq_true q36; obtain ⟨hy41_, hz41_⟩ := Kd.R_celln 0 HO_6.out (x7_5 : Int) (of_decide_eq_true (by first | (with_reducible assumption) | assumption)) (of_decide_eq_true (by first | (with_reducible assumption) | assumption)); have HP41 := Kd.R_putg HO_6.out (x7_5 : Int) t198) | ((with_reducible refine gate_store (t := 21) (p := 62) rfl ?_); refine store_event (t := 21) (p := 62) (v := ?vo_w42) (w1 := (w40.setCell ⟨go36, (x7_5 : Int).toNat, none⟩ (.int .i32 t198))) ?hg ?ho ?hn ?hr ?_; (case ho => rfl); (case hg => rfl); (case hn => rfl); (case hr => first | (go_simp; done) | (go_simp; rfl)); intro w42 hw; have hg : w40.grownBy w42 (some go36) := (by rw [hw]; exact HP41.2); have hp_ : Kd.R (Kd.int .i32) 21 w42 w.heap.size (fun _ => True) (.slice (some ⟨go36, 0, none⟩) x6_23.length co25) y199 := (by rw [hw, Ny199.out]; exact HP41.1); clear HP41; have n0_ := Aside0.mk (hp_); have n1_ := Aside0.mk ((by rw [hw]; exact below_set (HB.out) GB36.out : Below w.heap.size w w42)); clear HO_6; clear HB; have HO_6 := n0_; have HB := n1_; clear n0_ n1_; clear hg hw hp_; have p200 : 0 ≤ (x7_5 : Int) := of_decide_eq_true (by first | (with_reducible assumption) | assumption); have q200 : x7_5 < (y199.length : Int) := (by have h_ : (x7_5 : Int) < ((x6_23.length : Int) : Int) := of_decide_eq_true (by first | (with_reducible assumption) | assumption); first | (have e_ := (Kd.R_reads' HO_6.out).1; omega) | simpa only [Ny199.out, List.length_set] using h_); have ql200 : ((x7_5 : Int) < ((x6_23.length : Int) : Int)) = True := eq_true (of_decide_eq_true (by first | (with_reducible assumption) | assumption)); obtain ⟨ad200, e200, hx200_0⟩ := Kd.at_int (Kd.R_reads' HO_6.out).2.2 x7_5 p200 q200; obtain rfl : (⟨go36, 0, none⟩ : Addr) = ad200 := (by injection e200); (first | simp only [add_plain] at hx200_0 | simp only [add_at] at hx200_0 | simp only [Addr.add, Nat.zero_add] at hx200_0 | skip); replace p200 := eq_true p200; replace q200 := eq_true q200) | ((with_reducible refine gate_callee (f := 48) rfl ?_); refine goesL_ (some 73) rfl rfl Tryd.func48 (by kernel_rfl) rfl #[.int .i32 (rd y199 x7_5)] rfl (by (try simp only [List.map_toArray, List.map_cons, List.map_nil]); first | done | rfl | (simp only [List.length_drop, List.length_take]; rfl)) ?_; (with_reducible refine (siglumref03_plain.calls (rd y199 x7_5) t201 _ A38.out).mono ?_); rintro e w' ⟨rfl, ⟨nd, rfl⟩⟩; refine ⟨_, rfl, ?_⟩; (try (rw [drewN_self w42]; generalize hq_ : World.drewN w42 _ = w42; have n0_ : Aside0 (Kd.R (Kd.int .i32) 21 w42 w.heap.size (fun _ => True) (.slice (some ⟨go36, 0, none⟩) x6_23.length co25) y199) := ⟨by rw [← hq_]; exact (by (with_reducible repeat (first | apply Kd.R_alloc | apply Kd.R_drewN | apply Kd.R_drew)); exact HO_6.out)⟩; have n1_ : Aside0 (Below w.heap.size w w42) := ⟨by rw [← hq_]; exact (by repeat (first | (with_reducible first | exact HB.out | apply below_alloc | apply pw_below_drewN | apply below_drew1) | exact HB.out))⟩; clear HO_6 HB hq_; have HO_6 := n0_; have HB := n1_; clear n0_ n1_)); have p39 : 0 ≤ (x7_5 : Int) := of_decide_eq_true (by first | (with_reducible assumption) | assumption); have q39 : (x7_5 : Int) < ((x6_23.length : Int) : Int) := of_decide_eq_true (by first | (with_reducible assumption) | assumption); obtain ⟨hx39_0, hf39_0⟩ := Kd.R_celln 0 HO_6.out (x7_5 : Int) p39 q39; replace p39 := eq_true p39; replace q39 := eq_true q39; obtain ⟨hy43_, hz43_⟩ := Kd.R_celln 0 HO_6.out (x7_5 : Int) (of_decide_eq_true (by first | (with_reducible assumption) | assumption)) (of_decide_eq_true (by first | (with_reducible assumption) | assumption)); have HP43 := Kd.R_putg HO_6.out (x7_5 : Int) t201) | ((with_reducible refine gate_store (t := 21) (p := 74) rfl ?_); refine store_event (t := 21) (p := 74) (v := ?vo_w44) (w1 := (w42.setCell ⟨go36, (x7_5 : Int).toNat, none⟩ (.int .i32 t201))) ?hg ?ho ?hn ?hr ?_; (case ho => rfl); (case hg => rfl); (case hn => rfl); (case hr => first | (go_simp; done) | (go_simp; rfl)); intro w44 hw; have hg : w42.grownBy w44 (some go36) := (by rw [hw]; exact HP43.2); have hp_ : Kd.R (Kd.int .i32) 21 w44 w.heap.size (fun _ => True) (.slice (some ⟨go36, 0, none⟩) x6_23.length co25) y202 := (by rw [hw, Ny202.out]; exact HP43.1); clear HP43; have n0_ := Aside0.mk (hp_); have n1_ := Aside0.mk ((by rw [hw]; exact below_set (HB.out) GB36.out : Below w.heap.size w w44)); clear HO_6; clear HB; have HO_6 := n0_; have HB := n1_; clear n0_ n1_; clear hg hw hp_))
                                      (try simp only [← hl6_23])
                                      go_roundg kj23
                                      case measure => have := HJ2.out; have := HJ5.out; have := HJ12.out; have := HJ17.out; have := HK5.out; have := HJ23.out; omega
                                      case rel => exact ⟨(y202), (wrap64 (x7_5 + 1)), (by first | rfl | (simp; done) | (simp [*]; done)), H', ⟨by have := HJ2.out; have := HJ5.out; have := HJ12.out; have := HJ17.out; have := HK5.out; have := HJ23.out; omega⟩, ⟨by (try simp only [hl6_23]); (with_reducible repeat (first | apply Kd.R_alloc | apply Kd.R_drewN | apply Kd.R_drew)); exact HO_6.out⟩, ⟨by repeat (first | (with_reducible first | exact HB.out | apply below_alloc | apply pw_below_drewN | apply below_drew1) | exact HB.out)⟩⟩
                                    · rw [if_neg c37] at H
                                      have c37b0 : ((Int.tmod (wrap64 (Int.tdiv a1 8)) 2) == 1) = false := beq_eq_false_iff_ne.mpr c37
                                      have c37b1 : ((Int.tmod (wrap64 (Int.tdiv a1 8)) 2) != 1) = true := bne_iff_ne.mpr c37
                                      have H' := Aside0.mk H
                                      clear H
                                      have p197 : 0 ≤ (x7_5 : Int) := of_decide_eq_true (by first | (with_reducible assumption) | assumption)
                                      have q197 : x7_5 < (x6_23.length : Int) := of_decide_eq_true (by first | (with_reducible assumption) | assumption)
                                      obtain ⟨ad197, e197, hx197_0⟩ := Kd.at_int (Kd.R_reads' HO_6.out).2.2 x7_5 p197 q197
                                      cases e197
                                      replace p197 := eq_true p197
                                      replace q197 := eq_true q197
                                      go_wp2_with (first | ((with_reducible refine gate_callee (f := 47) rfl ?_); refine goesL_ (some 61) rfl rfl Tryd.func47 (by kernel_rfl) rfl #[.int .i32 (rd x6_23 x7_5)] rfl (by (try simp only [List.map_toArray, List.map_cons, List.map_nil]); first | done | rfl | (simp only [List.length_drop, List.length_take]; rfl)) ?_; (with_reducible refine (siglumref03_bare.calls kj23 (rd x6_23 x7_5) t198 _ A35.out).mono ?_); rintro e w45 ⟨rfl, hb⟩; refine ⟨_, rfl, ?_⟩; have n0_ := Aside0.mk (Kd.R_below (by (with_reducible repeat (first | apply Kd.R_alloc | apply Kd.R_drewN | apply Kd.R_drew)); exact HO_6.out) hb); have n1_ := Aside0.mk (below_step (by repeat (first | (with_reducible first | exact HB.out | apply below_alloc | apply pw_below_drewN | apply below_drew1) | exact HB.out)) hb); clear HO_6; clear HB; have HO_6 := n0_; have HB := n1_; clear n0_ n1_; (try clear hb); (try clear hb2); (try clear hk); (try clear hi); have p36 : 0 ≤ (x7_5 : Int) := of_decide_eq_true (by first | (with_reducible assumption) | assumption); have q36 : (x7_5 : Int) < ((x6_23.length : Int) : Int) := of_decide_eq_true (by first | (with_reducible assumption) | assumption); obtain ⟨go36, co36, eo36, gb36, gl36, cl36, HG36⟩ := Kd.R_form HO_6.out (by omega); (first | cases eo36 | (injection eo36 with ea_ en_ ec_; (first | subst ea_ | (injection ea_ with ea_; subst ea_)); subst ec_; clear en_)); have GB36 := Aside0.mk gb36; have GG36 := Aside0.mk HG36; clear gb36 gl36 HG36; (first | simp only [add_plain] at hx197_0 | skip); obtain ⟨hx36_0, hf36_0⟩ := Kd.R_celln 0 HO_6.out (x7_5 : Int) p36 q36; replace p36 := eq_true p36; replace q36 := eq_true q36; obtain ⟨hy46_, hz46_⟩ := Kd.R_celln 0 HO_6.out (x7_5 : Int) (of_decide_eq_true (by first | (with_reducible assumption) | assumption)) (of_decide_eq_true (by first | (with_reducible assumption) | assumption)); have HP46 := Kd.R_putg HO_6.out (x7_5 : Int) t198) | ((with_reducible refine gate_store (t := 21) (p := 62) rfl ?_); refine store_event (t := 21) (p := 62) (v := ?vo_w47) (w1 := (w45.setCell ⟨go36, (x7_5 : Int).toNat, none⟩ (.int .i32 t198))) ?hg ?ho ?hn ?hr ?_; (case ho => rfl); (case hg => rfl); (case hn => rfl); (case hr => first | (go_simp; done) | (go_simp; rfl)); intro w47 hw; have hg : w45.grownBy w47 (some go36) := (by rw [hw]; exact HP46.2); have hp_ : Kd.R (Kd.int .i32) 21 w47 w.heap.size (fun _ => True) (.slice (some ⟨go36, 0, none⟩) x6_23.length co25) y199 := (by rw [hw, Ny199.out]; exact HP46.1); clear HP46; have n0_ := Aside0.mk (hp_); have n1_ := Aside0.mk ((by rw [hw]; exact below_set (HB.out) GB36.out : Below w.heap.size w w47)); clear HO_6; clear HB; have HO_6 := n0_; have HB := n1_; clear n0_ n1_; clear hg hw hp_))
                                      (try simp only [← hl6_23])
                                      go_roundg kj23
                                      case measure => have := HJ2.out; have := HJ5.out; have := HJ12.out; have := HJ17.out; have := HK5.out; have := HJ23.out; omega
                                      case rel => exact ⟨(y199), (wrap64 (x7_5 + 1)), (by first | rfl | (simp; done) | (simp [*]; done)), H', ⟨by have := HJ2.out; have := HJ5.out; have := HJ12.out; have := HJ17.out; have := HK5.out; have := HJ23.out; omega⟩, ⟨by (try simp only [hl6_23]); (with_reducible repeat (first | apply Kd.R_alloc | apply Kd.R_drewN | apply Kd.R_drew)); exact HO_6.out⟩, ⟨by repeat (first | (with_reducible first | exact HB.out | apply below_alloc | apply pw_below_drewN | apply below_drew1) | exact HB.out)⟩⟩
                                  · rw [if_neg c34] at H
                                    exact absurd H (by simp)
                                · rw [if_neg c33] at H
                                  exact absurd H (by simp)
                              · rw [if_neg c32] at H
                                have c32b0 : ((Int.tmod (wrap64 (Int.tdiv a1 2)) 2) == 1) = false := beq_eq_false_iff_ne.mpr c32
                                have c32b1 : ((Int.tmod (wrap64 (Int.tdiv a1 2)) 2) != 1) = true := bne_iff_ne.mpr c32
                                by_cases c48 : (Int.tmod (wrap64 (Int.tdiv a1 8)) 2) = 1
                                · rw [if_pos c48] at H
                                  have c48b0 : ((Int.tmod (wrap64 (Int.tdiv a1 8)) 2) == 1) = true := beq_iff_eq.mpr c48
                                  have c48b1 : ((Int.tmod (wrap64 (Int.tdiv a1 8)) 2) != 1) = false := bne_eq_false_iff_eq.mpr c48
                                  clear c48
                                  by_cases c49 : 0 ≤ x7_5
                                  · rw [if_pos c49] at H
                                    have c49b0 : decide (0 ≤ x7_5) = true := decide_eq_true c49
                                    clear c49
                                    by_cases c50 : x7_5 < (x6_23.length : Int)
                                    · rw [if_pos c50] at H
                                      have c50b0 : decide (x7_5 < (x6_23.length : Int)) = true := decide_eq_true c50
                                      clear c50
                                      replace H := Option.bind_eq_some_iff.mp H
                                      obtain ⟨t204, A510, H⟩ := H
                                      replace H : (siglumref03_Rune.l0 kj23 a1 (x6_23.set (x7_5 : Int).toNat t204) (wrap64 (x7_5 + 1))) = some (r1, r2) := H
                                      have A51 := Aside0.mk A510
                                      clear A510
                                      obtain ⟨y205, hy205⟩ : ∃ y_ : List Int, y_ = (x6_23.set (x7_5 : Int).toNat t204) := ⟨_, rfl⟩
                                      replace H : (siglumref03_Rune.l0 kj23 a1 y205 (wrap64 (x7_5 + 1))) = some (r1, r2) := by first | (rw [hy205]; with_reducible exact H) | (have H2_ := (Option.bind_some _ _).symm.trans H; rw [hy205]; with_reducible exact H2_) | (have H2_ := (Option.bind_some _ _).symm.trans H; with_reducible exact H2_) | with_reducible exact H | (rw [hy205]; exact H) | exact H
                                      have Ny205 := Aside0.mk hy205
                                      clear hy205
                                      have H' := Aside0.mk H
                                      clear H
                                      have p203 : 0 ≤ (x7_5 : Int) := of_decide_eq_true (by first | (with_reducible assumption) | assumption)
                                      have q203 : x7_5 < (x6_23.length : Int) := of_decide_eq_true (by first | (with_reducible assumption) | assumption)
                                      obtain ⟨ad203, e203, hx203_0⟩ := Kd.at_int (Kd.R_reads' HO_6.out).2.2 x7_5 p203 q203
                                      cases e203
                                      replace p203 := eq_true p203
                                      replace q203 := eq_true q203
                                      go_wp2_with (first | ((with_reducible refine gate_callee (f := 48) rfl ?_); refine goesL_ (some 73) rfl rfl Tryd.func48 (by kernel_rfl) rfl #[.int .i32 (rd x6_23 x7_5)] rfl (by (try simp only [List.map_toArray, List.map_cons, List.map_nil]); first | done | rfl | (simp only [List.length_drop, List.length_take]; rfl)) ?_; (with_reducible refine (siglumref03_plain.calls (rd x6_23 x7_5) t204 _ A51.out).mono ?_); rintro e w' ⟨rfl, ⟨nd, rfl⟩⟩; refine ⟨_, rfl, ?_⟩; (try (rw [drewN_self wc]; generalize hq_ : World.drewN wc _ = wc; have n0_ : Aside0 (Kd.R (Kd.int .i32) 21 wc w.heap.size (fun _ => True) (.slice (some ad203) x6_23.length co25) x6_23) := ⟨by rw [← hq_]; exact (by (with_reducible repeat (first | apply Kd.R_alloc | apply Kd.R_drewN | apply Kd.R_drew)); exact HO_6.out)⟩; have n1_ : Aside0 (Below w.heap.size w wc) := ⟨by rw [← hq_]; exact (by repeat (first | (with_reducible first | exact HB.out | apply below_alloc | apply pw_below_drewN | apply below_drew1) | exact HB.out))⟩; clear HO_6 HB hq_; have HO_6 := n0_; have HB := n1_; clear n0_ n1_)); have p52 : 0 ≤ (x7_5 : Int) := of_decide_eq_true (by first | (with_reducible assumption) | assumption); have q52 : (x7_5 : Int) < ((x6_23.length : Int) : Int) := of_decide_eq_true (by first | (with_reducible assumption) | assumption); obtain ⟨go52, co52, eo52, gb52, gl52, cl52, HG52⟩ := Kd.R_form HO_6.out (by omega); (first | cases eo52 | (injection eo52 with ea_ en_ ec_; (first | subst ea_ | (injection ea_ with ea_; subst ea_)); subst ec_; clear en_)); have GB52 := Aside0.mk gb52; have GG52 := Aside0.mk HG52; clear gb52 gl52 HG52; (first | simp only [add_plain] at hx203_0 | skip); obtain ⟨hx52_0, hf52_0⟩ := Kd.R_celln 0 HO_6.out (x7_5 : Int) p52 q52; replace p52 := eq_true p52; replace q52 := eq_true q52; obtain ⟨hy53_, hz53_⟩ := Kd.R_celln 0 HO_6.out (x7_5 : Int) (of_decide_eq_true (by first | (with_reducible assumption) | assumption)) (of_decide_eq_true (by first | (with_reducible assumption) | assumption)); have HP53 := Kd.R_putg HO_6.out (x7_5 : Int) t204) | ((with_reducible refine gate_store (t := 21) (p := 74) rfl ?_); refine store_event (t := 21) (p := 74) (v := ?vo_w54) (w1 := (wc.setCell ⟨go52, (x7_5 : Int).toNat, none⟩ (.int .i32 t204))) ?hg ?ho ?hn ?hr ?_; (case ho => rfl); (case hg => rfl); (case hn => rfl); (case hr => first | (go_simp; done) | (go_simp; rfl)); intro w54 hw; have hg : wc.grownBy w54 (some go52) := (by rw [hw]; exact HP53.2); have hp_ : Kd.R (Kd.int .i32) 21 w54 w.heap.size (fun _ => True) (.slice (some ⟨go52, 0, none⟩) x6_23.length co25) y205 := (by rw [hw, Ny205.out]; exact HP53.1); clear HP53; have n0_ := Aside0.mk (hp_); have n1_ := Aside0.mk ((by rw [hw]; exact below_set (HB.out) GB52.out : Below w.heap.size w w54)); clear HO_6; clear HB; have HO_6 := n0_; have HB := n1_; clear n0_ n1_; clear hg hw hp_))
                                      (try simp only [← hl6_23])
                                      go_roundg kj23
                                      case measure => have := HJ2.out; have := HJ5.out; have := HJ12.out; have := HJ17.out; have := HK5.out; have := HJ23.out; omega
                                      case rel => exact ⟨(y205), (wrap64 (x7_5 + 1)), (by first | rfl | (simp; done) | (simp [*]; done)), H', ⟨by have := HJ2.out; have := HJ5.out; have := HJ12.out; have := HJ17.out; have := HK5.out; have := HJ23.out; omega⟩, ⟨by (try simp only [hl6_23]); (with_reducible repeat (first | apply Kd.R_alloc | apply Kd.R_drewN | apply Kd.R_drew)); exact HO_6.out⟩, ⟨by repeat (first | (with_reducible first | exact HB.out | apply below_alloc | apply pw_below_drewN | apply below_drew1) | exact HB.out)⟩⟩
                                    · rw [if_neg c50] at H
                                      exact absurd H (by simp)
                                  · rw [if_neg c49] at H
                                    exact absurd H (by simp)
                                · rw [if_neg c48] at H
                                  have c48b0 : ((Int.tmod (wrap64 (Int.tdiv a1 8)) 2) == 1) = false := beq_eq_false_iff_ne.mpr c48
                                  have c48b1 : ((Int.tmod (wrap64 (Int.tdiv a1 8)) 2) != 1) = true := bne_iff_ne.mpr c48
                                  have H' := Aside0.mk H
                                  clear H
                                  go_wp2
                                  (try simp only [← hl6_23])
                                  go_roundg kj23
                                  case measure => have := HJ2.out; have := HJ5.out; have := HJ12.out; have := HJ17.out; have := HK5.out; have := HJ23.out; omega
                                  case rel => exact ⟨(x6_23), (wrap64 (x7_5 + 1)), (by first | rfl | (simp; done) | (simp [*]; done)), H', ⟨by have := HJ2.out; have := HJ5.out; have := HJ12.out; have := HJ17.out; have := HK5.out; have := HJ23.out; omega⟩, ⟨by (try simp only [hl6_23]); (with_reducible repeat (first | apply Kd.R_alloc | apply Kd.R_drewN | apply Kd.R_drew)); exact HO_6.out⟩, ⟨by repeat (first | (with_reducible first | exact HB.out | apply below_alloc | apply pw_below_drewN | apply below_drew1) | exact HB.out)⟩⟩
                        · rw [if_neg c23] at H
                          have c23b0 : decide (x7_5 < (x6_5.length : Int)) = false := decide_eq_false c23
                          clear c23
                          replace H := Option.bind_eq_some_iff.mp H
                          obtain ⟨t193, A550, H⟩ := H
                          replace H : (some (t193, 0)) = some (r1, r2) := H
                          have A55 := Aside0.mk A550
                          clear A550
                          simp only [Option.some.injEq, Prod.mk.injEq] at H
                          obtain ⟨rfl, rfl⟩ := H
                          obtain ⟨Ao56, co56, eo56⟩ := Kd.R_slice HO_6.out
                          subst eo56
                          go_wp2_with (first | ((with_reducible refine gate_callee (f := 49) rfl ?_); refine goesL_ (some 76) rfl rfl Tryd.func49 (by kernel_rfl) rfl #[.slice Ao56 x6_5.length co56] rfl (by (try simp only [List.map_toArray, List.map_cons, List.map_nil]); first | done | rfl | (simp only [List.length_drop, List.length_take]; rfl)) ?_; (with_reducible refine (siglumref01_Back.calls k5 _ _ x6_5 t193 _ ?side1 ?side2 A55.out).mono ?_); (case side1 => repeat (first | exact (Kd.R_reads' HO_6.out).2.2 | (with_reducible refine Kd.C_alloc ?_ _) | (with_reducible refine Kd.C_drewN ?_ _) | (with_reducible refine Kd.C_drew ?_))); (case side2 => exact (Kd.R_reads' HO_6.out).2.1); rintro e w57 ⟨rfl, hb⟩; refine ⟨_, rfl, ?_⟩; have n0_ := Aside0.mk (Kd.R_below (by (with_reducible repeat (first | apply Kd.R_alloc | apply Kd.R_drewN | apply Kd.R_drew)); exact HO_6.out) hb); have n1_ := Aside0.mk (below_step (by repeat (first | (with_reducible first | exact HB.out | apply below_alloc | apply pw_below_drewN | apply below_drew1) | exact HB.out)) hb); clear HO_6; clear HB; have HO_6 := n0_; have HB := n1_; clear n0_ n1_; (try clear hb); (try clear hb2); (try clear hk); (try clear hi)))
                          go_ret2
                          exact ⟨by first | rfl | (simp [errW_none, errW_some] <;> rfl) | (simp [*, errW_none, errW_some] <;> rfl), by repeat (first | (with_reducible first | exact HB.out | apply below_alloc | apply pw_below_drewN | apply below_drew1) | exact HB.out)⟩
end Go.Proofs.YtblpiceallbfjaaDoor.Pr
namespace Go.Proofs.YtblpiceallbfjaaDoor.Pr
open Go.RowKit Go.Proofs.YtblpiceallbfjaaDoorW.PrintWords Go.Proofs.YtblpiceallbfjaaDoorW.PrintLast Go.Proofs.YtblpiceallbfjaaDoorW.PrintMore
attribute [local go_sem] max2_int min2_int max_two min_two max_three min_three max_four min_four   -- for this text's walks alone
set_option linter.unusedVariables false
set_option linter.unusedSimpArgs false
mutual
def siglumref03_Text.j0 : Nat → ByteArray → Int → Bool → Option (ByteArray × Int)
  | 0, _, _, _ => none
  | k + 1, x0, x1, x16 => if x16 = true then (some ((⟨#[]⟩ : ByteArray), 2)) else ((siglumref01_Cells.f k x0).bind fun t212 => (siglumref03_Text.l0 k x1 ([] : List Int) t212 0))
def siglumref03_Text.l0 : Nat → Int → List Int → List (S67) → Int → Option (ByteArray × Int)
  | 0, _, _, _, _ => none
  | k + 1, x1, x6, x7, x8 => if x8 < (x7.length : Int) then (if 0 ≤ x8 then (if (rd_T67 x7 x8).f3 = true then (if x6.length < 140737488355328 then (siglumref03_Text.l0 k x1 (x6 ++ [(rd_T67 x7 x8).f4]) x7 (wrap64 (x8 + 1))) else (none)) else ((siglumref03_Rune.f k ((rd_T67 x7 x8).f2) x1).bind fun bt221 => (if x6.length + bt221.1.size < 140737488355328 then (siglumref03_Text.l0 k x1 (x6 ++ bytesOf bt221.1) x7 (wrap64 (x8 + 1))) else (none)))) else (none)) else (some (strOfNums x6, 0))
end
def siglumref03_Text.f (k : Nat) (a0 : ByteArray) (a1 : Int) : Option (ByteArray × Int) := if a1 < 0 then (siglumref03_Text.j0 k a0 a1 true) else (siglumref03_Text.j0 k a0 a1 (decide (a1 > 31)))
theorem siglumref03_Text.mono_l : ∀ k, (∀ y0 y1 y2, LeO (siglumref03_Text.j0 k y0 y1 y2) (siglumref03_Text.j0 (k + 1) y0 y1 y2)) ∧ (∀ y0 y1 y2 y3, LeO (siglumref03_Text.l0 k y0 y1 y2 y3) (siglumref03_Text.l0 (k + 1) y0 y1 y2 y3))
  | 0 => ⟨fun _ _ _ r h => by simp [siglumref03_Text.j0] at h, fun _ _ _ _ r h => by simp [siglumref03_Text.l0] at h⟩
  | k + 1 => by
    obtain ⟨ih0, ih1⟩ := siglumref03_Text.mono_l k
    refine ⟨?_, ?_⟩
    · intro y0 y1 y2
      unfold siglumref03_Text.j0
      repeat' first
      | (with_reducible exact ih0 _ _ _)
      | (with_reducible exact ih1 _ _ _ _)
      | (with_reducible exact siglumref01_Cells.mono _ _)
      | (with_reducible exact siglumref03_Rune.mono _ _ _)
      | (with_reducible exact LeO.refl _)
      | (with_reducible exact LeO.none _)
      | (with_reducible refine LeO.ite ?_ ?_)
      | (with_reducible refine LeO.bind ?_ (fun _ => ?_))
      | exact ih0 _ _ _
      | exact ih1 _ _ _ _
      | exact siglumref01_Cells.mono _ _
      | exact siglumref03_Rune.mono _ _ _
      | exact LeO.none _
      | refine LeO.ite ?_ ?_
      | refine LeO.bind ?_ (fun _ => ?_)
    · intro y0 y1 y2 y3
      unfold siglumref03_Text.l0
      repeat' first
      | (with_reducible exact ih0 _ _ _)
      | (with_reducible exact ih1 _ _ _ _)
      | (with_reducible exact siglumref01_Cells.mono _ _)
      | (with_reducible exact siglumref03_Rune.mono _ _ _)
      | (with_reducible exact LeO.refl _)
      | (with_reducible exact LeO.none _)
      | (with_reducible refine LeO.ite ?_ ?_)
      | (with_reducible refine LeO.bind ?_ (fun _ => ?_))
      | exact ih0 _ _ _
      | exact ih1 _ _ _ _
      | exact siglumref01_Cells.mono _ _
      | exact siglumref03_Rune.mono _ _ _
      | exact LeO.none _
      | refine LeO.ite ?_ ?_
      | refine LeO.bind ?_ (fun _ => ?_)
theorem siglumref03_Text.mono : ∀ a0 a1 k, LeO (siglumref03_Text.f k a0 a1) (siglumref03_Text.f (k + 1) a0 a1) := by
  intro a0 a1 k
  obtain ⟨ih0, ih1⟩ := siglumref03_Text.mono_l k
  unfold siglumref03_Text.f
  repeat' first
      | (with_reducible exact ih0 _ _ _)
      | (with_reducible exact ih1 _ _ _ _)
      | (with_reducible exact siglumref01_Cells.mono _ _)
      | (with_reducible exact siglumref03_Rune.mono _ _ _)
      | (with_reducible exact LeO.refl _)
      | (with_reducible exact LeO.none _)
      | (with_reducible refine LeO.ite ?_ ?_)
      | (with_reducible refine LeO.bind ?_ (fun _ => ?_))
      | exact ih0 _ _ _
      | exact ih1 _ _ _ _
      | exact siglumref01_Cells.mono _ _
      | exact siglumref03_Rune.mono _ _ _
      | exact LeO.none _
      | refine LeO.ite ?_ ?_
      | refine LeO.bind ?_ (fun _ => ?_)
set_option maxHeartbeats 8000000 in
set_option maxRecDepth 100000 in
theorem siglumref03_Text.calls (k : Nat) (a0 : ByteArray) (a1 : Int) (r1 : ByteArray) (r2 : Int) (w : World) (h : siglumref03_Text.f k a0 a1 = some (r1, r2)) :
    Calls Tryd.prog 18 #[.string a0, .int .i64 a1] w fun e w' => e = .returned (.tuple #[.string r1, .int .i64 r2]) ∧ Below w.heap.size w w' := by
  have HB := Aside0.mk (Below.refl w.heap.size w)
  have H : (if a1 < 0 then (siglumref03_Text.j0 k a0 a1 true) else (siglumref03_Text.j0 k a0 a1 (decide (a1 > 31)))) = some (r1, r2) := h
  clear h
  have HC3 := Aside0.mk H
  clear H
  go_enter Tryd.func18, Tryd.ntmps18
  go_upto_region 1 with (fail)
  go_cut [16] (fun v16 wc => ∃ (kq : Nat) (x16_2 : Bool), v16 = .bool x16_2 ∧ Aside0 (siglumref03_Text.j0 kq a0 a1 x16_2 = some (r1, r2)) ∧ Aside0 (kq ≤ k) ∧ Aside0 (Below w.heap.size w wc))
  case first =>
    have H := HC3.out
    clear HC3
    by_cases c4 : a1 < 0
    · rw [if_pos c4] at H
      have c4b0 : decide (a1 < 0) = true := decide_eq_true c4
      clear c4
      (first | rw [c4b0] | (simp only [i64_w, i32_w]; rw [c4b0]) | skip)
      have H' := Aside0.mk H
      clear H
      go_wp2
      go_meet
      case rel => exact ⟨_, (true), (by first | rfl | (simp; done) | (simp [*]; done)), H', ⟨by first | omega | exact Nat.le_refl _⟩, ⟨by repeat (first | (with_reducible first | exact HB.out | apply below_alloc | apply pw_below_drewN | apply below_drew1) | exact HB.out)⟩⟩
    · rw [if_neg c4] at H
      have c4b0 : decide (a1 < 0) = false := decide_eq_false c4
      clear c4
      (first | rw [c4b0] | (simp only [i64_w, i32_w]; rw [c4b0]) | skip)
      have H' := Aside0.mk H
      clear H
      go_wp2
      go_meet
      case rel => exact ⟨_, (decide (a1 > 31)), (by first | rfl | (simp; done) | (simp [*]; done)), H', ⟨by first | omega | exact Nat.le_refl _⟩, ⟨by repeat (first | (with_reducible first | exact HB.out | apply below_alloc | apply pw_below_drewN | apply below_drew1) | exact HB.out)⟩⟩
  case rest =>
    clear HC3
    try clear c1
    try clear p2
    try clear c4
    try clear c4b0
    obtain ⟨kq, x16_2, rfl, HA, HJ2, HB⟩ := hcut
    cases kq with
    | zero => exact absurd HA.out (by simp [siglumref03_Text.j0])
    | succ kj2 =>
      have H := HA.out
      clear HA
      simp only [siglumref03_Text.j0] at H
      by_cases c5 : x16_2 = true
      · subst c5
        have H1 : (some ((⟨#[]⟩ : ByteArray), 2)) = some (r1, r2) := by rw [if_pos rfl] at H; exact H
        clear H
        have H := H1
        clear H1
        simp only [Option.some.injEq, Prod.mk.injEq] at H
        obtain ⟨rfl, rfl⟩ := H
        go_wp2
        go_ret2
        exact ⟨by first | rfl | (simp [errW_none, errW_some] <;> rfl) | (simp [*, errW_none, errW_some] <;> rfl), by repeat (first | (with_reducible first | exact HB.out | apply below_alloc | apply pw_below_drewN | apply below_drew1) | exact HB.out)⟩
      · replace c5 := Bool.eq_false_iff.mpr c5
        subst c5
        have H1 : ((siglumref01_Cells.f kj2 a0).bind fun t212 => (siglumref03_Text.l0 kj2 a1 ([] : List Int) t212 0)) = some (r1, r2) := by rw [if_neg (show ¬ (false = true) by decide)] at H; exact H
        clear H
        have H := H1
        clear H1
        replace H := Option.bind_eq_some_iff.mp H
        obtain ⟨t212, A60, H⟩ := H
        replace H : (siglumref03_Text.l0 kj2 a1 ([] : List Int) t212 0) = some (r1, r2) := H
        have A6 := Aside0.mk A60
        clear A60
        have H' := Aside0.mk H
        clear H
        go_wp2_with (first | ((with_reducible refine gate_callee (f := 37) rfl ?_); refine goesL_ (some 18) rfl rfl Tryd.func37 (by kernel_rfl) rfl #[.string a0] rfl (by (try simp only [List.map_toArray, List.map_cons, List.map_nil]); first | done | rfl | (simp only [List.length_drop, List.length_take]; rfl)) ?_; (with_reducible refine (siglumref01_Cells.calls kj2 a0 t212 _ A6.out).mono ?_); rintro e w7 ⟨v213, rfl, ho0, hb⟩; refine ⟨_, rfl, ?_⟩; have n0_ := Aside0.mk (Kd.R_lower ho0 (below_size (by repeat (first | (with_reducible first | exact HB.out | apply below_alloc | apply pw_below_drewN | apply below_drew1) | exact HB.out)))); have n1_ := Aside0.mk (below_step (by repeat (first | (with_reducible first | exact HB.out | apply below_alloc | apply pw_below_drewN | apply below_drew1) | exact HB.out)) hb); clear HB; have HO214 := n0_; have HB := n1_; clear n0_ n1_; (try clear hb); (try clear hb2); (try clear hk); (try clear hi); (try clear ho0)))
        go_loopg [6, 8] kj2 (fun kq v6 v8 w' => ∃ (x6_2 : List Int) (x8_2 : Int), v8 = .int .i64 x8_2 ∧ Aside0 (siglumref03_Text.l0 kq a1 x6_2 t212 x8_2 = some (r1, r2)) ∧ Aside0 (kq ≤ kj2) ∧ Aside0 (Kd.R (Kd.int .u8) 5 w' w.heap.size (fun _ => True) v6 x6_2) ∧ Aside0 (Kd.R k67 67 w' w.heap.size (fun _ => True) v213 t212) ∧ Aside0 (Below w.heap.size w w'))
        case atStart => exact ⟨(([] : List Int)), (0), (by first | rfl | (simp; done) | (simp [*]; done)), H', ⟨Nat.le_refl _⟩, ⟨by first | exact Kd.R_nil _ _ _ _ _ | exact Kd.N_nil _ _ _ _ _ | exact Kd.V_nil _ _ _ _ _ | exact Kd.Q_nil _ _ _ _ _ | exact Kd.S_nil _ _ _ _ _⟩, ⟨by (with_reducible repeat (first | apply Kd.R_alloc | apply Kd.R_drewN | apply Kd.R_drew)); exact HO214.out⟩, ⟨by repeat (first | (with_reducible first | exact HB.out | apply below_alloc | apply pw_below_drewN | apply below_drew1) | exact HB.out)⟩⟩
        case round =>
          clear H'
          try clear c1
          try clear p2
          try clear c3
          try clear c4
          try clear c4b0
          try clear c5
          try clear p2
          obtain ⟨x6_2, x8_2, rfl, HA, HK2, HO_6, HO_7, HB⟩ := hrel
          cases gk with
          | zero => exact absurd HA.out (by simp [siglumref03_Text.l0])
          | succ k2 =>
            have H := HA.out
            clear HA
            simp only [siglumref03_Text.l0] at H
            by_cases c8 : x8_2 < (t212.length : Int)
            · rw [if_pos c8] at H
              have c8b0 : decide (x8_2 < (t212.length : Int)) = true := decide_eq_true c8
              clear c8
              by_cases c9 : 0 ≤ x8_2
              · rw [if_pos c9] at H
                have c9b0 : decide (0 ≤ x8_2) = true := decide_eq_true c9
                clear c9
                obtain ⟨bq10, hbq10⟩ : ∃ b_ : Bool, b_ = ((rd_T67 t212 x8_2).f3) := ⟨_, rfl⟩
                replace H : (if bq10 = true then (if x6_2.length < 140737488355328 then (siglumref03_Text.l0 k2 a1 (x6_2 ++ [(rd_T67 t212 x8_2).f4]) t212 (wrap64 (x8_2 + 1))) else (none)) else ((siglumref03_Rune.f k2 ((rd_T67 t212 x8_2).f2) a1).bind fun bt221 => (if x6_2.length + bt221.1.size < 140737488355328 then (siglumref03_Text.l0 k2 a1 (x6_2 ++ bytesOf bt221.1) t212 (wrap64 (x8_2 + 1))) else (none)))) = some (r1, r2) := by rw [← hbq10] at H; exact H
                have Nbq10 := Aside0.mk hbq10
                clear hbq10
                by_cases c11 : bq10 = true
                · subst c11
                  have H1 : (if x6_2.length < 140737488355328 then (siglumref03_Text.l0 k2 a1 (x6_2 ++ [(rd_T67 t212 x8_2).f4]) t212 (wrap64 (x8_2 + 1))) else (none)) = some (r1, r2) := by rw [if_pos rfl] at H; exact H
                  clear H
                  have H := H1
                  clear H1
                  by_cases c12 : x6_2.length < 140737488355328
                  · rw [if_pos c12] at H
                    have LMc12 := Aside0.mk c12
                    clear c12
                    obtain ⟨y217, hy217⟩ : ∃ y_ : List Int, y_ = (x6_2 ++ [(rd_T67 t212 x8_2).f4]) := ⟨_, rfl⟩
                    replace H : (siglumref03_Text.l0 k2 a1 y217 t212 (wrap64 (x8_2 + 1))) = some (r1, r2) := by first | (rw [hy217]; with_reducible exact H) | (have H2_ := (Option.bind_some _ _).symm.trans H; rw [hy217]; with_reducible exact H2_) | (have H2_ := (Option.bind_some _ _).symm.trans H; with_reducible exact H2_) | with_reducible exact H | (rw [hy217]; exact H) | exact H
                    have Ny217 := Aside0.mk hy217
                    clear hy217
                    have H' := Aside0.mk H
                    clear H
                    obtain ⟨Ao13, co13, eo13⟩ := Kd.R_slice HO_7.out
                    subst eo13
                    have p215 : 0 ≤ (x8_2 : Int) := of_decide_eq_true (by first | (with_reducible assumption) | assumption)
                    have q215 : x8_2 < (t212.length : Int) := of_decide_eq_true (by first | (with_reducible assumption) | assumption)
                    obtain ⟨ad215, e215, hx215_0, hx215_1, hx215_2, hx215_3, hx215_4⟩ := at_T67 (Kd.R_reads' HO_7.out).2.2 x8_2 p215 q215
                    (try rw [← Nbq10.out] at hx215_3)
                    cases e215
                    replace p215 := eq_true p215
                    replace q215 := eq_true q215
                    have p216 : 0 ≤ (x8_2 : Int) := of_decide_eq_true (by first | (with_reducible assumption) | assumption)
                    have q216 : x8_2 < (t212.length : Int) := of_decide_eq_true (by first | (with_reducible assumption) | assumption)
                    obtain ⟨ad216, e216, hx216_0, hx216_1, hx216_2, hx216_3, hx216_4⟩ := at_T67 (Kd.R_reads' HO_7.out).2.2 x8_2 p216 q216
                    (try rw [← Nbq10.out] at hx216_3)
                    obtain rfl : ad215 = ad216 := (by injection e216)
                    replace p216 := eq_true p216
                    replace q216 := eq_true q216
                    go_wp2_with (first | ((with_reducible refine gate_builtin (b := .append) (xs := #[.tmp 30, .tmp 36]) rfl ?_); at_builtin; refine Kd.R_append (Kd.int .u8) (w0 := w) w.heap.size rfl (.tmp 30) (.tmp 36) 70 5 (.int .u8 0) 1 rfl Tryd.underlying70 info5 rfl (by decide) (by omega) u6 x6_2 ((rd_T67 t212 x8_2).f4) [.int .u8 ((rd_T67 t212 x8_2).f4)] (fun _ => True) (fun _ => False) rfl rfl ?aP (fun _ hk => hk.elim) ?aF ?aO ?aB ?aS ?aL ?_; (case aP => exact rfl); (case aB => exact (by repeat (first | (with_reducible first | exact HB.out | apply below_alloc | apply pw_below_drewN | apply below_drew1) | exact HB.out))); (case aF => exact (fun _ _ => trivial)); (case aO => exact (by (with_reducible repeat (first | apply Kd.R_alloc | apply Kd.R_drewN | apply Kd.R_drew)); exact HO_6.out)); (case aS => exact (below_size (by repeat (first | (with_reducible first | exact HB.out | apply below_alloc | apply pw_below_drewN | apply below_drew1) | exact HB.out)))); (case aL => have := LMc12.out; omega); intro v218 w14 ho hb hg hat; rw [← Ny217.out] at ho; have n0_ := Aside0.mk (Kd.R_over' (by (with_reducible repeat (first | apply Kd.R_alloc | apply Kd.R_drewN | apply Kd.R_drew)); exact HO_7.out) (Kd.R_typed (by (with_reducible repeat (first | apply Kd.R_alloc | apply Kd.R_drewN | apply Kd.R_drew)); exact HO_6.out)) (by decide) hg); have n1_ := Aside0.mk (hb); have n2_ := Aside0.mk (ho); clear HO_7; clear HB; clear HO_6; have HO_7 := n0_; have HB := n1_; have HO219 := n2_; clear n0_ n1_ n2_; clear ho hb hg hat))
                    go_roundg k2
                    case measure => have := HJ2.out; have := HK2.out; omega
                    case rel => exact ⟨(y217), (wrap64 (x8_2 + 1)), (by first | rfl | (simp; done) | (simp [*]; done)), H', ⟨by have := HJ2.out; have := HK2.out; omega⟩, ⟨by (with_reducible repeat (first | apply Kd.R_alloc | apply Kd.R_drewN | apply Kd.R_drew)); exact HO219.out⟩, ⟨by (with_reducible repeat (first | apply Kd.R_alloc | apply Kd.R_drewN | apply Kd.R_drew)); exact HO_7.out⟩, ⟨by repeat (first | (with_reducible first | exact HB.out | apply below_alloc | apply pw_below_drewN | apply below_drew1) | exact HB.out)⟩⟩
                  · rw [if_neg c12] at H
                    exact absurd H (by simp)
                · replace c11 := Bool.eq_false_iff.mpr c11
                  subst c11
                  have H1 : ((siglumref03_Rune.f k2 ((rd_T67 t212 x8_2).f2) a1).bind fun bt221 => (if x6_2.length + bt221.1.size < 140737488355328 then (siglumref03_Text.l0 k2 a1 (x6_2 ++ bytesOf bt221.1) t212 (wrap64 (x8_2 + 1))) else (none))) = some (r1, r2) := by rw [if_neg (show ¬ (false = true) by decide)] at H; exact H
                  clear H
                  have H := H1
                  clear H1
                  replace H := Option.bind_eq_some_iff.mp H
                  obtain ⟨⟨t221, t222⟩, A150, H⟩ := H
                  replace H : (if x6_2.length + t221.size < 140737488355328 then (siglumref03_Text.l0 k2 a1 (x6_2 ++ bytesOf t221) t212 (wrap64 (x8_2 + 1))) else (none)) = some (r1, r2) := H
                  have A15 := Aside0.mk A150
                  clear A150
                  by_cases c16 : x6_2.length + t221.size < 140737488355328
                  · rw [if_pos c16] at H
                    have LMc16 := Aside0.mk c16
                    clear c16
                    obtain ⟨y223, hy223⟩ : ∃ y_ : List Int, y_ = (x6_2 ++ bytesOf t221) := ⟨_, rfl⟩
                    replace H : (siglumref03_Text.l0 k2 a1 y223 t212 (wrap64 (x8_2 + 1))) = some (r1, r2) := by first | (rw [hy223]; with_reducible exact H) | (have H2_ := (Option.bind_some _ _).symm.trans H; rw [hy223]; with_reducible exact H2_) | (have H2_ := (Option.bind_some _ _).symm.trans H; with_reducible exact H2_) | with_reducible exact H | (rw [hy223]; exact H) | exact H
                    have Ny223 := Aside0.mk hy223
                    clear hy223
                    have H' := Aside0.mk H
                    clear H
                    obtain ⟨Ao17, co17, eo17⟩ := Kd.R_slice HO_7.out
                    subst eo17
                    have p215 : 0 ≤ (x8_2 : Int) := of_decide_eq_true (by first | (with_reducible assumption) | assumption)
                    have q215 : x8_2 < (t212.length : Int) := of_decide_eq_true (by first | (with_reducible assumption) | assumption)
                    obtain ⟨ad215, e215, hx215_0, hx215_1, hx215_2, hx215_3, hx215_4⟩ := at_T67 (Kd.R_reads' HO_7.out).2.2 x8_2 p215 q215
                    (try rw [← Nbq10.out] at hx215_3)
                    cases e215
                    replace p215 := eq_true p215
                    replace q215 := eq_true q215
                    have p220 : 0 ≤ (x8_2 : Int) := of_decide_eq_true (by first | (with_reducible assumption) | assumption)
                    have q220 : x8_2 < (t212.length : Int) := of_decide_eq_true (by first | (with_reducible assumption) | assumption)
                    obtain ⟨ad220, e220, hx220_0, hx220_1, hx220_2, hx220_3, hx220_4⟩ := at_T67 (Kd.R_reads' HO_7.out).2.2 x8_2 p220 q220
                    (try rw [← Nbq10.out] at hx220_3)
                    obtain rfl : ad215 = ad220 := (by injection e220)
                    replace p220 := eq_true p220
                    replace q220 := eq_true q220
                    go_wp2_with (first | ((with_reducible refine gate_callee (f := 17) rfl ?_); refine goesL_ (some 45) rfl rfl Tryd.func17 (by kernel_rfl) rfl #[.int .i32 ((rd_T67 t212 x8_2).f2), .int .i64 a1] rfl (by (try simp only [List.map_toArray, List.map_cons, List.map_nil]); first | done | rfl | (simp only [List.length_drop, List.length_take]; rfl)) ?_; (with_reducible refine (siglumref03_Rune.calls k2 ((rd_T67 t212 x8_2).f2) a1 t221 t222 _ A15.out).mono ?_); rintro e w18 ⟨rfl, hb⟩; refine ⟨_, rfl, ?_⟩; have n0_ := Aside0.mk (Kd.R_below (by (with_reducible repeat (first | apply Kd.R_alloc | apply Kd.R_drewN | apply Kd.R_drew)); exact HO_6.out) hb); have n1_ := Aside0.mk (Kd.R_below (by (with_reducible repeat (first | apply Kd.R_alloc | apply Kd.R_drewN | apply Kd.R_drew)); exact HO_7.out) hb); have n2_ := Aside0.mk (below_step (by repeat (first | (with_reducible first | exact HB.out | apply below_alloc | apply pw_below_drewN | apply below_drew1) | exact HB.out)) hb); clear HO_6; clear HO_7; clear HB; have HO_6 := n0_; have HO_7 := n1_; have HB := n2_; clear n0_ n1_ n2_; (try clear hb); (try clear hb2); (try clear hk); (try clear hi)) | (at_builtin; refine print_append_str (w0 := w) w.heap.size rfl (.tmp 48) _ 70 9 5 rfl Tryd.underlying70 Tryd.underlying9 info5 u6 x6_2 t221 rfl rfl ?aO ?aB ?aS ?aL ?_; (case aB => exact (by repeat (first | (with_reducible first | exact HB.out | apply below_alloc | apply pw_below_drewN | apply below_drew1) | exact HB.out))); (case aO => exact (Kd.own_of_R (by (with_reducible repeat (first | apply Kd.R_alloc | apply Kd.R_drewN | apply Kd.R_drew)); exact HO_6.out))); (case aS => exact (below_size (by repeat (first | (with_reducible first | exact HB.out | apply below_alloc | apply pw_below_drewN | apply below_drew1) | exact HB.out)))); (case aL => have := LMc16.out; omega); intro v224 w19 ho0 hb hg; have ho := Kd.R_of_own (h1 := fun _ => rfl) (ok := fun _ => True) ho0 (fun _ _ => trivial); clear ho0; have hat := True.intro; rw [← Ny223.out] at ho; change Kd.R (Kd.int .u8) 5 w19 w.heap.size (fun _ => True) v224 y223 at ho; have n0_ := Aside0.mk (Kd.R_over' (by (with_reducible repeat (first | apply Kd.R_alloc | apply Kd.R_drewN | apply Kd.R_drew)); exact HO_7.out) (Kd.R_typed (by (with_reducible repeat (first | apply Kd.R_alloc | apply Kd.R_drewN | apply Kd.R_drew)); exact HO_6.out)) (by decide) hg); have n1_ := Aside0.mk (hb); have n2_ := Aside0.mk (ho); clear HO_7; clear HB; clear HO_6; have HO_7 := n0_; have HB := n1_; have HO225 := n2_; clear n0_ n1_ n2_; clear ho hb hg hat))
                    go_roundg k2
                    case measure => have := HJ2.out; have := HK2.out; omega
                    case rel => exact ⟨(y223), (wrap64 (x8_2 + 1)), (by first | rfl | (simp; done) | (simp [*]; done)), H', ⟨by have := HJ2.out; have := HK2.out; omega⟩, ⟨by (with_reducible repeat (first | apply Kd.R_alloc | apply Kd.R_drewN | apply Kd.R_drew)); exact HO225.out⟩, ⟨by (with_reducible repeat (first | apply Kd.R_alloc | apply Kd.R_drewN | apply Kd.R_drew)); exact HO_7.out⟩, ⟨by repeat (first | (with_reducible first | exact HB.out | apply below_alloc | apply pw_below_drewN | apply below_drew1) | exact HB.out)⟩⟩
                  · rw [if_neg c16] at H
                    exact absurd H (by simp)
              · rw [if_neg c9] at H
                exact absurd H (by simp)
            · rw [if_neg c8] at H
              have c8b0 : decide (x8_2 < (t212.length : Int)) = false := decide_eq_false c8
              clear c8
              simp only [Option.some.injEq, Prod.mk.injEq] at H
              obtain ⟨rfl, rfl⟩ := H
              obtain ⟨Ao20, co20, eo20⟩ := Kd.R_slice HO_7.out
              subst eo20
              have hcv21 := own_string (P := Tryd.prog) Tryd.underlying70 Tryd.underlying5 Tryd.underlying9 (Kd.own_of_R HO_6.out)
              go_wp2
              go_ret2
              exact ⟨by first | rfl | (simp [errW_none, errW_some] <;> rfl) | (simp [*, errW_none, errW_some] <;> rfl), by repeat (first | (with_reducible first | exact HB.out | apply below_alloc | apply pw_below_drewN | apply below_drew1) | exact HB.out)⟩
end Go.Proofs.YtblpiceallbfjaaDoor.Pr
