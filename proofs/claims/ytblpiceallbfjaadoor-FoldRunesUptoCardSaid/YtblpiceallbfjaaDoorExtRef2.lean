/- siglumref02.Of: the document's kinds: the code comes to the same ranges (kindX). -/
import Derived.Test.YtblpiceallbfjaaDoorPr7
import Derived.Test.YtblpiceallbfjaaDoorExtKind
set_option linter.unusedVariables false
set_option linter.unusedSimpArgs false
namespace Go.Proofs.YtblpiceallbfjaaDoor.Pr
open Go.RowKit Go.Proofs.YtblpiceallbfjaaDoorW.PrintWords Go.Proofs.YtblpiceallbfjaaDoorW.PrintLast Go.Proofs.YtblpiceallbfjaaDoorW.PrintMore

/-- In one of the ranges (two numbers each). -/
def holdsB : List Int → Int → Bool
  | a :: b :: l, r => (decide (a ≤ r) && decide (r ≤ b)) || holdsB l r
  | _, _ => false
theorem holds_short (l : List Int) (r : Int) (h : l.length ≤ 1) : holdsB l r = false := by
  match l, h with
  | [], _ => rfl
  | [_], _ => rfl
theorem rd_at (l : List Int) (i : Nat) (h : i < l.length) : rd l (i : Int) = l[i] := by simp [rd, List.getD_eq_getElem?_getD, h]
theorem holds_l0 (l : List Int) (r : Int) : ∀ (d i k : Nat), l.length ≤ i + 2 * d → i + 2 * d ≤ 1000 → d < k → siglumref02_holds.l0 k l r (i : Int) = some (holdsB (l.drop i) r) := by
  intro d
  induction d with
  | zero =>
    intro i k h hi hk
    obtain ⟨k, rfl⟩ : ∃ k', k = k' + 1 := ⟨k - 1, by omega⟩
    simp only [siglumref02_holds.l0]
    rw [show wrap64 ((i : Int) + 1) = (i : Int) + 1 by unfold wrap64; omega, if_neg (by omega), holds_short _ _ (by simp; omega)]
  | succ d ih =>
    intro i k h hi hk
    obtain ⟨k, rfl⟩ : ∃ k', k = k' + 1 := ⟨k - 1, by omega⟩
    simp only [siglumref02_holds.l0]
    rw [show wrap64 ((i : Int) + 1) = ((i + 1 : Nat) : Int) by unfold wrap64; omega, show wrap64 ((i : Int) + 2) = ((i + 2 : Nat) : Int) by unfold wrap64; omega]
    by_cases c : i + 1 < l.length
    · have e := ih (i + 2) k (by omega) (by omega) (by omega)
      rw [if_pos (by omega), if_pos (by omega), if_pos (by omega), rd_at l i (by omega), rd_at l (i + 1) c, e]
      have z : (0 : Int) ≤ ((i + 1 : Nat) : Int) := by omega
      rw [List.drop_eq_getElem_cons (by omega : i < l.length), List.drop_eq_getElem_cons c]
      simp only [holdsB]
      by_cases h1 : l[i] ≤ r
      · rw [if_pos h1, if_pos z]
        by_cases h2 : r ≤ l[i + 1]
        · rw [if_pos h2]; simp [h1, h2]
        · rw [if_neg h2]; simp [h2]
      · rw [if_neg h1]; simp [h1]
    · rw [if_neg (by omega), holds_short _ _ (by simp; omega)]
theorem holds_f (k : Nat) (l : List Int) (r : Int) (h : l.length ≤ 30 ∧ 16 < k) : siglumref02_holds.f k l r = some (holdsB l r) := by
  unfold siglumref02_holds.f
  have := holds_l0 l r 15 0 k (by omega) (by omega) (by omega)
  simpa using this

theorem hEq (a b : Int) : ((b ≤ a ∧ a ≤ b) ↔ a = b) := by omega
theorem hT0 (a : Int) : holdsB [39, 39, 45, 45, 173, 173, 8204, 8205, 8217, 8217] a = true ↔ (a = 39 ∨ a = 45 ∨ a = 173 ∨ (8204 ≤ a ∧ a ≤ 8205) ∨ a = 8217) := by
  simp only [holdsB, Bool.or_eq_true, Bool.and_eq_true, decide_eq_true_eq, Bool.false_eq_true, or_false]
  all_goals omega
theorem hF0 (a : Int) : holdsB [39, 39, 45, 45, 173, 173, 8204, 8205, 8217, 8217] a = false ↔ ¬ (a = 39 ∨ a = 45 ∨ a = 173 ∨ (8204 ≤ a ∧ a ≤ 8205) ∨ a = 8217) := by rw [← hT0]; simp
theorem hT1 (a : Int) : holdsB [48, 57, 1632, 1641] a = true ↔ ((48 ≤ a ∧ a ≤ 57) ∨ (1632 ≤ a ∧ a ≤ 1641)) := by
  simp only [holdsB, Bool.or_eq_true, Bool.and_eq_true, decide_eq_true_eq, Bool.false_eq_true, or_false]
  all_goals omega
theorem hF1 (a : Int) : holdsB [48, 57, 1632, 1641] a = false ↔ ¬ ((48 ≤ a ∧ a ≤ 57) ∨ (1632 ≤ a ∧ a ≤ 1641)) := by rw [← hT1]; simp
theorem hT2 (a : Int) : holdsB [65, 90, 97, 122, 170, 170, 181, 181, 186, 186, 192, 214, 216, 246, 248, 687, 880, 893, 895, 902, 904, 1153, 1162, 1327, 7680, 8191, 64256, 64262, 9676, 9676] a = true ↔ ((65 ≤ a ∧ a ≤ 90) ∨ (97 ≤ a ∧ a ≤ 122) ∨ a = 170 ∨ a = 181 ∨ a = 186 ∨ (192 ≤ a ∧ a ≤ 214) ∨ (216 ≤ a ∧ a ≤ 246) ∨ (248 ≤ a ∧ a ≤ 687) ∨ (880 ≤ a ∧ a ≤ 893) ∨ (895 ≤ a ∧ a ≤ 902) ∨ (904 ≤ a ∧ a ≤ 1153) ∨ (1162 ≤ a ∧ a ≤ 1327) ∨ (7680 ≤ a ∧ a ≤ 8191) ∨ (64256 ≤ a ∧ a ≤ 64262) ∨ a = 9676) := by
  simp only [holdsB, Bool.or_eq_true, Bool.and_eq_true, decide_eq_true_eq, Bool.false_eq_true, or_false]
  all_goals omega
theorem hF2 (a : Int) : holdsB [65, 90, 97, 122, 170, 170, 181, 181, 186, 186, 192, 214, 216, 246, 248, 687, 880, 893, 895, 902, 904, 1153, 1162, 1327, 7680, 8191, 64256, 64262, 9676, 9676] a = false ↔ ¬ ((65 ≤ a ∧ a ≤ 90) ∨ (97 ≤ a ∧ a ≤ 122) ∨ a = 170 ∨ a = 181 ∨ a = 186 ∨ (192 ≤ a ∧ a ≤ 214) ∨ (216 ≤ a ∧ a ≤ 246) ∨ (248 ≤ a ∧ a ≤ 687) ∨ (880 ≤ a ∧ a ≤ 893) ∨ (895 ≤ a ∧ a ≤ 902) ∨ (904 ≤ a ∧ a ≤ 1153) ∨ (1162 ≤ a ∧ a ≤ 1327) ∨ (7680 ≤ a ∧ a ≤ 8191) ∨ (64256 ≤ a ∧ a ≤ 64262) ∨ a = 9676) := by rw [← hT2]; simp
theorem hT3 (a : Int) : holdsB [768, 879, 1155, 1161, 7616, 7679, 8400, 8447] a = true ↔ ((768 ≤ a ∧ a ≤ 879) ∨ (1155 ≤ a ∧ a ≤ 1161) ∨ (7616 ≤ a ∧ a ≤ 7679) ∨ (8400 ≤ a ∧ a ≤ 8447)) := by
  simp only [holdsB, Bool.or_eq_true, Bool.and_eq_true, decide_eq_true_eq, Bool.false_eq_true, or_false]
  all_goals omega
theorem hF3 (a : Int) : holdsB [768, 879, 1155, 1161, 7616, 7679, 8400, 8447] a = false ↔ ¬ ((768 ≤ a ∧ a ≤ 879) ∨ (1155 ≤ a ∧ a ≤ 1161) ∨ (7616 ≤ a ∧ a ≤ 7679) ∨ (8400 ≤ a ∧ a ≤ 8447)) := by rw [← hT3]; simp
theorem hT4 (a : Int) : holdsB [10, 10, 13, 13, 133, 133, 8232, 8233] a = true ↔ (a = 10 ∨ a = 13 ∨ a = 133 ∨ (8232 ≤ a ∧ a ≤ 8233)) := by
  simp only [holdsB, Bool.or_eq_true, Bool.and_eq_true, decide_eq_true_eq, Bool.false_eq_true, or_false]
  all_goals omega
theorem hF4 (a : Int) : holdsB [10, 10, 13, 13, 133, 133, 8232, 8233] a = false ↔ ¬ (a = 10 ∨ a = 13 ∨ a = 133 ∨ (8232 ≤ a ∧ a ≤ 8233)) := by rw [← hT4]; simp
theorem hT5 (a : Int) : holdsB [9, 9, 11, 12, 32, 32, 160, 160, 8194, 8202, 8239, 8239, 12288, 12288] a = true ↔ (a = 9 ∨ (11 ≤ a ∧ a ≤ 12) ∨ a = 32 ∨ a = 160 ∨ (8194 ≤ a ∧ a ≤ 8202) ∨ a = 8239 ∨ a = 12288) := by
  simp only [holdsB, Bool.or_eq_true, Bool.and_eq_true, decide_eq_true_eq, Bool.false_eq_true, or_false]
  all_goals omega
theorem hF5 (a : Int) : holdsB [9, 9, 11, 12, 32, 32, 160, 160, 8194, 8202, 8239, 8239, 12288, 12288] a = false ↔ ¬ (a = 9 ∨ (11 ≤ a ∧ a ≤ 12) ∨ a = 32 ∨ a = 160 ∨ (8194 ≤ a ∧ a ≤ 8202) ∨ a = 8239 ∨ a = 12288) := by rw [← hT5]; simp
theorem hT6 (a : Int) : holdsB [33, 126, 161, 191, 903, 903, 8208, 8231, 8240, 8286] a = true ↔ ((33 ≤ a ∧ a ≤ 126) ∨ (161 ≤ a ∧ a ≤ 191) ∨ a = 903 ∨ (8208 ≤ a ∧ a ≤ 8231) ∨ (8240 ≤ a ∧ a ≤ 8286)) := by
  simp only [holdsB, Bool.or_eq_true, Bool.and_eq_true, decide_eq_true_eq, Bool.false_eq_true, or_false]
  all_goals omega
theorem hF6 (a : Int) : holdsB [33, 126, 161, 191, 903, 903, 8208, 8231, 8240, 8286] a = false ↔ ¬ ((33 ≤ a ∧ a ≤ 126) ∨ (161 ≤ a ∧ a ≤ 191) ∨ a = 903 ∨ (8208 ≤ a ∧ a ≤ 8231) ∨ (8240 ≤ a ∧ a ≤ 8286)) := by rw [← hT6]; simp

def siglumref02_Of.f (a0 : Int) : Option Int := some (kindX a0)
set_option maxHeartbeats 4000000 in
set_option maxRecDepth 100000 in
theorem siglumref02_Of.calls (a0 : Int) (r : Int) (w : World) (h : siglumref02_Of.f a0 = some r) :
    Calls Tryd.prog 79 #[.int .i32 a0] w fun e w' => e = .returned (.int .i64 r) ∧ Below w.heap.size w w' := by
  obtain rfl := Option.some.inj h
  clear h
  have HB := Aside0.mk (Below.refl w.heap.size w)
  have hR : ∀ v, kindX a0 = v → Ending.returned (.int .i64 v) = Ending.returned (.int .i64 (kindX a0)) := fun v h => by rw [h]
  go_enter Tryd.func79, Tryd.ntmps79
  go_wp2_with (first | ((with_reducible refine gate_dst (N := 3) rfl ?_); refine Kd.R_lit (Kd.int .i32) _ 21 ?hg (N := 3) ?hd (xs := ([39, 39, 45, 45, 173, 173, 8204, 8205, 8217, 8217] : List Int)) (inner := [.int .i32 39, .int .i32 39, .int .i32 45, .int .i32 45, .int .i32 173, .int .i32 173, .int .i32 8204, .int .i32 8205, .int .i32 8217, .int .i32 8217]) (ok := fun _ => True) (okp := fun _ => True) ?hr ?hp (fun _ hk => hk) trivial (Below.refl _ _) (Nat.le_refl _) (by simp) ?_; (case hd => rfl); (case hg => rfl); (case hr => first | (go_simp; done) | (go_simp; rfl)); (case hp => repeat (first | exact Reps.none _ _ | refine Reps.one (show Kd.M (Kd.int .i32) _ _ _ _ [_] from rfl) ?_)); intro v w4 ho hb hg_ hnew_; clear hg_ hnew_; have HO := Aside0.mk ho; have HB2 := Aside0.mk (below_step (by repeat (first | (with_reducible first | exact HB.out | apply below_alloc | apply pw_below_drewN | apply below_drew1) | exact HB.out)) hb); clear HB hb ho; have HB := HB2; clear HB2; obtain ⟨Ao, co, eo⟩ := Kd.R_slice HO.out; subst eo) | ((with_reducible refine gate_dst (N := 6) rfl ?_); refine Kd.R_lit (Kd.int .i32) _ 21 ?hg (N := 6) ?hd (xs := ([48, 57, 1632, 1641] : List Int)) (inner := [.int .i32 48, .int .i32 57, .int .i32 1632, .int .i32 1641]) (ok := fun _ => True) (okp := fun _ => True) ?hr ?hp (fun _ hk => hk) trivial (Below.refl _ _) (Nat.le_refl _) (by simp) ?_; (case hd => rfl); (case hg => rfl); (case hr => first | (go_simp; done) | (go_simp; rfl)); (case hp => repeat (first | exact Reps.none _ _ | refine Reps.one (show Kd.M (Kd.int .i32) _ _ _ _ [_] from rfl) ?_)); intro v w4 ho hb hg_ hnew_; clear hg_ hnew_; have HO := Aside0.mk ho; have HB2 := Aside0.mk (below_step (by repeat (first | (with_reducible first | exact HB.out | apply below_alloc | apply pw_below_drewN | apply below_drew1) | exact HB.out)) hb); clear HB hb ho; have HB := HB2; clear HB2; obtain ⟨Ao, co, eo⟩ := Kd.R_slice HO.out; subst eo) | ((with_reducible refine gate_dst (N := 9) rfl ?_); refine Kd.R_lit (Kd.int .i32) _ 21 ?hg (N := 9) ?hd (xs := ([65, 90, 97, 122, 170, 170, 181, 181, 186, 186, 192, 214, 216, 246, 248, 687, 880, 893, 895, 902, 904, 1153, 1162, 1327, 7680, 8191, 64256, 64262, 9676, 9676] : List Int)) (inner := [.int .i32 65, .int .i32 90, .int .i32 97, .int .i32 122, .int .i32 170, .int .i32 170, .int .i32 181, .int .i32 181, .int .i32 186, .int .i32 186, .int .i32 192, .int .i32 214, .int .i32 216, .int .i32 246, .int .i32 248, .int .i32 687, .int .i32 880, .int .i32 893, .int .i32 895, .int .i32 902, .int .i32 904, .int .i32 1153, .int .i32 1162, .int .i32 1327, .int .i32 7680, .int .i32 8191, .int .i32 64256, .int .i32 64262, .int .i32 9676, .int .i32 9676]) (ok := fun _ => True) (okp := fun _ => True) ?hr ?hp (fun _ hk => hk) trivial (Below.refl _ _) (Nat.le_refl _) (by simp) ?_; (case hd => rfl); (case hg => rfl); (case hr => first | (go_simp; done) | (go_simp; rfl)); (case hp => repeat (first | exact Reps.none _ _ | refine Reps.one (show Kd.M (Kd.int .i32) _ _ _ _ [_] from rfl) ?_)); intro v w4 ho hb hg_ hnew_; clear hg_ hnew_; have HO := Aside0.mk ho; have HB2 := Aside0.mk (below_step (by repeat (first | (with_reducible first | exact HB.out | apply below_alloc | apply pw_below_drewN | apply below_drew1) | exact HB.out)) hb); clear HB hb ho; have HB := HB2; clear HB2; obtain ⟨Ao, co, eo⟩ := Kd.R_slice HO.out; subst eo) | ((with_reducible refine gate_dst (N := 12) rfl ?_); refine Kd.R_lit (Kd.int .i32) _ 21 ?hg (N := 12) ?hd (xs := ([768, 879, 1155, 1161, 7616, 7679, 8400, 8447] : List Int)) (inner := [.int .i32 768, .int .i32 879, .int .i32 1155, .int .i32 1161, .int .i32 7616, .int .i32 7679, .int .i32 8400, .int .i32 8447]) (ok := fun _ => True) (okp := fun _ => True) ?hr ?hp (fun _ hk => hk) trivial (Below.refl _ _) (Nat.le_refl _) (by simp) ?_; (case hd => rfl); (case hg => rfl); (case hr => first | (go_simp; done) | (go_simp; rfl)); (case hp => repeat (first | exact Reps.none _ _ | refine Reps.one (show Kd.M (Kd.int .i32) _ _ _ _ [_] from rfl) ?_)); intro v w4 ho hb hg_ hnew_; clear hg_ hnew_; have HO := Aside0.mk ho; have HB2 := Aside0.mk (below_step (by repeat (first | (with_reducible first | exact HB.out | apply below_alloc | apply pw_below_drewN | apply below_drew1) | exact HB.out)) hb); clear HB hb ho; have HB := HB2; clear HB2; obtain ⟨Ao, co, eo⟩ := Kd.R_slice HO.out; subst eo) | ((with_reducible refine gate_dst (N := 15) rfl ?_); refine Kd.R_lit (Kd.int .i32) _ 21 ?hg (N := 15) ?hd (xs := ([10, 10, 13, 13, 133, 133, 8232, 8233] : List Int)) (inner := [.int .i32 10, .int .i32 10, .int .i32 13, .int .i32 13, .int .i32 133, .int .i32 133, .int .i32 8232, .int .i32 8233]) (ok := fun _ => True) (okp := fun _ => True) ?hr ?hp (fun _ hk => hk) trivial (Below.refl _ _) (Nat.le_refl _) (by simp) ?_; (case hd => rfl); (case hg => rfl); (case hr => first | (go_simp; done) | (go_simp; rfl)); (case hp => repeat (first | exact Reps.none _ _ | refine Reps.one (show Kd.M (Kd.int .i32) _ _ _ _ [_] from rfl) ?_)); intro v w4 ho hb hg_ hnew_; clear hg_ hnew_; have HO := Aside0.mk ho; have HB2 := Aside0.mk (below_step (by repeat (first | (with_reducible first | exact HB.out | apply below_alloc | apply pw_below_drewN | apply below_drew1) | exact HB.out)) hb); clear HB hb ho; have HB := HB2; clear HB2; obtain ⟨Ao, co, eo⟩ := Kd.R_slice HO.out; subst eo) | ((with_reducible refine gate_dst (N := 18) rfl ?_); refine Kd.R_lit (Kd.int .i32) _ 21 ?hg (N := 18) ?hd (xs := ([9, 9, 11, 12, 32, 32, 160, 160, 8194, 8202, 8239, 8239, 12288, 12288] : List Int)) (inner := [.int .i32 9, .int .i32 9, .int .i32 11, .int .i32 12, .int .i32 32, .int .i32 32, .int .i32 160, .int .i32 160, .int .i32 8194, .int .i32 8202, .int .i32 8239, .int .i32 8239, .int .i32 12288, .int .i32 12288]) (ok := fun _ => True) (okp := fun _ => True) ?hr ?hp (fun _ hk => hk) trivial (Below.refl _ _) (Nat.le_refl _) (by simp) ?_; (case hd => rfl); (case hg => rfl); (case hr => first | (go_simp; done) | (go_simp; rfl)); (case hp => repeat (first | exact Reps.none _ _ | refine Reps.one (show Kd.M (Kd.int .i32) _ _ _ _ [_] from rfl) ?_)); intro v w4 ho hb hg_ hnew_; clear hg_ hnew_; have HO := Aside0.mk ho; have HB2 := Aside0.mk (below_step (by repeat (first | (with_reducible first | exact HB.out | apply below_alloc | apply pw_below_drewN | apply below_drew1) | exact HB.out)) hb); clear HB hb ho; have HB := HB2; clear HB2; obtain ⟨Ao, co, eo⟩ := Kd.R_slice HO.out; subst eo) | ((with_reducible refine gate_dst (N := 21) rfl ?_); refine Kd.R_lit (Kd.int .i32) _ 21 ?hg (N := 21) ?hd (xs := ([33, 126, 161, 191, 903, 903, 8208, 8231, 8240, 8286] : List Int)) (inner := [.int .i32 33, .int .i32 126, .int .i32 161, .int .i32 191, .int .i32 903, .int .i32 903, .int .i32 8208, .int .i32 8231, .int .i32 8240, .int .i32 8286]) (ok := fun _ => True) (okp := fun _ => True) ?hr ?hp (fun _ hk => hk) trivial (Below.refl _ _) (Nat.le_refl _) (by simp) ?_; (case hd => rfl); (case hg => rfl); (case hr => first | (go_simp; done) | (go_simp; rfl)); (case hp => repeat (first | exact Reps.none _ _ | refine Reps.one (show Kd.M (Kd.int .i32) _ _ _ _ [_] from rfl) ?_)); intro v w4 ho hb hg_ hnew_; clear hg_ hnew_; have HO := Aside0.mk ho; have HB2 := Aside0.mk (below_step (by repeat (first | (with_reducible first | exact HB.out | apply below_alloc | apply pw_below_drewN | apply below_drew1) | exact HB.out)) hb); clear HB hb ho; have HB := HB2; clear HB2; obtain ⟨Ao, co, eo⟩ := Kd.R_slice HO.out; subst eo) | (go_at_call 100; refine (siglumref02_holds.calls 40 _ _ _ a0 _ _ (Kd.R_reads' HO.out).2.2 (Kd.R_reads' HO.out).2.1 (holds_f 40 _ a0 (by decide))).mono ?_; rintro e w' ⟨rfl, ⟨nd, rfl⟩⟩; clear HO))
  all_goals go_ret
  all_goals refine ⟨hR _ ?_, by repeat (first | (with_reducible first | exact HB.out | apply below_alloc | apply pw_below_drewN | apply below_drew1) | exact HB.out)⟩
  all_goals clear hR HB
  all_goals simp only [hT0, hT1, hT2, hT3, hT4, hT5, hT6, hF0, hF1, hF2, hF3, hF4, hF5, hF6] at *
  all_goals unfold kindX
  all_goals first
    | (rw [if_pos (by assumption)]; done)
    | (rw [if_neg (by assumption), if_pos (by assumption)]; done)
    | (rw [if_neg (by assumption), if_neg (by assumption), if_pos (by assumption)]; done)
    | (rw [if_neg (by assumption), if_neg (by assumption), if_neg (by assumption), if_pos (by assumption)]; done)
    | (rw [if_neg (by assumption), if_neg (by assumption), if_neg (by assumption), if_neg (by assumption), if_pos (by assumption)]; done)
    | (rw [if_neg (by assumption), if_neg (by assumption), if_neg (by assumption), if_neg (by assumption), if_neg (by assumption), if_pos (by assumption)]; done)
    | (rw [if_neg (by assumption), if_neg (by assumption), if_neg (by assumption), if_neg (by assumption), if_neg (by assumption), if_neg (by assumption), if_pos (by assumption)]; done)
    | (rw [if_neg (by assumption), if_neg (by assumption), if_neg (by assumption), if_neg (by assumption), if_neg (by assumption), if_neg (by assumption), if_neg (by assumption)]; done)
end Go.Proofs.YtblpiceallbfjaaDoor.Pr
