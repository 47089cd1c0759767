/- kind.Of: a rune's kind by its ranges, in the document's order; the code comes to just that. -/
import Derived.Test.YtblpiceallbfjaaDoorPr2
set_option linter.unusedVariables false
set_option linter.unusedSimpArgs false
namespace Go.Proofs.YtblpiceallbfjaaDoor.Pr
open Go.RowKit Go.Proofs.YtblpiceallbfjaaDoorW.PrintWords Go.Proofs.YtblpiceallbfjaaDoorW.PrintLast Go.Proofs.YtblpiceallbfjaaDoorW.PrintMore

/-- Kinds, by their ranges, in the document's order. -/
def kindX (r : Int) : Int :=
  if r = 39 ∨ r = 45 ∨ r = 173 ∨ (8204 ≤ r ∧ r ≤ 8205) ∨ r = 8217 then 4
  else if (48 ≤ r ∧ r ≤ 57) ∨ (1632 ≤ r ∧ r ≤ 1641) then 3
  else if (65 ≤ r ∧ r ≤ 90) ∨ (97 ≤ r ∧ r ≤ 122) ∨ r = 170 ∨ r = 181 ∨ r = 186 ∨ (192 ≤ r ∧ r ≤ 214) ∨ (216 ≤ r ∧ r ≤ 246) ∨ (248 ≤ r ∧ r ≤ 687) ∨ (880 ≤ r ∧ r ≤ 893) ∨ (895 ≤ r ∧ r ≤ 902) ∨ (904 ≤ r ∧ r ≤ 1153) ∨ (1162 ≤ r ∧ r ≤ 1327) ∨ (7680 ≤ r ∧ r ≤ 8191) ∨ (64256 ≤ r ∧ r ≤ 64262) ∨ r = 9676 then 1
  else if (768 ≤ r ∧ r ≤ 879) ∨ (1155 ≤ r ∧ r ≤ 1161) ∨ (7616 ≤ r ∧ r ≤ 7679) ∨ (8400 ≤ r ∧ r ≤ 8447) then 2
  else if r = 10 ∨ r = 13 ∨ r = 133 ∨ (8232 ≤ r ∧ r ≤ 8233) then 6
  else if r = 9 ∨ (11 ≤ r ∧ r ≤ 12) ∨ r = 32 ∨ r = 160 ∨ (8194 ≤ r ∧ r ≤ 8202) ∨ r = 8239 ∨ r = 12288 then 5
  else if (33 ≤ r ∧ r ≤ 126) ∨ (161 ≤ r ∧ r ≤ 191) ∨ r = 903 ∨ (8208 ≤ r ∧ r ≤ 8231) ∨ (8240 ≤ r ∧ r ≤ 8286) then 7
  else 0
def kind_Of.f (a0 : Int) : Option Int := some (kindX a0)
theorem kin (a b c : Int) : kind_in.f a b c = some (decide (b ≤ a ∧ a ≤ c)) := by
  unfold kind_in.f
  by_cases h : b ≤ a
  · rw [if_pos h]; simp [h]
  · rw [if_neg h]; simp [h]

set_option maxHeartbeats 4000000 in
set_option maxRecDepth 100000 in
theorem kind_Of.calls (a0 : Int) (r : Int) (w : World) (h : kind_Of.f a0 = some r) :
    Calls Tryd.prog 77 #[.int .i32 a0] w fun e w' => e = .returned (.int .i64 r) ∧ Drawn0 w w' := by
  obtain rfl := Option.some.inj h
  clear h
  have HB := Aside0.mk (Drawn0.refl w)
  have hR : ∀ v, kindX a0 = v → Ending.returned (.int .i64 v) = Ending.returned (.int .i64 (kindX a0)) := fun v h => by rw [h]
  go_enter Tryd.func77, Tryd.ntmps77
  go_wp2_with (go_at_call 98; refine (kind_in.calls _ _ _ _ _ (kin _ _ _)).mono ?_; rintro e w' ⟨rfl, ⟨nd, rfl⟩⟩)
  all_goals go_ret
  all_goals refine ⟨hR _ ?_, by repeat (first | exact Drawn0.refl _ | apply Drawn0.step)⟩
  all_goals clear hR HB
  all_goals simp only [beq_eq_false_iff_ne, beq_iff_eq, ne_eq] at *
  all_goals unfold kindX
  all_goals first
    | (subst a0; rfl)
    | (rw [if_pos (by omega)]; done)
    | (rw [if_neg (by omega), if_pos (by omega)]; done)
    | (rw [if_neg (by omega), if_neg (by omega), if_pos (by omega)]; done)
    | (rw [if_neg (by omega), if_neg (by omega), if_neg (by omega), if_pos (by omega)]; done)
    | (rw [if_neg (by omega), if_neg (by omega), if_neg (by omega), if_neg (by omega), if_pos (by omega)]; done)
    | (rw [if_neg (by omega), if_neg (by omega), if_neg (by omega), if_neg (by omega), if_neg (by omega), if_pos (by omega)]; done)
    | (rw [if_neg (by omega), if_neg (by omega), if_neg (by omega), if_neg (by omega), if_neg (by omega), if_neg (by omega), if_pos (by omega)]; done)
    | (rw [if_neg (by omega), if_neg (by omega), if_neg (by omega), if_neg (by omega), if_neg (by omega), if_neg (by omega), if_neg (by omega)]; done)
end Go.Proofs.YtblpiceallbfjaaDoor.Pr
