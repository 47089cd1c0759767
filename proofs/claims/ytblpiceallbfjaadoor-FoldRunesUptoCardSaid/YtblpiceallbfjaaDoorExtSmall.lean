/- siglumref03.small, the reference's small form of a rune: its plain function and its contract, by hand. -/
import Derived.Test.YtblpiceallbfjaaDoorPr0
import Derived.Test.YtblpiceallbfjaaDoorFoldA
namespace Go.Proofs.YtblpiceallbfjaaDoor.Pr
open Go.RowKit Go.Proofs.YtblpiceallbfjaaDoorW.PrintWords Go.Proofs.YtblpiceallbfjaaDoorW.PrintLast Go.Proofs.YtblpiceallbfjaaDoorW.PrintMore
set_option linter.unusedVariables false
def siglumref03_small.f (a0 : Int) : Option Int := some (smallI a0)
set_option maxHeartbeats 8000000 in
set_option maxRecDepth 100000 in
theorem siglumref03_small.calls (a0 : Int) (r : Int) (w : World) (h : siglumref03_small.f a0 = some r) :
    Calls Tryd.prog 46 #[.int .i32 a0] w fun e w' => e = .returned (.int .i32 r) ∧ Drawn0 w w' := by
  obtain rfl := Option.some.inj h
  clear h
  go_enter Tryd.func46, Tryd.ntmps46
  go_wp2
  all_goals go_ret
  all_goals refine ⟨congrArg (fun z => Ending.returned (.int .i32 z)) ?_, Drawn0.refl _⟩
  all_goals unfold smallI
  all_goals (simp only [bne_iff_ne, beq_iff_eq, beq_eq_false_iff_ne, bne_eq_false_iff_eq, ne_eq, Bool.not_eq_eq_eq_not, Bool.not_true, Bool.not_false, Bool.not_eq_true'] at *)
  all_goals (repeat' split)
  all_goals first | rfl | omega
end Go.Proofs.YtblpiceallbfjaaDoor.Pr
