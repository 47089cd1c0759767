/- fold.fold: a rune's runes are written onto a builder: what is written, and that the code comes to it. -/
import Derived.Test.YtblpiceallbfjaaDoorFoldC
import Derived.Test.YtblpiceallbfjaaDoorBuild
import Derived.Test.YtblpiceallbfjaaDoorExtKind
import Derived.Deep.DeepCutAuto
set_option linter.unusedVariables false
set_option linter.unusedSimpArgs false
namespace Go.Proofs.YtblpiceallbfjaaDoor.Pr
open Go.RowKit Go.Proofs.YtblpiceallbfjaaDoorW.PrintWords Go.Proofs.YtblpiceallbfjaaDoorW.PrintLast Go.Proofs.YtblpiceallbfjaaDoorW.PrintMore

theorem builder_below {T e : TypeId} {B b : Nat} {bs : List Value} {w w' : World} (h : Lib.IsBuilderF T e B b bs w) (hb : Below w.heap.size w w') : Lib.IsBuilderF T e B b bs w' := by
  have key : ∀ p, Lib.BuilderAtF T e B b p bs w → Lib.BuilderAtF T e B b p bs w' := by
    rintro p ⟨hB, v, hbk, hown, hne⟩
    refine ⟨hB, v, (hb.block b (Array.getElem?_eq_some_iff.1 hbk).1).trans hbk, ⟨hown.1, ?_⟩, hne⟩
    rcases hown.2 with hn | ⟨g, cap, cur, fz, hv, hbg, hg, rest⟩
    · exact .inl hn
    · exact .inr ⟨g, cap, cur, fz, hv, hbg, (hb.block g (Array.getElem?_eq_some_iff.1 hg).1).trans hg, rest⟩
  exact h.elim (fun x => .inl (key _ x)) (fun x => .inr (key _ x))
theorem others_below {e : TypeId} {b : Option Nat} {w w' : World} (hb : Below w.heap.size w w') : Lib.OthersKept e b w w' :=
  fun k o hk _ _ => (hb.block k (Array.getElem?_eq_some_iff.1 hk).1).trans hk
theorem builder_block {T e : TypeId} {B b : Nat} {bs : List Value} {w : World} (h : Lib.IsBuilderF T e B b bs w) : ∃ cs, w.heap[b]? = some (.cells cs T (0, 0)) := by
  rcases h with ⟨_, v, hbk, _⟩ | ⟨_, v, hbk, _⟩ <;> exact ⟨_, hbk⟩

def stepF (f : Nat) (x : Int) : Int := if f = 71 then smallI x else if f = 72 then unmarkedI x else letterI x
def applyAll (fs : List Nat) (x : Int) : Int := fs.foldl (fun x f => stepF f x) x
theorem smallI_ge (r : Int) (h : -2147483648 ≤ r) : -2147483648 ≤ smallI r := by
  unfold smallI
  repeat' split
  all_goals omega
theorem unmarkedI_ge (r : Int) (h : -2147483648 ≤ r) : -2147483648 ≤ unmarkedI r := by
  unfold unmarkedI
  split
  · exact h
  · obtain ⟨j, rfl⟩ : ∃ j : Nat, r = 192 + j := ⟨(r - 192).toNat, by omega⟩
    have e : ((192 : Int) + (j : Int) - 192).toNat = j := by omega
    obtain ⟨_, _, _, _, h0, h1⟩ := latin_at j (by omega)
    rw [e, ← h1]
    omega
theorem letterI_ge (r : Int) (h : -2147483648 ≤ r) : -2147483648 ≤ letterI r := by
  unfold letterI
  split
  all_goals omega
theorem stepF_ge (f : Nat) (r : Int) (h : -2147483648 ≤ r) : -2147483648 ≤ stepF f r := by
  unfold stepF
  split
  · exact smallI_ge r h
  · split
    · exact unmarkedI_ge r h
    · exact letterI_ge r h
theorem applyAll_ge (fs : List Nat) : ∀ (r : Int), -2147483648 ≤ r → -2147483648 ≤ applyAll fs r := by
  induction fs with
  | nil => exact fun r h => h
  | cons f fs ih => exact fun r h => ih _ (stepF_ge f r h)
theorem applyAll_take (fs : List Nat) (j : Nat) (x : Int) (h : j < fs.length) : applyAll (fs.take (j + 1)) x = stepF fs[j] (applyAll (fs.take j) x) := by
  rw [List.take_succ_eq_append_getElem h]
  simp only [applyAll, List.foldl_append, List.foldl_cons, List.foldl_nil]
theorem stepsOf_mem (opt : Int) : ∀ f ∈ stepsOf opt, f = 71 ∨ f = 72 ∨ f = 73 := by
  intro f hf
  unfold stepsOf at hf
  simp only [List.mem_append] at hf
  rcases hf with (hf | hf) | hf
  all_goals
    split at hf
    · simp at hf; omega
    · simp at hf
/-- A slice of steps, in memory. -/
def Funcs (w : World) (A : Option Addr) (n : Nat) (fs : List Nat) : Prop :=
  fs.length = n ∧ (0 < n → ∃ g cur fz, A = some ⟨g, 0, none⟩ ∧ w.heap[g]? = some (.cells cur 82 fz) ∧ ∀ j (h : j < fs.length), cur[j]? = some (fv fs[j]))
theorem Funcs.others {w w' : World} {A : Option Addr} {n : Nat} {fs : List Nat} {b : Nat} (h : Funcs w A n fs) (hk : Lib.OthersKept 5 (some b) w w') (hb : ∃ cs, w.heap[b]? = some (.cells cs 72 (0, 0))) : Funcs w' A n fs := by
  refine ⟨h.1, fun hn => ?_⟩
  obtain ⟨g, cur, fz, hA, hg, hc⟩ := h.2 hn
  refine ⟨g, cur, fz, hA, hk g _ hg ?_ ?_, hc⟩
  · intro e
    obtain ⟨cs, hcs⟩ := hb
    injection e with e
    rw [e, hcs] at hg
    injection hg with hg
    injection hg with _ hg
    revert hg; decide
  · intro c fz' e
    injection e with _ e
    revert e; decide
/-- The call of a step. -/
theorem step_call (f : Nat) (hf : f = 71 ∨ f = 72 ∨ f = 73) (x : Int) (w : World) (hx : -2147483648 ≤ x) : Calls Tryd.prog f #[.int .i32 x] w fun e w' => e = .returned (.int .i32 (stepF f x)) ∧ Below w.heap.size w w' := by
  rcases hf with rfl | rfl | rfl
  · refine (fold_lower x w).mono ?_
    rintro e w' ⟨rfl, hd⟩
    exact ⟨rfl, hd.below⟩
  · exact fold_unmarked x w
  · exact fold_letter x w hx

/-- The runes that stand for a rune. -/
def runesOf (r opt : Int) : List Int := if opt / 4 % 2 = 1 ∧ ligB r ≠ [] then (ligB r).map fun b => (b.toNat : Int) else [r]
def encI (x : Int) : List UInt8 := (Utf8.encode x).data.toList
def dropB (kd opt : Int) : Bool := (decide (opt / 16 % 2 = 1) && (kd == 4)) || (decide (opt / 2 % 2 = 1) && (kd == 2))
/-- What is written of a rune of a kind. -/
def foldR (kd r opt : Int) : List UInt8 := if dropB kd opt = true then [] else (runesOf r opt).flatMap fun x => encI (applyAll (stepsOf opt) x)

set_option maxHeartbeats 4000000 in
set_option maxRecDepth 100000 in
theorem fold_drop (b : Nat) (r opt kd : Int) (A : Option Addr) (n c : Nat) (w : World) (hk : kind_Of.f r = some kd) (h0 : 0 ≤ opt) (h1 : opt ≤ 31) (hd : dropB kd opt = true) :
    Calls Tryd.prog 42 #[.pointer (some ⟨b, 0, none⟩), .int .i32 r, .int .i64 opt, .slice A n c] w fun e w' => e = .returned (.tuple #[]) ∧ Drawn0 w w' := by
  obtain ⟨_, b2, _, _, b16⟩ := optBit opt h0 h1
  unfold dropB at hd
  have hK := Lib.hid hk
  clear hk h0 h1
  generalize decide (opt / 16 % 2 = 1) = x16 at *
  generalize decide (opt / 2 % 2 = 1) = x2 at *
  cases x16 <;> cases x2 <;> simp at hd
  · have e2 : (kd == 2) = true := by simpa using hd
    clear hd
    go_enter Tryd.func42, Tryd.ntmps42
    go_wp2_with (go_at_call 77; refine (kind_Of.calls r _ _ hK.out).mono ?_; rintro e w' ⟨rfl, ⟨nd, rfl⟩⟩)
    refine bodyPost_ret (results_none rfl _ _ _) rfl ?_
    exact ⟨rfl, ⟨⟨_, rfl⟩⟩⟩
  · have e4 : (kd == 4) = true := by simpa using hd
    clear hd
    go_enter Tryd.func42, Tryd.ntmps42
    go_wp2_with (go_at_call 77; refine (kind_Of.calls r _ _ hK.out).mono ?_; rintro e w' ⟨rfl, ⟨nd, rfl⟩⟩)
    refine bodyPost_ret (results_none rfl _ _ _) rfl ?_
    exact ⟨rfl, ⟨⟨_, rfl⟩⟩⟩
  · by_cases h4 : kd = 4
    · subst h4
      clear hd
      go_enter Tryd.func42, Tryd.ntmps42
      go_wp2_with (go_at_call 77; refine (kind_Of.calls r _ _ hK.out).mono ?_; rintro e w' ⟨rfl, ⟨nd, rfl⟩⟩)
      refine bodyPost_ret (results_none rfl _ _ _) rfl ?_
      exact ⟨rfl, ⟨⟨_, rfl⟩⟩⟩
    · have e4 : (kd == 4) = false := by simpa using h4
      have e2 : (kd == 2) = true := by simp; omega
      clear hd h4
      go_enter Tryd.func42, Tryd.ntmps42
      go_wp2_with (go_at_call 77; refine (kind_Of.calls r _ _ hK.out).mono ?_; rintro e w' ⟨rfl, ⟨nd, rfl⟩⟩)
      refine bodyPost_ret (results_none rfl _ _ _) rfl ?_
      exact ⟨rfl, ⟨⟨_, rfl⟩⟩⟩
end Go.Proofs.YtblpiceallbfjaaDoor.Pr
