/- fold.letter, fold.ligature, fold.steps with its closure: what they answer, and that the code comes to it. -/
import Derived.Test.YtblpiceallbfjaaDoorFoldB
import Derived.Test.YtblpiceallbfjaaDoorShelf
import Derived.Laws.EntriesVeiled
import Derived.OneCell
set_option linter.unusedVariables false
set_option linter.unusedSimpArgs false
namespace Go.Proofs.YtblpiceallbfjaaDoor.Pr
open Go.RowKit Go.Proofs.YtblpiceallbfjaaDoorW.PrintWords Go.Proofs.YtblpiceallbfjaaDoorW.PrintLast Go.Proofs.YtblpiceallbfjaaDoorW.PrintMore

set_option maxHeartbeats 8000000 in
set_option maxRecDepth 100000 in
theorem fold_letter (r : Int) (w : World) (h0 : -2147483648 ≤ r) : Calls Tryd.prog 73 #[.int .i32 r] w fun e w' => e = .returned (.int .i32 (letterI r)) ∧ Below w.heap.size w w' := by
  by_cases h1 : r = 118
  · subst h1
    go_enter Tryd.func73, Tryd.ntmps73
    go_wp2
    go_ret
    exact ⟨ret_i32 (by decide), Below.refl _ _⟩
  by_cases h2 : r = 86
  · subst h2
    go_enter Tryd.func73, Tryd.ntmps73
    go_wp2
    go_ret
    exact ⟨ret_i32 (by decide), Below.refl _ _⟩
  by_cases h3 : r = 106
  · subst h3
    go_enter Tryd.func73, Tryd.ntmps73
    go_wp2
    go_ret
    exact ⟨ret_i32 (by decide), Below.refl _ _⟩
  by_cases h4 : r = 74
  · subst h4
    go_enter Tryd.func73, Tryd.ntmps73
    go_wp2
    go_ret
    exact ⟨ret_i32 (by decide), Below.refl _ _⟩
  have e1 : (r == 118) = false := by simpa using h1
  have e2 : (r == 86) = false := by simpa using h2
  have e3 : (r == 106) = false := by simpa using h3
  have e4 : (r == 74) = false := by simpa using h4
  have HL : Hid (letterI r = r) := Lib.hid (by unfold letterI; rw [if_neg (by omega)])
  clear h1 h2 h3 h4
  go_enter Tryd.func73, Tryd.ntmps73
  go_wp2
  go_ret
  exact ⟨ret_i32 HL.out.symm, Below.refl _ _⟩

/-- What a ligature stands for; nothing of all others. -/
def ligB (r : Int) : List UInt8 :=
  if r = 198 then [65, 69] else if r = 230 then [97, 101] else if r = 338 then [79, 69] else if r = 339 then [111, 101] else if r = 223 then [115, 115] else if r = 383 then [115] else if r = 306 then [73, 74] else if r = 307 then [105, 106]
  else if r = 64256 then [102, 102] else if r = 64257 then [102, 105] else if r = 64258 then [102, 108] else if r = 64259 then [102, 102, 105] else if r = 64260 then [102, 102, 108] else if r = 64261 then [115, 116] else if r = 64262 then [115, 116] else []
def ligS : ByteArray := ⟨#[102, 102, 32, 102, 105, 32, 102, 108, 32, 102, 102, 105, 32, 102, 102, 108, 32, 115, 116, 32, 115, 116]⟩
theorem ligFields : Lib.fields ligS.data.toList = [[102, 102], [102, 105], [102, 108], [102, 102, 105], [102, 102, 108], [115, 116], [115, 116]] := by decide +kernel
theorem ligAscii : ∀ (j : Nat) b, ligS.data.toList[j]? = some b → b.toNat < 128 := by
  intro j b h
  have : ∀ b ∈ ligS.data.toList, b.toNat < 128 := by decide +kernel
  exact this b (List.mem_of_getElem? h)
theorem lig_call (w : World) (hG : Gu w) : Calls Tryd.prog 99 #[.string ⟨#[102, 102, 32, 102, 105, 32, 102, 108, 32, 102, 102, 105, 32, 102, 102, 108, 32, 115, 116, 32, 115, 116]⟩] w fun e w' =>
    e = .returned (.slice (some ⟨w.heap.size, 0, none⟩) 7 7) ∧ w' = w.alloc (.cells #[.string ⟨#[102, 102]⟩, .string ⟨#[102, 105]⟩, .string ⟨#[102, 108]⟩, .string ⟨#[102, 102, 105]⟩, .string ⟨#[102, 102, 108]⟩, .string ⟨#[115, 116]⟩, .string ⟨#[115, 116]⟩] 9) := by
  refine (Tryd.strings_Fields_laid ligS w (by decide) ligAscii hG.space).mono ?_
  rw [ligFields]
  rintro e w' ⟨rfl, rfl⟩
  exact ⟨rfl, rfl⟩

theorem ret_lig {l l' : List UInt8} {b b' : Bool} (h : l = l') (h' : b = b') : Ending.returned (.tuple #[.string ⟨l.toArray⟩, .bool b]) = .returned (.tuple #[.string ⟨l'.toArray⟩, .bool b']) := by rw [h, h']
set_option maxHeartbeats 8000000 in
set_option maxRecDepth 100000 in
theorem fold_ligature (r : Int) (w : World) (hG : Gu w) : Calls Tryd.prog 78 #[.int .i32 r] w fun e w' => e = .returned (.tuple #[.string ⟨(ligB r).toArray⟩, .bool (!(ligB r).isEmpty)]) ∧ Below w.heap.size w w' := by
  by_cases h1 : r = 198 ∨ r = 230 ∨ r = 338 ∨ r = 339 ∨ r = 223 ∨ r = 383 ∨ r = 306 ∨ r = 307
  · rcases h1 with h | h | h | h | h | h | h | h
    all_goals
      subst h
      go_enter Tryd.func78, Tryd.ntmps78
      go_wp2
      go_ret2
      exact ⟨ret_lig (by decide) (by decide), Below.refl _ _⟩
  by_cases h2 : r = 64256 ∨ r = 64257 ∨ r = 64258 ∨ r = 64259 ∨ r = 64260 ∨ r = 64261 ∨ r = 64262
  · rcases h2 with h | h | h | h | h | h | h
    all_goals
      subst h
      clear h1
      go_enter Tryd.func78, Tryd.ntmps78
      go_wp2_with (go_at_call 99; refine (lig_call _ hG).mono ?_; rintro e w' ⟨rfl, rfl⟩)
      go_ret2
      exact ⟨ret_lig (by decide) (by decide), (Below.refl _ w).alloc (Nat.le_refl _) _⟩
  have e1 : (r == 198) = false := by simp; omega
  have e2 : (r == 230) = false := by simp; omega
  have e3 : (r == 338) = false := by simp; omega
  have e4 : (r == 339) = false := by simp; omega
  have e5 : (r == 223) = false := by simp; omega
  have e6 : (r == 383) = false := by simp; omega
  have e7 : (r == 306) = false := by simp; omega
  have e8 : (r == 307) = false := by simp; omega
  have hl : ligB r = [] := by
    unfold ligB
    repeat rw [if_neg (by omega)]
  have hr : r < 64256 ∨ 64262 < r := by omega
  have HL := Lib.hid hl
  clear hl h1 h2
  rcases hr with hr | hr
  all_goals
    go_enter Tryd.func78, Tryd.ntmps78
    go_wp2
    go_ret2
    exact ⟨ret_lig HL.out.symm (by rw [HL.out]; rfl), Below.refl _ _⟩

/-! ### the steps of a sum -/
def stepsOf (opt : Int) : List Nat := (if opt % 2 = 1 then [71] else []) ++ (if opt / 2 % 2 = 1 then [72] else []) ++ (if opt / 8 % 2 = 1 then [73] else [])
abbrev fv (f : Nat) : Value := .func (.func f) #[] #[]
theorem info82 : (Tryd.prog.info? 82).map (fun i => (i.zero, i.size, i.bytes)) = some (some .nilFunc, 1, 8) := by kernel_rfl

set_option maxHeartbeats 4000000 in
set_option maxRecDepth 100000 in
theorem put_no (g gl f : Nat) (opt bit : Int) (w : World) (hb : (Go.bits .and .i64 opt bit != 0) = false) (hg : w.cell? ⟨g, 0, none⟩ = some (.int .i64 opt)) :
    Calls Tryd.prog 70 #[.int .i64 bit, fv f, .pointer (some ⟨g, 0, none⟩), .pointer (some ⟨gl, 0, none⟩)] w fun e w' => e = .returned (.tuple #[]) ∧ w' = w := by
  go_enter Tryd.func70, Tryd.ntmps70
  go_wp2
  go_end0
  exact ⟨rfl, rfl⟩
set_option maxHeartbeats 4000000 in
set_option maxRecDepth 100000 in
theorem put_yes (B g gl f : Nat) (opt bit : Int) (v : Value) (xs : List Value) (w : World) (hb : (Go.bits .and .i64 opt bit != 0) = true) (hg : w.heap[g]? = some (.cells #[.int .i64 opt] 3 (0, 0))) (hl : w.heap[gl]? = some (.cells #[v] 73 (0, 0)))
    (hown : w.ownsRow B 82 1 v xs.length xs) (hBl : B ≤ gl) (hBw : B ≤ w.heap.size) (hn : xs.length ≤ 10) :
    Calls Tryd.prog 70 #[.int .i64 bit, fv f, .pointer (some ⟨g, 0, none⟩), .pointer (some ⟨gl, 0, none⟩)] w fun e w' => ∃ v', e = .returned (.tuple #[]) ∧ w'.heap[g]? = some (.cells #[.int .i64 opt] 3 (0, 0)) ∧ w'.heap[gl]? = some (.cells #[v'] 73 (0, 0)) ∧ w'.ownsRow B 82 1 v' (xs ++ [fv f]).length (xs ++ [fv f]) ∧ Below B w w' := by
  obtain ⟨i0, hi, hz0, hz1, hz2⟩ := info_parts info82
  have cg : w.cell? ⟨g, 0, none⟩ = some (.int .i64 opt) := by rw [Lib.cell_of_heap hg]; rfl
  have cl : w.cell? ⟨gl, 0, none⟩ = some v := by rw [Lib.cell_of_heap hl]; rfl
  have ggl : g ≠ gl := by
    intro e
    rw [e, hl] at hg
    injection hg with hg
    injection hg with _ hg
    revert hg; decide
  have hlg : g < w.heap.size := (Array.getElem?_eq_some_iff.1 hg).1
  have hll : gl < w.heap.size := (Array.getElem?_eq_some_iff.1 hl).1
  have ng : some g ≠ v.ownBlock := by
    intro e
    obtain ⟨cs, hc⟩ := own_typed hown g e.symm
    rw [hg] at hc
    injection hc with hc
    injection hc with _ hc
    revert hc; decide
  have nl : some gl ≠ v.ownBlock := by
    intro e
    obtain ⟨cs, hc⟩ := own_typed hown gl e.symm
    rw [hl] at hc
    injection hc with hc
    injection hc with _ hc
    revert hc; decide
  have hbase := own_base hown
  go_enter Tryd.func70, Tryd.ntmps70
  go_wp2_with (at_builtin; refine wpList_append_own _ rfl _ _ 73 rfl B 82 i0 .nilFunc 1 8 Tryd.underlying73 hi hz0 hz1 hz2 rfl (by decide) _ _ _ rfl (hown.alloc _) ⟨w.heap.size, 0, none⟩ 1 1 [fv f] rfl rfl ?c1 ?c2 ?c3 ?c4 ?c5 ?_)
  case c1 => exact cell_one_new _ _ _
  case c2 => intro u hu; simp at hu; subst hu; rfl
  case c3 => unfold maxLen; omega
  case c4 => omega
  case c5 => simp; omega
  intro v' w1 hown' hgrow _
  have hg1 : w1.heap[g]? = some (.cells #[.int .i64 opt] 3 (0, 0)) := (hgrow.block g (by simp; omega) ng).trans ((Lib.alloc_old _ _ _ hlg).trans hg)
  have hl1 : w1.heap[gl]? = some (.cells #[v] 73 (0, 0)) := (hgrow.block gl (by simp; omega) nl).trans ((Lib.alloc_old _ _ _ hll).trans hl)
  have d1 : w1.cell? ⟨gl, 0, none⟩ = some v := by rw [Lib.cell_of_heap hl1]; rfl
  have f1 : w1.frozen? ⟨gl, 0, none⟩ = false := Lib.frozen_of_heap hl1 0
  have hB1 : Below B w w1 := ((Below.refl B w).alloc hBw _).grown hgrow (by simp; omega) hbase
  obtain ⟨ao, n', cap, rfl⟩ : ∃ ao n' cap, v' = .slice ao n' cap := by
    rcases hown'.2 with ⟨hv, _⟩ | ⟨g, cap, cur, hv, _⟩
    · exact ⟨_, _, _, hv⟩
    · exact ⟨_, _, _, hv⟩
  go_wp2
  go_end0
  have hset : ∀ k, k ≠ gl → (w1.setCell ⟨gl, 0, none⟩ (.slice ao n' cap)).heap[k]? = w1.heap[k]? := fun k hk => Below.heap_setCell _ _ _ _ hk
  have nl' : some gl ≠ (Value.slice ao n' cap).ownBlock := by
    intro e
    obtain ⟨cs, hc⟩ := own_typed hown' gl e.symm
    rw [hl1] at hc
    injection hc with hc
    injection hc with _ hc
    revert hc; decide
  refine ⟨.slice ao n' cap, rfl, (hset g ggl).trans hg1, ?_, ?_, hB1.setCell (p := ⟨gl, 0, none⟩) hBl _⟩
  · exact one_setCell hl1
  · rw [List.length_append, List.length_singleton]
    exact own_move hown' (fun k hk => hset k (fun e => nl' (by rw [← e]; exact hk.symm)))

/-- The sums' bits. -/
theorem optBits : ∀ o : Fin 32, (Go.bits .and .i64 (o.val : Int) 1 != 0) = decide ((o.val : Int) % 2 = 1) ∧ (Go.bits .and .i64 (o.val : Int) 2 != 0) = decide ((o.val : Int) / 2 % 2 = 1) ∧ (Go.bits .and .i64 (o.val : Int) 4 != 0) = decide ((o.val : Int) / 4 % 2 = 1) ∧ (Go.bits .and .i64 (o.val : Int) 8 != 0) = decide ((o.val : Int) / 8 % 2 = 1) ∧ (Go.bits .and .i64 (o.val : Int) 16 != 0) = decide ((o.val : Int) / 16 % 2 = 1) := by decide +kernel
theorem optBit (opt : Int) (h0 : 0 ≤ opt) (h1 : opt ≤ 31) : (Go.bits .and .i64 opt 1 != 0) = decide (opt % 2 = 1) ∧ (Go.bits .and .i64 opt 2 != 0) = decide (opt / 2 % 2 = 1) ∧ (Go.bits .and .i64 opt 4 != 0) = decide (opt / 4 % 2 = 1) ∧ (Go.bits .and .i64 opt 8 != 0) = decide (opt / 8 % 2 = 1) ∧ (Go.bits .and .i64 opt 16 != 0) = decide (opt / 16 % 2 = 1) := by
  obtain ⟨n, rfl⟩ := Int.eq_ofNat_of_zero_le h0
  exact optBits ⟨n, by omega⟩

/-- A world between two steps: the two captured variables, and what was gathered. -/
structure Gath (B g gl : Nat) (opt : Int) (xs : List Value) (w : World) : Prop where
  hg : w.heap[g]? = some (.cells #[.int .i64 opt] 3 (0, 0))
  hl : ∃ v, w.heap[gl]? = some (.cells #[v] 73 (0, 0)) ∧ w.ownsRow B 82 1 v xs.length xs
/-- Gathered or not. -/
def sel (b : Bool) (f : Nat) : List Value := if b = true then [fv f] else []
theorem sel_le (b : Bool) (f : Nat) : (sel b f).length ≤ 1 := by cases b <;> simp [sel]
theorem put_any (B g gl f : Nat) (opt bit : Int) (b : Bool) (xs : List Value) (w : World) (hb : (Go.bits .and .i64 opt bit != 0) = b) (h : Gath B g gl opt xs w) (hBl : B ≤ gl) (hBw : B ≤ w.heap.size) (hn : xs.length ≤ 10) :
    Calls Tryd.prog 70 #[.int .i64 bit, fv f, .pointer (some ⟨g, 0, none⟩), .pointer (some ⟨gl, 0, none⟩)] w fun e w' => e = .returned (.tuple #[]) ∧ Gath B g gl opt (xs ++ sel b f) w' ∧ Below B w w' := by
  obtain ⟨hg, v, hl, hown⟩ := h
  cases b with
  | false =>
    refine (put_no g gl f opt bit w hb (by rw [Lib.cell_of_heap hg]; rfl)).mono ?_
    rintro e w' ⟨rfl, rfl⟩
    exact ⟨rfl, by simp [sel]; exact ⟨hg, v, hl, hown⟩, Below.refl _ _⟩
  | true =>
    refine (put_yes B g gl f opt bit v xs w hb hg hl hown hBl hBw hn).mono ?_
    rintro e w' ⟨v', rfl, h1, h2, h3, h4⟩
    exact ⟨rfl, by simp [sel]; exact ⟨h1, v', h2, by simpa using h3⟩, h4⟩

set_option maxHeartbeats 4000000 in
set_option maxRecDepth 100000 in
theorem fold_steps (opt : Int) (w : World) (h0 : 0 ≤ opt) (h1 : opt ≤ 31) :
    Calls Tryd.prog 39 #[.int .i64 opt] w fun e w' => ∃ v, e = .returned v ∧ w'.ownsRow w.heap.size 82 1 v ((stepsOf opt).map fv).length ((stepsOf opt).map fv) ∧ Below w.heap.size w w' := by
  obtain ⟨b1, b2, _, b8, _⟩ := optBit opt h0 h1
  have hmf : ∀ (fn : Fn) (first cap : Array Value) (w : World), (Instr.makeFunc fn first cap).run Tryd.prog w = .ok (.func fn first cap) w := fun _ _ _ _ => rfl
  have G0 : Gath w.heap.size w.heap.size (w.heap.size + 1) opt [] ((w.alloc (.cells #[.int .i64 opt] 3)).alloc (.cells #[.slice none 0 0] 73)) := by
    refine ⟨?_, .slice none 0 0, ?_, own_nil _ _ _ _⟩
    · rw [Lib.alloc_old _ _ _ (by simp)]; exact heap_alloc_new w _
    · have := heap_alloc_new (w.alloc (.cells #[.int .i64 opt] 3)) (.cells #[.slice none 0 0] 73)
      simpa using this
  have B0 : Below w.heap.size w ((w.alloc (.cells #[.int .i64 opt] 3)).alloc (.cells #[.slice none 0 0] 73)) := ((Below.refl _ w).alloc (Nat.le_refl _) _).alloc (by simp) _
  have C1 := put_any w.heap.size w.heap.size (w.heap.size + 1) 71 opt 1 _ [] _ b1 G0 (by omega) B0.size (by simp)
  clear h0 h1
  have HB2 := Lib.hid b2
  have HB8 := Lib.hid b8
  have HB0 := Lib.hid B0
  clear b1 b2 b8 B0 G0
  go_enter Tryd.func39, Tryd.ntmps39
  go_wp2_with (go_at_call 70; refine C1.mono ?_)
  clear C1
  rintro e w1 ⟨rfl, G1, B1⟩
  have C2 := put_any w.heap.size w.heap.size (w.heap.size + 1) 72 opt 2 _ _ _ HB2.out G1 (by omega) (Nat.le_trans HB0.out.size B1.size) (by have := sel_le (decide (opt % 2 = 1)) 71; simp; omega)
  have HG1 := Lib.hid G1
  clear G1
  go_wp2_with (go_at_call 70; refine C2.mono ?_)
  clear C2
  rintro e w2 ⟨rfl, G2, B2⟩
  have C3 := put_any w.heap.size w.heap.size (w.heap.size + 1) 73 opt 8 _ _ _ HB8.out G2 (by omega) (Nat.le_trans HB0.out.size (Nat.le_trans B1.size B2.size)) (by have := sel_le (decide (opt % 2 = 1)) 71; have := sel_le (decide (opt / 2 % 2 = 1)) 72; simp; omega)
  clear G2
  go_wp2_with (go_at_call 70; refine C3.mono ?_)
  clear C3
  rintro e w3 ⟨rfl, G3, B3⟩
  obtain ⟨_, v, hl, hown⟩ := G3
  have d1 : w3.cell? ⟨w.heap.size + 1, 0, none⟩ = some v := by rw [Lib.cell_of_heap hl]; rfl
  go_wp2
  go_ret
  refine ⟨_, rfl, ?_, ((HB0.out.trans B1).trans B2).trans B3⟩
  have e : (stepsOf opt).map fv = (([] ++ sel (decide (opt % 2 = 1)) 71) ++ sel (decide (opt / 2 % 2 = 1)) 72) ++ sel (decide (opt / 8 % 2 = 1)) 73 := by
    unfold stepsOf sel
    simp only [decide_eq_true_eq, List.map_append, List.nil_append]
    repeat' split
    all_goals rfl
  rw [e]
  exact hown
end Go.Proofs.YtblpiceallbfjaaDoor.Pr
