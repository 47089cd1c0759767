/- Texts of this claim, one behind the other, of each what the row uses: PureSplit, Opens, OpensWord, PureSplitRow, RowSplitJoins. -/
import Derived.Test.YtblpiceallbfjaaDoorCt0711
import Derived.Test.YtblpiceallbfjaaDoorRows
import Derived.Test.YtblpiceallbfjaaDoorCt072
import Derived.Deep.Slices
import Derived.Deep.Fields
import Derived.ChangeSame
import Derived.Test.YtblpiceallbfjaaDoorCt075
import Derived.Test.YtblpiceallbfjaaDoorCards
import Derived.Test.YtblpiceallbfjaaDoorTie
/- SplitJoins, the plain law: Join, Right and Keys are the document's at every list. -/
set_option linter.unusedVariables false
set_option linter.unusedSimpArgs false
namespace Go.Proofs.YtblpiceallbfjaaDoor.Pr
open Go.RowKit Go.Proofs.YtblpiceallbfjaaDoorW.PrintWords
def keyOfW (opt : Int) (w : S87) : ByteArray := ⟨(textB opt (cells w.f0)).toArray⟩
theorem fold_good (s : ByteArray) (opt : Int) (h0 : 0 ≤ opt) (h1 : opt ≤ 31) (hs : s.size ≤ 1048576) : fold_Text.f s opt = some (⟨(textB opt (cells s)).toArray⟩, 0) := by
  unfold fold_Text.f
  rw [if_neg (by omega), if_neg (by omega), if_pos (by omega)]
theorem fold_bad (s : ByteArray) (opt : Int) (h : opt < 0 ∨ 31 < opt) : fold_Text.f s opt = some (⟨#[]⟩, 2) := by
  unfold fold_Text.f
  by_cases h0 : opt < 0
  · rw [if_pos h0]
  · rw [if_neg h0, if_pos (by omega)]
theorem prog_keys_l0 (opt : Int) (h0 : 0 ≤ opt) (h1 : opt ≤ 31) (l : List S87) (hl : l.length ≤ 1048576) (hs : ∀ w ∈ l, w.f0.size ≤ 1048576) : ∀ (d i k : Nat), i + d = l.length → d < k →
    split_Keys.l0 k opt ((l.take i).map (keyOfW opt)) l (l.length : Int) (i : Int) = some (l.map (keyOfW opt), 0) := by
  intro d
  induction d with
  | zero =>
    intro i k h hk
    obtain ⟨k, rfl⟩ : ∃ k', k = k' + 1 := ⟨k - 1, by omega⟩
    simp only [split_Keys.l0]
    rw [if_neg (by omega), List.take_of_length_le (by omega)]
  | succ d ih =>
    intro i k h hk
    obtain ⟨k, rfl⟩ : ∃ k', k = k' + 1 := ⟨k - 1, by omega⟩
    have hi : i < l.length := by omega
    simp only [split_Keys.l0]
    rw [if_pos (by omega), if_pos (by omega), if_pos (by omega), rd_word l i hi, fold_good _ opt h0 h1 (hs _ (List.getElem_mem hi))]
    simp only [Option.bind_some]
    rw [if_pos (by simp; omega), show wrap64 ((i : Int) + 1) = ((i + 1 : Nat) : Int) by unfold wrap64; omega]
    have e : (l.take i).map (keyOfW opt) ++ [⟨(textB opt (cells l[i].f0)).toArray⟩] = (l.take (i + 1)).map (keyOfW opt) := by
      rw [List.take_succ_eq_append_getElem hi, List.map_append]
      rfl
    rw [e]
    exact ih (i + 1) k (by omega) (by omega)
theorem ref_keys_l0 (opt : Int) (h0 : 0 ≤ opt) (h1 : opt ≤ 31) (l : List S87) (hl : l.length ≤ 1048576) (B : Nat) (hB : B ≤ 1048576) (hs : ∀ w ∈ l, w.f0.size ≤ B) : ∀ (d i k : Nat), i + d = l.length → d + B + 1301 ≤ k →
    siglumref07_Keys.l0 k l opt ((l.take i).map (keyOfW opt)) (i : Int) = some (l.map (keyOfW opt), 0) := by
  intro d
  induction d with
  | zero =>
    intro i k h hk
    obtain ⟨k, rfl⟩ : ∃ k', k = k' + 1 := ⟨k - 1, by omega⟩
    simp only [siglumref07_Keys.l0]
    rw [if_neg (by omega), List.take_of_length_le (by omega)]
  | succ d ih =>
    intro i k h hk
    obtain ⟨k, rfl⟩ : ∃ k', k = k' + 1 := ⟨k - 1, by omega⟩
    have hi : i < l.length := by omega
    have hz := hs _ (List.getElem_mem hi)
    simp only [siglumref07_Keys.l0]
    rw [if_pos (by omega), if_pos (by omega), rd_word l i hi, text_ref _ (by omega) opt h0 h1 k (by omega)]
    simp only [Option.bind_some]
    rw [if_pos (by simp; omega), show wrap64 ((i : Int) + 1) = ((i + 1 : Nat) : Int) by unfold wrap64; omega]
    have e : (l.take i).map (keyOfW opt) ++ [⟨(textB opt (cells l[i].f0)).toArray⟩] = (l.take (i + 1)).map (keyOfW opt) := by
      rw [List.take_succ_eq_append_getElem hi, List.map_append]
      rfl
    rw [e]
    exact ih (i + 1) k (by omega) (by omega)
theorem keys_same (l : List S87) (opt : Int) (hl : l.length ≤ 1048576) (B : Nat) (hB : B ≤ 1048576) (hs : ∀ w ∈ l, w.f0.size ≤ B) (k : Nat) (hk : l.length + B + 1310 ≤ k) : ∃ r, split_Keys.f k l opt = some r ∧ siglumref07_Keys.f k l opt = some r ∧ r.1.length ≤ l.length := by
  obtain ⟨k', hk'⟩ : ∃ k', k = k' + 1 := ⟨k - 1, by omega⟩
  unfold split_Keys.f siglumref07_Keys.f
  by_cases h : opt < 0 ∨ 31 < opt
  · refine ⟨([], 2), ?_, ?_, by simp⟩
    · rw [fold_bad _ opt h]
      rfl
    · have e : siglumref07_Keys.j0 k l opt true = some ([], 2) := by
        rw [hk']
        simp only [siglumref07_Keys.j0]
        rw [if_pos trivial]
      by_cases h0 : opt < 0
      · rw [if_pos h0]; exact e
      · rw [if_neg h0, show decide (opt > 31) = true by simp; omega]; exact e
  · have h0 : 0 ≤ opt := by omega
    have h1 : opt ≤ 31 := by omega
    refine ⟨(l.map (keyOfW opt), 0), ?_, ?_, by simp⟩
    · rw [fold_good _ opt h0 h1 (by decide)]
      simp only [Option.bind_some, if_true]
      exact prog_keys_l0 opt h0 h1 l hl (fun w hw => by have := hs w hw; omega) l.length 0 k (by omega) (by omega)
    · rw [if_neg (by omega), show decide (opt > 31) = false by simp; omega, hk']
      simp only [siglumref07_Keys.j0]
      rw [if_neg (by simp)]
      exact ref_keys_l0 opt h0 h1 l hl B hB hs l.length 0 k' (by omega) (by omega)
theorem keys_l0 (L : List ByteArray) (hL : L.length ≤ 2000000) : ∀ (d i k : Nat), i + d = L.length → d < k → siglumlaw07_SplitJoins.l0 k L L (L.length : Int) (i : Int) = some true := by
  intro d
  induction d with
  | zero =>
    intro i k h hk
    obtain ⟨k, rfl⟩ : ∃ k', k = k' + 1 := ⟨k - 1, by omega⟩
    simp only [siglumlaw07_SplitJoins.l0]
    rw [if_neg (by omega)]
  | succ d ih =>
    intro i k h hk
    obtain ⟨k, rfl⟩ : ∃ k', k = k' + 1 := ⟨k - 1, by omega⟩
    simp only [siglumlaw07_SplitJoins.l0]
    rw [if_pos (by omega), if_pos (by omega), if_pos (by omega), if_pos (by omega), if_pos trivial, show wrap64 ((i : Int) + 1) = ((i + 1 : Nat) : Int) by unfold wrap64; omega]
    exact ih (i + 1) k (by omega) (by omega)
theorem awake07_words : wordsR ⟨#[45, 97, 32, 98]⟩ = (⟨#[45]⟩, [⟨⟨#[97]⟩, ⟨#[32]⟩⟩, ⟨⟨#[98]⟩, ⟨#[]⟩⟩], 0) := by
  rfl
theorem awake07 (k : Nat) (hk : 100 ≤ k) : siglumlaw07_awake.f k = some true := by
  unfold siglumlaw07_awake.f
  rw [prog_Words _ k (by simp only [ByteArray.size]; simp; omega), awake07_words]
  decide +kernel
theorem word_le_join (h : ByteArray) (l : List S87) (w : S87) (hw : w ∈ l) : w.f0.size ≤ (joinB h l).length := by
  obtain ⟨i, hi, rfl⟩ := List.getElem_of_mem hw
  have := joinB_len h l i hi
  omega
theorem splitJoins_pure (h : ByteArray) (l : List S87) (opt : Int) (hb : (joinB h l).length ≤ 1048576) (hl : l.length ≤ 1048576) : ∃ k, siglumlaw07_SplitJoins.f k h l opt = some true := by
  refine ⟨2 * (joinB h l).length + l.length + 4000, ?_⟩
  unfold siglumlaw07_SplitJoins.f
  rw [awake07 _ (by omega)]
  simp only [Option.bind_some, if_true]
  have e1 : split_Join.f h l = some (joinS h l) := by unfold split_Join.f; rw [if_pos ⟨by omega, by omega⟩]; rfl
  have e2 : siglumref07_Join.f h l = some (joinS h l) := by unfold siglumref07_Join.f; rw [if_pos ⟨by omega, by omega⟩]; rfl
  rw [e1, e2]
  simp only [Option.bind_some, if_true]
  obtain ⟨b, r1, r2⟩ := prog_right h l (by omega) (by omega) (2 * (joinB h l).length + l.length + 4000) (by omega)
  obtain ⟨b', r3, r4⟩ := ref_right h l (by omega) (by omega) (2 * (joinB h l).length + l.length + 4000) (by omega)
  obtain rfl : b = b' := by
    rw [Bool.eq_iff_iff, r2, r4]
  rw [r1, r3]
  simp only [Option.bind_some, bne_self_eq_false]
  generalize hK : 2 * (joinB h l).length + l.length + 4000 = K
  obtain ⟨k, rfl⟩ : ∃ k', K = k' + 1 := ⟨K - 1, by omega⟩
  simp only [siglumlaw07_SplitJoins.j0]
  rw [if_neg (by simp)]
  obtain ⟨r, k1, k2, k3⟩ := keys_same l opt hl (joinB h l).length (by omega) (fun w hw => word_le_join h l w hw) k (by omega)
  rw [k1, k2]
  simp only [Option.bind_some, if_true, bne_self_eq_false]
  obtain ⟨k, rfl⟩ : ∃ k', k = k' + 1 := ⟨k - 1, by omega⟩
  simp only [siglumlaw07_SplitJoins.j1]
  rw [if_neg (by simp)]
  exact keys_l0 r.1 (by omega) r.1.length 0 k (by omega) (by omega)
end Go.Proofs.YtblpiceallbfjaaDoor.Pr
/- Arguments with depth, opened: a datum that reads at a type is a value of its kind, and its bulk bounds the value's size. -/
set_option linter.unusedVariables false
namespace Go.Proofs.YtblpiceallbfjaaDoor.Opens
open Go.ChangeShapes Go.WideShapes Go.Deep Go.RowKit Go.Proofs.YtblpiceallbfjaaDoorW.PrintWords
theorem bulk_pos {H : Type} (d : DataW H) : 1 ≤ Rows.uptoBulk d := by
  cases d with
  | lit l => cases l <;> simp [Rows.uptoBulk]
  | nil => simp [Rows.uptoBulk]
  | ptr d => simp [Rows.uptoBulk]
  | slice elems spare => simp [Rows.uptoBulk]
  | agg parts => simp [Rows.uptoBulk]
  | iface t d => simp [Rows.uptoBulk]
  | map entries => simp [Rows.uptoBulk]
  | held h => simp [Rows.uptoBulk]
theorem bulkAll_ge {H : Type} {α : Type} (mu : α → Nat) : ∀ (l : List α) (ds : List (DataW H)), l.length = ds.length → (∀ (i : Nat) x d, l[i]? = some x → ds[i]? = some d → mu x ≤ Rows.uptoBulk d) → (l.map mu).sum ≤ Rows.uptoBulkAll ds := by
  intro l
  induction l with
  | nil => intro ds _ _; simp
  | cons x l ih =>
    intro ds hl h
    cases ds with
    | nil => simp at hl
    | cons d ds =>
      have h0 := h 0 x d rfl rfl
      have h1 := ih ds (by simpa using hl) (fun i y e hy he => h (i + 1) y e (by simpa using hy) (by simpa using he))
      simp only [List.map_cons, List.sum_cons, Rows.uptoBulkAll]
      omega
section
variable {H : Type} {enc : TypeId × Value → H} {P : Program} {W : World}
/-- What reads at type e is an x of kind d, of bulk mu x at least. -/
def Opens {α : Type} (enc : TypeId × Value → H) (P : Program) (W : World) (e : TypeId) (d : Kd α) (mu : α → Nat) (wf : α → Prop) : Prop :=
  ∀ n cs z, DataW.trod enc P W 0 (fun _ => true) true n e cs = some z → ∃ x, d.K W x cs ∧ mu x ≤ Rows.uptoBulk z.1 ∧ wf x
theorem Opens.string {e : TypeId} (he : P.underlying e = some .string) : Opens enc P W e Kd.string (fun s => s.size + 1) (fun _ => True) := by
  intro n cs z h
  obtain ⟨s, rfl, rfl, hs⟩ := DataW.trod_string he h
  refine ⟨s, rfl, ?_, trivial⟩
  simp only [Rows.uptoBulk, Array.length_toList]
  exact Nat.le_refl _
theorem Opens.int {e : TypeId} {k : IntKind} (he : P.underlying e = some (.int k)) : Opens enc P W e (Kd.int k) (fun _ => 1) (fun x => (Lit.int k x).wf = true) := by
  intro n cs z h
  obtain ⟨s, rfl, rfl, hs⟩ := DataW.trod_int he h
  exact ⟨s, rfl, bulk_pos _, hs⟩
theorem Opens.bool {e : TypeId} (he : P.underlying e = some .bool) : Opens enc P W e Kd.bool (fun _ => 1) (fun _ => True) := by
  intro n cs z h
  obtain ⟨s, rfl, rfl⟩ := DataW.trod_bool he h
  exact ⟨s, rfl, bulk_pos _, trivial⟩
theorem Opens.slice {α : Type} {t e : TypeId} {d : Kd α} {mu : α → Nat} {wf : α → Prop} (ht : P.underlying t = some (.slice e)) (hC : P.cellsOf e = d.sz) (ho : Opens enc P W e d mu wf) :
    Opens enc P W t (Kd.slice e d) (fun l => (l.map mu).sum + 1) (fun l => ∀ x ∈ l, wf x) := by
  intro n cs z h
  rcases open_slice ht h with ⟨rfl, rfl⟩ | ⟨a, len, cap, m, n', D, Pl, rfl, hb, hl, hm, hmm, rfl, hi⟩
  · exact ⟨[], ⟨none, 0, rfl, Nat.le_refl _, Kd.C_nil d W⟩, bulk_pos _, fun x hx => by cases hx⟩
  · have hmm2 : m = cap := by simpa using hmm
    have hx : ∀ i : Fin len, ∃ x, (∃ cs', W.cells? 0 (a.add (i.val * P.cellsOf e)) (P.cellsOf e) = some cs' ∧ d.K W x cs') ∧ mu x ≤ Rows.uptoBulk (D i.val) ∧ wf x := by
      intro i
      obtain ⟨cs', h1, h2⟩ := hi i.val (by have := i.2; omega)
      obtain ⟨x, h3, h4, h5⟩ := ho _ _ _ h2
      exact ⟨x, ⟨cs', h1, h3⟩, h4, h5⟩
    let l : List α := List.ofFn fun i : Fin len => Classical.choose (hx i)
    have hll : l.length = len := by simp [l]
    have hg : ∀ (i : Nat) x, l[i]? = some x → i < len ∧ (∃ cs', W.cells? 0 (a.add (i * P.cellsOf e)) (P.cellsOf e) = some cs' ∧ d.K W x cs') ∧ mu x ≤ Rows.uptoBulk (D i) ∧ wf x := by
      intro i x hix
      obtain ⟨h1, h2⟩ := List.getElem?_eq_some_iff.1 hix
      have h3 : i < len := by omega
      have h4 := Classical.choose_spec (hx ⟨i, h3⟩)
      have h5 : x = Classical.choose (hx ⟨i, h3⟩) := by
        rw [← h2]
        simp [l]
      rw [← h5] at h4
      exact ⟨h3, h4⟩
    refine ⟨l, ⟨some a, cap, by rw [hll], by omega, rfl, ?_, fun _ => ⟨a, rfl, fun j x hjx => ?_⟩⟩, ?_, fun x hxl => ?_⟩
    · unfold maxLen at hm
      omega
    · obtain ⟨h1, ⟨cs', h2, h3⟩, _⟩ := hg j x hjx
      rw [hC] at h2
      obtain ⟨_, h4, h5⟩ := World.cells?_some h2
      refine ⟨cs', h4, h3, fun i u hu => ?_⟩
      have hil : i < cs'.length := (List.getElem?_eq_some_iff.1 hu).1
      rw [← Go.Deep.add_add, h5 i (by omega)]
      exact hu
    · have hs := bulkAll_ge mu l ((List.range len).map D) (by rw [hll]; simp) (fun i x dd h1 h2 => by
        obtain ⟨h3, _, h4, _⟩ := hg i x h1
        rw [List.getElem?_map, List.getElem?_range h3] at h2
        simp only [Option.map_some, Option.some.injEq] at h2
        rw [← h2]
        exact h4)
      simp only [Rows.uptoBulk]
      omega
    · obtain ⟨i, hi2, rfl⟩ := List.getElem_of_mem hxl
      exact (hg i _ (List.getElem?_eq_getElem hi2)).2.2.2
theorem Opens.struct2 {α β : Type} {t : TypeId} {f0 f1 : Field} {d0 : Kd α} {d1 : Kd β} {mu0 : α → Nat} {mu1 : β → Nat} {wf0 : α → Prop} {wf1 : β → Prop} (hs : P.underlying t = some (.struct #[f0, f1])) (hone : oneCellFields P #[f0, f1] = true) (hC : P.cellsOf t = 2)
    (h0 : Opens enc P W f0.type d0 mu0 wf0) (h1 : Opens enc P W f1.type d1 mu1 wf1) : Opens enc P W t (Kd.pair d0 d1) (fun x => mu0 x.1 + mu1 x.2 + 1) (fun x => wf0 x.1 ∧ wf1 x.2) := by
  intro n cs z h
  obtain ⟨xs, n', _, rfl, hlen, hxl, hf⟩ := DataW.trod_struct hs h
  obtain ⟨o0, k0⟩ := hone_of hone 0 f0 rfl
  obtain ⟨o1, k1⟩ := hone_of hone 1 f1 rfl
  rw [hC] at hlen
  match cs, hlen, xs, hxl with
  | [c0, c1], _, [y0, y1], _ =>
    have g0 := hf 0 f0 rfl
    have g1 := hf 1 f1 rfl
    simp only [o0, k0, o1, k1] at g0 g1
    obtain ⟨x0, a0, b0, w0⟩ := h0 _ _ _ g0
    obtain ⟨x1, a1, b1, w1⟩ := h1 _ _ _ g1
    refine ⟨(x0, x1), ⟨[c0], [c1], rfl, a0, a1⟩, ?_, w0, w1⟩
    simp only [List.map_cons, List.map_nil, Rows.uptoBulk, Rows.uptoBulkAll]
    omega
theorem Opens.iso {α β : Type} {t : TypeId} {d : Kd α} {mu : α → Nat} {wf : α → Prop} (f : β → α) (g : α → β) (hfg : ∀ x, f (g x) = x) (h : Opens enc P W t d mu wf) : Opens enc P W t (Kd.iso d f) (fun x => mu (f x)) (fun x => wf (f x)) := by
  intro n cs z hz
  obtain ⟨x, h1, h2, h3⟩ := h n cs z hz
  refine ⟨g x, ?_, ?_, ?_⟩
  · show d.K W (f (g x)) cs
    rw [hfg]
    exact h1
  · show mu (f (g x)) ≤ _
    rw [hfg]; exact h2
  · show wf (f (g x))
    rw [hfg]; exact h3
/-- An argument that is a slice, opened. -/
theorem arg_slice {α : Type} {r : Reach} {b : Nat} {t e : TypeId} {d : Kd α} {mu : List α → Nat} {wf : List α → Prop} (ht : P.underlying t = some (.slice e)) (ho : Opens enc P W t (Kd.slice e d) mu wf) {v : Value} {dd : DataW H} {pp : List MemPlace}
    (hv : Value.okWide P W r b t v) (h : DataW.Trod enc P W 0 (fun _ => true) true t v dd pp) : ∃ (l : List α) (A : Option Addr) (c : Nat), v = .slice A l.length c ∧ l.length ≤ c ∧ d.C W A l.length l ∧ mu l ≤ Rows.uptoBulk dd ∧ wf l := by
  obtain ⟨A, n, c, rfl⟩ := okWide_slice ht hv
  obtain ⟨fuel, hf⟩ := h
  obtain ⟨l, ⟨A', c', e1, h1, h2⟩, h3, h4⟩ := ho _ _ _ hf
  simp only [Value.cells, List.cons.injEq, and_true, Value.slice.injEq] at e1
  obtain ⟨rfl, rfl, rfl⟩ := e1
  exact ⟨l, A, c, rfl, h1, h2, h3, h4⟩
end
end Go.Proofs.YtblpiceallbfjaaDoor.Opens
/- Words, opened. -/
namespace Go.Proofs.YtblpiceallbfjaaDoor.Opens
open Go.RowKit Go.Proofs.YtblpiceallbfjaaDoorW.PrintWords
section
variable {H : Type} {enc : TypeId × Value → H} {W : World}
def muWord (x : Pr.S87) : Nat := x.f0.size + 1 + (x.f1.size + 1) + 1
def muWords (l : List Pr.S87) : Nat := (l.map muWord).sum + 1
theorem opensWord : Opens enc Tryd.prog W 87 Pr.k87 muWord (fun _ => True ∧ True) :=
  Opens.iso (fun x : Pr.S87 => (x.f0, x.f1)) (fun p => ⟨p.1, p.2⟩) (fun _ => rfl) (Opens.struct2 Tryd.underlying87 (by kernel_rfl) (by kernel_rfl) (Opens.string Tryd.underlying9) (Opens.string Tryd.underlying9))
theorem opensWords : Opens enc Tryd.prog W 37 (Kd.slice 87 Pr.k87) muWords (fun l => ∀ x ∈ l, True ∧ True) := Opens.slice Tryd.underlying37 (by kernel_rfl) opensWord
end
end Go.Proofs.YtblpiceallbfjaaDoor.Opens
/- SplitJoins, the plain law, in the row's own bound. -/
namespace Go.Proofs.YtblpiceallbfjaaDoor.Pr
open Go.RowKit Go.Proofs.YtblpiceallbfjaaDoorW.PrintWords
theorem join_mu (h : ByteArray) (l : List S87) : (joinB h l).length ≤ h.size + (l.map Opens.muWord).sum ∧ l.length ≤ (l.map Opens.muWord).sum := by
  unfold joinB
  rw [List.length_append, data_length]
  induction l with
  | nil => simp
  | cons x l ih =>
    have hx := wordB_len x
    simp only [List.flatMap_cons, List.length_append, List.map_cons, List.sum_cons, List.length_cons, Opens.muWord] at ih ⊢
    omega
theorem splitJoins_row (h : ByteArray) (l : List S87) (opt : Int) (hJ : (h.size + 1) + Opens.muWords l + 1 ≤ 1048576) : ∃ k, siglumlaw07_SplitJoins.f k h l opt = some true := by
  obtain ⟨h1, h2⟩ := join_mu h l
  unfold Opens.muWords at hJ
  exact splitJoins_pure h l opt (by omega) (by omega)
end Go.Proofs.YtblpiceallbfjaaDoor.Pr
/- SplitJoins: Join, Right and Keys are the document's at every list: the given statement (second form's card), at every input of bulk at most 1048576, the listed variables as the program's text lays them. -/
set_option linter.unusedVariables false
namespace Go.Proofs.YtblpiceallbfjaaDoor.splitJoins
open Go.ChangeShapes Go.WideShapes Go.ChangeAt Go.RowKit
open Go.ChangeMaps (open_string shut_string)
open Go.Proofs.YtblpiceallbfjaaDoorW.PrintWords Go.Proofs.YtblpiceallbfjaaDoorW.PrintLast Go.Proofs.YtblpiceallbfjaaDoorW.PrintMore
theorem reads (os : Os) {H : Type} (enc : TypeId × Value → H) : ∃ places, DataW.whole enc Tryd.prog ((RowU.laidWorld os).forCall (fun _ _ => 0) ⟨#[], #[.string ⟨#[]⟩, .slice none 0 0, .int .i64 0], []⟩).memory Tryd.f6.params.toList Rows.splitJoinsSpec.vars false #[Value.string ⟨#[]⟩, .slice none 0 0, .int .i64 0].toList 8 = some ([.lit (.string []), .nil, .lit (.int .i64 0)], [], places) :=
  ⟨[], by kernel_rfl⟩
set_option maxRecDepth 100000 in
theorem liftedUpto (os : Os) (started : os.Started) (H : Type) (enc : TypeId × Value → H) (F : Stop.Interp) :
    ReturnsInHanded {} Tryd.checked os 6 .any ((Rows.OpenSpec.upto Rows.splitJoinsSpec).preRow enc Tryd.prog Tryd.f6 Rows.splitJoinsUptoRow.domain false Rows.splitJoinsUptoRow.laid) (((Rows.OpenSpec.upto Rows.splitJoinsSpec).at F).post enc Tryd.prog Tryd.f6 false true false false) := by
  obtain ⟨places, hx⟩ := reads os enc
  refine returnsInHanded_of_row (C := Tryd.checked) (s := Rows.OpenSpec.upto Rows.splitJoinsSpec) RowU.own started (by kernel_rfl) Tryd.func6
    (witness_row_atRef (enc := enc) (C := Tryd.checked) false (RowU.laidWorld os) #[.string ⟨#[]⟩, .slice none 0 0, .int .i64 0] rfl (by kernel_rfl) (by kernel_rfl) (by kernel_rfl)
      (OpenSpec.preRow_of_cond 8 hx (by kernel_rfl) (fun k hk => by cases hk; kernel_rfl) (by kernel_rfl) (RowU.laid_met os _))) ?_
  intro W base args ds gs before hval0 hW _ hcond hwt hL _ _
  have hval : ∀ (j : Nat) t v, Tryd.f6.params[j]? = some t → args[j]? = some v → Value.okWide Tryd.prog W .any base t v := hval0
  have hG : Pr.Gu W := RowU.gu hL
  have hk : Rows.uptoSmall H (ds ++ gs) = true := hcond _ rfl
  have hW' := hW
  obtain ⟨p, q, hA0, hV, rfl, hfz, hnd⟩ := hW
  have hA : DataW.TrodAll enc Tryd.prog W 0 (fun _ => true) true Tryd.f6.params.toList args.toList ds p := hA0
  rw [Tryd.params6] at hA hval
  obtain ⟨v0, vs0, d0, ds0, p0, q0, hargs, rfl, rfl, h0, r0⟩ := trodAll_cons hA
  obtain ⟨v1, vs1, d1, ds1, p1, q1, rfl, rfl, rfl, h1, r1⟩ := trodAll_cons r0
  obtain ⟨v2, vs2, d2, ds2, p2, q2, rfl, rfl, rfl, h2, r2⟩ := trodAll_cons r1
  obtain ⟨rfl, rfl, rfl⟩ := trodAll_nil r2
  obtain rfl : args = #[v0, v1, v2] := by cases args; simp_all
  obtain ⟨rfl, rfl⟩ := trodVars_none hV
  obtain ⟨a0, rfl, rfl, rfl, y0⟩ := open_string Tryd.underlying9 (hval 0 9 v0 rfl rfl) h0
  have k1 := h1
  have lt1 : ∀ x ∈ p1, x.block < W.heap.size := by obtain ⟨m, hm⟩ := k1; exact DataW.trod_lt m _ _ _ hm
  obtain ⟨l1, A1, c1, rfl, hc1, hr1, hm1, wf1⟩ := Opens.arg_slice Tryd.underlying37 Opens.opensWords (hval 1 37 v1 rfl rfl) h1
  obtain ⟨a2, rfl, rfl, rfl, w2⟩ := open_int Tryd.underlying3 (hval 2 3 v2 rfl rfl) h2
  clear hA0 hval0
  have hJ : (a0.size + 1) + Opens.muWords l1 + 1 ≤ 1048576 := by
    have h := of_decide_eq_true hk
    simp only [List.cons_append, List.nil_append, List.append_nil, Rows.uptoBulkAll, Rows.uptoBulk, Array.length_toList] at h
    have e0 : a0.data.size = a0.size := rfl
    omega
  obtain ⟨k, hf⟩ := Pr.splitJoins_row a0 l1 a2 hJ
  refine (Pr.siglumlaw07_SplitJoins.calls k a0 _ _ l1 a2 true W hr1 hc1 hG hf).mono fun e W' ⟨he, bel⟩ => ?_
  subst he
  exact ⟨_, rfl, _, _, _, [], _, [], hW', trodAll_mk1 (shut_bool Tryd.underlying4 _), (trodAll_cons_mk (shut_string Tryd.underlying9 y0) (trodAll_cons_mk (Below.trod RowU.laidOut (by kernel_rfl) (of_decide_eq_true (by kernel_rfl)) k1 bel lt1) (trodAll_cons_mk (shut_int Tryd.underlying3 w2) trodAll_mk0))), rfl, bel.frame _, fun h => by cases h⟩
theorem saidUpto : Rows.SplitJoinsUptoSaid :=
  OpenClaim.holds_of_cond 6 Tryd.f6 rfl rfl rfl rfl rfl rfl rfl ⟨rfl, rfl, rfl, rfl, rfl⟩ rfl rfl rfl rfl rfl (by kernel_rfl) Tryd.func6 (by kernel_rfl)
    (of_decide_eq_true (by kernel_rfl)) (by unfold Func.isWrapper; first | (rw [if_pos (by decide +kernel)]; kernel_rfl) | (rw [if_neg (by decide +kernel)]; exact ⟨rfl, rfl⟩))
    (fun os started H enc _ F => by rw [OpenClaim.pre_eq_preRow]; exact liftedUpto os started H enc F)
theorem plain (f : FuncId) (fn : Func) (hf : Tryd.pinned.checked.prog.funcNamed "siglum/siglumlaw07.SplitJoins" = some f) (hfn : Tryd.pinned.checked.prog.funcs[f]? = some fn) :
    true = Tryd.pinned.checked.prog.looks [] ∧ ∀ (j : Nat) t, fn.params[j]? = some t → Tryd.pinned.checked.prog.wantsStandIn t = false := by
  obtain rfl : f = 6 := Option.some.inj ((show Tryd.prog.funcNamed "siglum/siglumlaw07.SplitJoins" = some 6 by kernel_rfl).symm.trans hf) |>.symm
  obtain rfl : fn = Tryd.f6 := (Option.some.inj (Tryd.func6.symm.trans hfn)).symm
  refine ⟨by kernel_rfl, fun j t ht => ?_⟩
  rw [Tryd.params6] at ht
  match j, ht with
  | 0, ht => obtain rfl := Option.some.inj ht; exact (show Tryd.prog.wantsStandIn 9 = false by kernel_rfl)
  | 1, ht => obtain rfl := Option.some.inj ht; exact (show Tryd.prog.wantsStandIn 37 = false by kernel_rfl)
  | 2, ht => obtain rfl := Option.some.inj ht; exact (show Tryd.prog.wantsStandIn 3 = false by kernel_rfl)
  | j + 3, ht => simp at ht
theorem card : Rows.SplitJoinsUptoCardSaid :=
  Claim7.holds_tied_plain_at .later [] _ _ _ _ saidUpto (fun _ h => by cases h) (by kernel_rfl) (fun _ h => by cases h) splitJoinsUpto_row_tie rfl ⟨rfl, rfl⟩ (by kernel_rfl) rfl plain (by kernel_rfl)
end Go.Proofs.YtblpiceallbfjaaDoor.splitJoins
namespace Go.Proofs.YtblpiceallbfjaaDoor
theorem splitJoins_holds : Rows.SplitJoinsUptoCardSaid := splitJoins.card
#print axioms splitJoins_holds
end Go.Proofs.YtblpiceallbfjaaDoor
