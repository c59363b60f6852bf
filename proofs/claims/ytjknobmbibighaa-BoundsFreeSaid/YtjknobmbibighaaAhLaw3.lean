/- Free lists every tuple of the upper bounds that is not in the lower bounds once and in order; two choices yield the same relations only if they agree. No conditions. -/
import Derived.Test.YtjknobmbibighaaAhK20
import Derived.Test.YtjknobmbibighaaAhK16
import Derived.Test.YtjknobmbibighaaAbL2
import Derived.WalkKit
import Derived.ProofKit
import Derived.OpenShut
import Derived.ChangeOld
import Derived.Below
set_option linter.unusedSimpArgs false
set_option linter.unusedVariables false
namespace Go.Proofs.Ytjknobmbibighaa.Law3
open Go Go.Ab Go.ChangeShapes Go.WideShapes Go.ChangeAt Go.RowKit
set_option linter.unusedVariables false
theorem own : ownKnob Try.prog.godebug = none := by kernel_rfl
theorem laidOut : laidOutB Try.prog = true := by kernel_rfl
theorem rdInts : Rd Try.prog 28 (fun l : List Int => [ints l]) (fun _ => True) :=
  Rd.map (Rd.slice (e := 3) (k := 1) (by' := 8) Try.underlying28 (by kernel_rfl) (by decide) (by kernel_rfl) (by decide) (fun _ => rfl) (Rd.int Try.underlying3)) id (fun _ => rfl) (fun _ _ => trivial)
theorem rdU8s : Rd Try.prog 70 (fun l : List Int => encUs l) (fun l => ∀ x ∈ l, 0 ≤ x ∧ x ≤ 255) :=
  Rd.map (Rd.slice (e := 5) (k := 1) (by' := 1) Try.underlying70 (by kernel_rfl) (by decide) (by kernel_rfl) (by decide) (fun _ => rfl) (Rd.int Try.underlying5)) id (fun _ => rfl) (fun _ h x hx => wf_u8 (h.2 x hx))
theorem rdRaws : Rd Try.prog 32 (fun l : List (List Int) => [raws l]) (fun l => ∀ r ∈ l, ∀ x ∈ r, 0 ≤ x ∧ x ≤ 255) :=
  Rd.map (Rd.slice (e := 70) (k := 1) (by' := 24) Try.underlying32 (by kernel_rfl) (by decide) (by kernel_rfl) (by decide) (fun _ => rfl) rdU8s) id (fun _ => rfl) (fun _ h => h.2)
theorem rdBools : Rd Try.prog 50 (fun l : List Bool => [bools l]) (fun _ => True) :=
  Rd.map (Rd.slice (e := 4) (k := 1) (by' := 1) Try.underlying50 (by kernel_rfl) (by decide) (by kernel_rfl) (by decide) (fun _ => rfl) (Rd.bool Try.underlying4)) id (fun _ => rfl) (fun _ _ => trivial)
theorem rdScope : Rd Try.prog 30 (fun p : List Int × Int => [ints p.1, .lit (.int .i64 p.2)]) (fun _ => True) :=
  Rd.map (Rd.struct (n := 2) Try.underlying30 (by kernel_rfl) (RdF.cons (k := 1) (n := 1) rfl (by kernel_rfl) rdInts (RdF.cons (k := 1) (n := 0) rfl (by kernel_rfl) (Rd.int Try.underlying3) RdF.nil))) (fun p => (p.1, p.2.1)) (fun p => rfl) (fun _ _ => trivial)
theorem rdSort : Rd Try.prog 85 encSo (fun _ => True) :=
  Rd.map (Rd.struct (n := 2) Try.underlying85 (by kernel_rfl) (RdF.cons (k := 1) (n := 1) rfl (by kernel_rfl) (Rd.string Try.underlying9) (RdF.cons (k := 1) (n := 0) rfl (by kernel_rfl) (Rd.bool Try.underlying4) RdF.nil))) (fun p => ((p.1, p.2.1) : SortM)) (fun p => rfl) (fun _ _ => trivial)
theorem rdField : Rd Try.prog 68 encF (fun _ => True) :=
  Rd.map (Rd.struct (n := 3) Try.underlying68 (by kernel_rfl) (RdF.cons (k := 1) (n := 2) rfl (by kernel_rfl) (Rd.string Try.underlying9) (RdF.cons (k := 1) (n := 1) rfl (by kernel_rfl) rdInts (RdF.cons (k := 1) (n := 0) rfl (by kernel_rfl) (Rd.bool Try.underlying4) RdF.nil)))) (fun p => (⟨p.1, p.2.1, p.2.2.1⟩ : FieldM)) (fun p => rfl) (fun _ _ => trivial)
def encS (s : SpecM) : List PV := [.slice 2 (s.sorts.map encSo), .slice 3 (s.fields.map encF), .lit (.slice s.preds.a s.preds.l s.preds.c), .lit (.slice s.facts.a s.facts.l s.facts.c)]
theorem rdSpec : Rd Try.prog 27 encS (fun _ => True) :=
  Rd.map (Rd.struct (n := 4) Try.underlying27 (by kernel_rfl) (RdF.cons (k := 1) (n := 3) rfl (by kernel_rfl) (Rd.slice (e := 85) (k := 2) (by' := 24) Try.underlying22 (by kernel_rfl) (by decide) (by kernel_rfl) (by decide) (fun _ => rfl) rdSort) (RdF.cons (k := 1) (n := 2) rfl (by kernel_rfl) (Rd.slice (e := 68) (k := 3) (by' := 48) Try.underlying23 (by kernel_rfl) (by decide) (by kernel_rfl) (by decide) (fun _ => rfl) rdField) (RdF.cons (k := 1) (n := 1) rfl (by kernel_rfl) (Rd.raw Try.underlying24) (RdF.cons (k := 1) (n := 0) rfl (by kernel_rfl) (Rd.raw Try.underlying25) RdF.nil)))))
    (fun p => (⟨p.1, p.2.1, ⟨p.2.2.1.1, p.2.2.1.2.1, p.2.2.1.2.2⟩, ⟨p.2.2.2.1.1, p.2.2.2.1.2.1, p.2.2.2.1.2.2⟩⟩ : SpecM)) (fun p => rfl) (fun _ _ => trivial)
theorem ra_true {N : Nat → Prop} {w : World} {v : Value} (h : RA (pcx N) w v (litB true)) : v = .bool true := by
  cases h with
  | pv h => cases h; rfl

set_option maxRecDepth 100000 in
theorem lifted (os : Os) (started : os.Started) (H : Type) (enc : TypeId × Value → H) :
    ReturnsInHanded {} Try.checked os 5 .any (Rows.boundsFreeSpec.pre6 enc Try.prog Try.f5 Rows.boundsFreeRow.domain false) (Rows.boundsFreeSpec.post enc Try.prog Try.f5 false true false false) := by
  refine returnsInHanded_of_change_sized (C := Try.checked) own started (by kernel_rfl) Try.func5
    (ChangeSpec.witness6 (enc := enc) (C := Try.checked) false ⟨#[], #[.agg #[.slice none 0 0, .slice none 0 0, .slice none 0 0, .slice none 0 0], .agg #[.slice none 0 0, .int .i64 0], .slice none 0 0, .slice none 0 0, .slice none 0 0], []⟩ 8 (by kernel_rfl) (by kernel_rfl) (by kernel_rfl) (by kernel_rfl)) ?_
  intro W base args ds gs before hval0 hW hcnd hsz _
  have hval : ∀ (j : Nat) t v, Try.f5.params[j]? = some t → args[j]? = some v → Value.okWide Try.prog W .any base t v := hval0
  have hW' := hW
  obtain ⟨p, q, hA0, hV, rfl, hfz, hnd⟩ := hW
  have hA : DataW.TrodAll enc Try.prog W 0 (fun _ => true) true Try.f5.params.toList args.toList ds p := hA0
  rw [Try.params5] at hA hval
  obtain ⟨v0, vs0, d0, ds0, p0, q0, hargs, rfl, rfl, h0, r0⟩ := trodAll_cons hA
  obtain ⟨v1, vs1, d1, ds1, p1, q1, rfl, rfl, rfl, h1, r1⟩ := trodAll_cons r0
  obtain ⟨v2, vs2, d2, ds2, p2, q2, rfl, rfl, rfl, h2, r2⟩ := trodAll_cons r1
  obtain ⟨v3, vs3, d3, ds3, p3, q3, rfl, rfl, rfl, h3, r3⟩ := trodAll_cons r2
  obtain ⟨v4, vs4, d4, ds4, p4, q4, rfl, rfl, rfl, h4, r4⟩ := trodAll_cons r3
  obtain ⟨rfl, rfl, rfl⟩ := trodAll_nil r4
  obtain rfl : args = #[v0, v1, v2, v3, v4] := by cases args; simp_all
  obtain ⟨rfl, rfl⟩ := trodVars_none hV
  have wt : ∀ (j : Nat) (t : TypeId) (d : DataW H), [27, 30, 32, 50, 50][j]? = some t → [d0, d1, d2, d3, d4][j]? = some d → ∀ n ∈ d.weights Try.prog t, n ≤ reachBytes := by
    intro j t d ht hd
    have hj : j < 5 := (List.getElem?_eq_some_iff.1 ht).1
    refine arg_weights hsz (j := j) ?_ ?_
    · rw [List.getElem?_append_left (by rw [Try.params5]; exact hj), Try.params5]; exact ht
    · rw [List.getElem?_append_left (by simpa using hj)]; exact hd
  obtain ⟨cs0, rfl⟩ := Ab.okWide_struct Try.underlying27 (hval 0 27 v0 rfl rfl)
  obtain ⟨cs1, rfl⟩ := Ab.okWide_struct Try.underlying30 (hval 1 30 v1 rfl rfl)
  obtain ⟨a2, l2, c2, rfl⟩ := okWide_slice Try.underlying32 (hval 2 32 v2 rfl rfl)
  obtain ⟨a3, l3, c3, rfl⟩ := okWide_slice Try.underlying50 (hval 3 50 v3 rfl rfl)
  obtain ⟨a4, l4, c4, rfl⟩ := okWide_slice Try.underlying50 (hval 4 50 v4 rfl rfl)
  obtain ⟨x0, s0, o0⟩ := arg_agg rdSpec h0 (wt 0 27 d0 rfl rfl) rfl
  obtain ⟨⟨x1, y1⟩, s1, o1⟩ := arg_agg rdScope h1 (wt 1 30 d1 rfl rfl) rfl
  obtain ⟨x2, s2, o2⟩ := arg_one rdRaws h2 (wt 2 32 d2 rfl rfl) slice_cells
  obtain ⟨x3, s3, o3⟩ := arg_one rdBools h3 (wt 3 50 d3 rfl rfl) slice_cells
  obtain ⟨x4, s4, o4⟩ := arg_one rdBools h4 (wt 4 50 d4 rfl rfl) slice_cells
  have lt0 : ∀ x ∈ p0, x.block < W.heap.size := by obtain ⟨m, hm⟩ := h0; exact DataW.trod_lt m _ _ _ hm
  have lt1 : ∀ x ∈ p1, x.block < W.heap.size := by obtain ⟨m, hm⟩ := h1; exact DataW.trod_lt m _ _ _ hm
  have lt2 : ∀ x ∈ p2, x.block < W.heap.size := by obtain ⟨m, hm⟩ := h2; exact DataW.trod_lt m _ _ _ hm
  have lt3 : ∀ x ∈ p3, x.block < W.heap.size := by obtain ⟨m, hm⟩ := h3; exact DataW.trod_lt m _ _ _ hm
  have lt4 : ∀ x ∈ p4, x.block < W.heap.size := by obtain ⟨m, hm⟩ := h4; exact DataW.trod_lt m _ _ _ hm
  clear hA0 hval0
  refine ((law3_fn head9_fn x0 x1 y1 x2 x3 x4 o2).calls (fun _ => True) W _ (fun _ _ => trivial) rfl ?_).mono fun e W' ⟨v, he, hv, bel⟩ => ?_
  · intro j v av hj hav
    match j, hj, hav with
    | 0, hj, hav => cases hj; cases hav; exact s0
    | 1, hj, hav => cases hj; cases hav; exact s1
    | 2, hj, hav => cases hj; cases hav; exact s2
    | 3, hj, hav => cases hj; cases hav; exact s3
    | 4, hj, hav => cases hj; cases hav; exact s4
    | j + 5, hj, hav => simp at hav
  · obtain rfl := ra_true hv
    subst he
    exact ⟨_, rfl, _, _, _, [], _, [], hW', trodAll_mk1 (shut_bool Try.underlying4 _), (trodAll_cons_mk (Below.trod laidOut (by kernel_rfl) (of_decide_eq_true (by kernel_rfl)) h0 bel lt0) (trodAll_cons_mk (Below.trod laidOut (by kernel_rfl) (of_decide_eq_true (by kernel_rfl)) h1 bel lt1) (trodAll_cons_mk (Below.trod laidOut (by kernel_rfl) (of_decide_eq_true (by kernel_rfl)) h2 bel lt2) (trodAll_cons_mk (Below.trod laidOut (by kernel_rfl) (of_decide_eq_true (by kernel_rfl)) h3 bel lt3) (trodAll_cons_mk (Below.trod laidOut (by kernel_rfl) (of_decide_eq_true (by kernel_rfl)) h4 bel lt4) trodAll_mk0))))), rfl, bel.frame _, fun h => by cases h⟩

theorem over : Rows.boundsFreeRow.holds Try.pinned (OpenSpec.ofChange Rows.boundsFreeSpec) :=
  OpenClaim.holds_of_wide 5 Try.f5 rfl rfl rfl rfl rfl rfl rfl ⟨rfl, rfl, rfl, rfl, rfl⟩ rfl rfl rfl rfl rfl (by kernel_rfl) Try.func5 (by kernel_rfl)
    (of_decide_eq_true (by kernel_rfl)) (by unfold Func.isWrapper; first | (rw [if_pos (by decide +kernel)]; kernel_rfl) | (rw [if_neg (by decide +kernel)]; exact ⟨rfl, rfl⟩))
    (fun os started H enc _ => lifted os started H enc)

theorem proved : Rows.BoundsFreeSaid := over
#print axioms proved
end Go.Proofs.Ytjknobmbibighaa.Law3
