/- A valid model becomes invalid if its loop leaves its states, a state is missing, a relation of some state is missing, or a relation gets a tuple whose first atom belongs to another sort. No conditions. -/
import Derived.Test.YtkejholhdmppmaaAkW1
import Derived.Test.YtkejholhdmppmaaAbL2
import Derived.Test.YtkejholhdmppmaaAbL3
import Derived.Test.YtkejholhdmppmaaRows
import Derived.WalkKit
import Derived.ProofKit
import Derived.OpenShut
import Derived.ChangeOld
import Derived.Below
set_option linter.unusedSimpArgs false
set_option linter.unusedVariables false
namespace Go.Proofs.Ytkejholhdmppmaa.Law16
open Go Go.Ab Go.ChangeShapes Go.WideShapes Go.ChangeAt Go.RowKit
set_option linter.unusedVariables false
theorem own : ownKnob Try.prog.godebug = none := by kernel_rfl
theorem laidOut : laidOutB Try.prog = true := by kernel_rfl
theorem rdInts : Rd Try.prog 28 (fun l : List Int => [ints l]) (fun _ => True) :=
  Rd.map (Rd.slice (e := 3) (k := 1) (by' := 8) Try.underlying28 (by kernel_rfl) (by decide) (by kernel_rfl) (by decide) (fun _ => rfl) (Rd.int Try.underlying3)) id (fun _ => rfl) (fun _ _ => trivial)
theorem rdSort : Rd Try.prog 47 encSo (fun _ => True) :=
  Rd.map (Rd.struct (n := 2) Try.underlying47 (by kernel_rfl) (RdF.cons (k := 1) (n := 1) rfl (by kernel_rfl) (Rd.string Try.underlying9) (RdF.cons (k := 1) (n := 0) rfl (by kernel_rfl) (Rd.bool Try.underlying4) RdF.nil))) (fun p => ((p.1, p.2.1) : SortM)) (fun p => rfl) (fun _ _ => trivial)
theorem rdField : Rd Try.prog 40 encF (fun _ => True) :=
  Rd.map (Rd.struct (n := 3) Try.underlying40 (by kernel_rfl) (RdF.cons (k := 1) (n := 2) rfl (by kernel_rfl) (Rd.string Try.underlying9) (RdF.cons (k := 1) (n := 1) rfl (by kernel_rfl) rdInts (RdF.cons (k := 1) (n := 0) rfl (by kernel_rfl) (Rd.bool Try.underlying4) RdF.nil)))) (fun p => (⟨p.1, p.2.1, p.2.2.1⟩ : FieldM)) (fun p => rfl) (fun _ _ => trivial)
def encS (s : SpecM) : List PV := [.slice 2 (s.sorts.map encSo), .slice 3 (s.fields.map encF), .lit (.slice s.preds.a s.preds.l s.preds.c), .lit (.slice s.facts.a s.facts.l s.facts.c)]
theorem rdSpec : Rd Try.prog 27 encS (fun _ => True) :=
  Rd.map (Rd.struct (n := 4) Try.underlying27 (by kernel_rfl) (RdF.cons (k := 1) (n := 3) rfl (by kernel_rfl) (Rd.slice (e := 47) (k := 2) (by' := 24) Try.underlying22 (by kernel_rfl) (by decide) (by kernel_rfl) (by decide) (fun _ => rfl) rdSort) (RdF.cons (k := 1) (n := 2) rfl (by kernel_rfl) (Rd.slice (e := 40) (k := 3) (by' := 48) Try.underlying23 (by kernel_rfl) (by decide) (by kernel_rfl) (by decide) (fun _ => rfl) rdField) (RdF.cons (k := 1) (n := 1) rfl (by kernel_rfl) (Rd.raw Try.underlying24) (RdF.cons (k := 1) (n := 0) rfl (by kernel_rfl) (Rd.raw Try.underlying25) RdF.nil)))))
    (fun p => (⟨p.1, p.2.1, ⟨p.2.2.1.1, p.2.2.1.2.1, p.2.2.1.2.2⟩, ⟨p.2.2.2.1.1, p.2.2.2.1.2.1, p.2.2.2.1.2.2⟩⟩ : SpecM)) (fun p => rfl) (fun _ _ => trivial)
theorem rdScope : Rd Try.prog 30 (fun p : List Int × Int => [ints p.1, .lit (.int .i64 p.2)]) (fun _ => True) :=
  Rd.map (Rd.struct (n := 2) Try.underlying30 (by kernel_rfl) (RdF.cons (k := 1) (n := 1) rfl (by kernel_rfl) rdInts (RdF.cons (k := 1) (n := 0) rfl (by kernel_rfl) (Rd.int Try.underlying3) RdF.nil))) (fun p => (p.1, p.2.1)) (fun p => rfl) (fun _ _ => trivial)
theorem rdRel : Rd Try.prog 42 encR (fun _ => True) :=
  Rd.map (Rd.struct (n := 2) Try.underlying42 (by kernel_rfl) (RdF.cons (k := 1) (n := 1) rfl (by kernel_rfl) (Rd.int Try.underlying3) (RdF.cons (k := 1) (n := 0) rfl (by kernel_rfl) rdInts RdF.nil))) (fun p => (p.1, p.2.1)) (fun p => rfl) (fun _ _ => trivial)
theorem rdRels : Rd Try.prog 36 (fun l : List RelM => [rels l]) (fun _ => True) :=
  Rd.map (Rd.slice (e := 42) (k := 2) (by' := 32) Try.underlying36 (by kernel_rfl) (by decide) (by kernel_rfl) (by decide) (fun _ => rfl) rdRel) id (fun _ => rfl) (fun _ _ => trivial)
theorem rdStts : Rd Try.prog 31 (fun l : List (List RelM) => [stts l]) (fun _ => True) :=
  Rd.map (Rd.slice (e := 36) (k := 1) (by' := 24) Try.underlying31 (by kernel_rfl) (by decide) (by kernel_rfl) (by decide) (fun _ => rfl) rdRels) id (fun _ => rfl) (fun _ _ => trivial)
def encM (m : ModM) : List PV := [ints m.atoms, .lit (.int .i64 m.steps), stts m.states, .lit (.int .i64 m.loop)]
theorem rdMdl : Rd Try.prog 33 encM (fun _ => True) :=
  Rd.map (Rd.struct (n := 4) Try.underlying33 (by kernel_rfl) (RdF.cons (k := 2) (n := 2) rfl (by kernel_rfl) rdScope (RdF.cons (k := 1) (n := 1) rfl (by kernel_rfl) rdStts (RdF.cons (k := 1) (n := 0) rfl (by kernel_rfl) (Rd.int Try.underlying3) RdF.nil)))) (fun p => (⟨p.1.1, p.1.2, p.2.1, p.2.2.1⟩ : ModM)) (fun p => rfl) (fun _ _ => trivial)
theorem wfB_u8 {n : Int} (h : (Lit.int .u8 n).wf = true) : 0 ≤ n ∧ n ≤ 255 := by
  have e1 : IntKind.u8.min = 0 := rfl
  have e2 : IntKind.u8.max = 255 := rfl
  simp [Lit.wf, e1, e2] at h
  omega
theorem ra_true {N : Nat → Prop} {w : World} {v : Value} (h : RA (pcx N) w v (litB true)) : v = .bool true := by
  cases h with
  | pv h => cases h; rfl
set_option maxRecDepth 100000 in
theorem lifted (os : Os) (started : os.Started) (H : Type) (enc : TypeId × Value → H) :
    ReturnsInHanded {} Try.checked os 3 .any (Rows.modelRejectsSpec.pre6 enc Try.prog Try.f3 Rows.modelRejectsRow.domain false) (Rows.modelRejectsSpec.post enc Try.prog Try.f3 false true false false) := by
  refine returnsInHanded_of_change_sized (C := Try.checked) own started (by kernel_rfl) Try.func3
    (ChangeSpec.witness6 (enc := enc) (C := Try.checked) false ⟨#[], #[.agg #[.slice none 0 0, .slice none 0 0, .slice none 0 0, .slice none 0 0], .agg #[.slice none 0 0, .int .i64 0, .slice none 0 0, .int .i64 0], .int .u8 0, .int .u8 0, .int .u8 0], []⟩ 8 (by kernel_rfl) (by kernel_rfl) (by kernel_rfl) (by kernel_rfl)) ?_
  intro W base args ds gs before hval0 hW hcnd hsz _
  have hval : ∀ (j : Nat) t v, Try.f3.params[j]? = some t → args[j]? = some v → Value.okWide Try.prog W .any base t v := hval0
  have hW' := hW
  obtain ⟨p, q, hA0, hV, rfl, hfz, hnd⟩ := hW
  have hA : DataW.TrodAll enc Try.prog W 0 (fun _ => true) true Try.f3.params.toList args.toList ds p := hA0
  rw [Try.params3] at hA hval
  obtain ⟨v0, vs0, d0, ds0, p0, q0, hargs, rfl, rfl, h0, r0⟩ := trodAll_cons hA
  obtain ⟨v1, vs1, d1, ds1, p1, q1, rfl, rfl, rfl, h1, r1⟩ := trodAll_cons r0
  obtain ⟨v2, vs2, d2, ds2, p2, q2, rfl, rfl, rfl, h2, r2⟩ := trodAll_cons r1
  obtain ⟨v3, vs3, d3, ds3, p3, q3, rfl, rfl, rfl, h3, r3⟩ := trodAll_cons r2
  obtain ⟨v4, vs4, d4, ds4, p4, q4, rfl, rfl, rfl, h4, r4⟩ := trodAll_cons r3
  obtain ⟨rfl, rfl, rfl⟩ := trodAll_nil r4
  obtain rfl : args = #[v0, v1, v2, v3, v4] := by cases args; simp_all
  obtain ⟨rfl, rfl⟩ := trodVars_none hV
  have wt : ∀ (j : Nat) (t : TypeId) (d : DataW H), [27, 33, 5, 5, 5][j]? = some t → [d0, d1, d2, d3, d4][j]? = some d → ∀ n ∈ d.weights Try.prog t, n ≤ reachBytes := by
    intro j t d ht hd
    have hj : j < 5 := (List.getElem?_eq_some_iff.1 ht).1
    refine arg_weights hsz (j := j) ?_ ?_
    · rw [List.getElem?_append_left (by rw [Try.params3]; exact hj), Try.params3]; exact ht
    · rw [List.getElem?_append_left (by simpa using hj)]; exact hd
  obtain ⟨cs0, rfl⟩ := Ab.okWide_struct Try.underlying27 (hval 0 27 v0 rfl rfl)
  obtain ⟨cs1, rfl⟩ := Ab.okWide_struct Try.underlying33 (hval 1 33 v1 rfl rfl)
  obtain ⟨x0, s0, o0⟩ := arg_agg rdSpec h0 (wt 0 27 d0 rfl rfl) rfl
  obtain ⟨x1, s1, o1⟩ := arg_agg rdMdl h1 (wt 1 33 d1 rfl rfl) rfl
  obtain ⟨x2, rfl, e2, e2', o2⟩ := open_int Try.underlying5 (hval 2 5 v2 rfl rfl) h2
  have s2 : RA (pcx fun _ => True) W (.int .u8 x2) (.pv (.lit (.int .u8 x2))) := .pv (.lit _)
  obtain ⟨x3, rfl, e3, e3', o3⟩ := open_int Try.underlying5 (hval 3 5 v3 rfl rfl) h3
  have s3 : RA (pcx fun _ => True) W (.int .u8 x3) (.pv (.lit (.int .u8 x3))) := .pv (.lit _)
  obtain ⟨x4, rfl, e4, e4', o4⟩ := open_int Try.underlying5 (hval 4 5 v4 rfl rfl) h4
  have s4 : RA (pcx fun _ => True) W (.int .u8 x4) (.pv (.lit (.int .u8 x4))) := .pv (.lit _)
  have lt0 : ∀ x ∈ p0, x.block < W.heap.size := by obtain ⟨m, hm⟩ := h0; exact DataW.trod_lt m _ _ _ hm
  have lt1 : ∀ x ∈ p1, x.block < W.heap.size := by obtain ⟨m, hm⟩ := h1; exact DataW.trod_lt m _ _ _ hm
  have lt2 : ∀ x ∈ p2, x.block < W.heap.size := by obtain ⟨m, hm⟩ := h2; exact DataW.trod_lt m _ _ _ hm
  have lt3 : ∀ x ∈ p3, x.block < W.heap.size := by obtain ⟨m, hm⟩ := h3; exact DataW.trod_lt m _ _ _ hm
  have lt4 : ∀ x ∈ p4, x.block < W.heap.size := by obtain ⟨m, hm⟩ := h4; exact DataW.trod_lt m _ _ _ hm
  clear hA0 hval0
  refine ((law16_fn x0 x1 x2 x3 x4 (wfB_u8 o2) (wfB_u8 o3) (wfB_u8 o4)).calls (fun _ => True) W _ (fun _ _ => trivial) rfl ?_).mono fun e W' ⟨v, he, hv, bel⟩ => ?_
  · intro j v av hj hav
    match j, hj, hav with
    | 0, hj, hav => cases hj; cases hav; exact s0
    | 1, hj, hav => cases hj; cases hav; exact s1
    | 2, hj, hav => cases hj; cases hav; exact s2
    | 3, hj, hav => cases hj; cases hav; exact s3
    | 4, hj, hav => cases hj; cases hav; exact s4
    | j + 5, hj, hav => simp at hav
  · obtain rfl := ra_true hv
    subst he
    exact ⟨_, rfl, _, _, _, [], _, [], hW', trodAll_mk1 (shut_bool Try.underlying4 _), (trodAll_cons_mk (Below.trod laidOut (by kernel_rfl) (of_decide_eq_true (by kernel_rfl)) h0 bel lt0) (trodAll_cons_mk (Below.trod laidOut (by kernel_rfl) (of_decide_eq_true (by kernel_rfl)) h1 bel lt1) (trodAll_cons_mk (Below.trod laidOut (by kernel_rfl) (of_decide_eq_true (by kernel_rfl)) h2 bel lt2) (trodAll_cons_mk (Below.trod laidOut (by kernel_rfl) (of_decide_eq_true (by kernel_rfl)) h3 bel lt3) (trodAll_cons_mk (Below.trod laidOut (by kernel_rfl) (of_decide_eq_true (by kernel_rfl)) h4 bel lt4) trodAll_mk0))))), rfl, bel.frame _, fun h => by cases h⟩
theorem over : Rows.modelRejectsRow.holds Try.pinned (OpenSpec.ofChange Rows.modelRejectsSpec) :=
  OpenClaim.holds_of_wide 3 Try.f3 rfl rfl rfl rfl rfl rfl rfl ⟨rfl, rfl, rfl, rfl, rfl⟩ rfl rfl rfl rfl rfl (by kernel_rfl) Try.func3 (by kernel_rfl)
    (of_decide_eq_true (by kernel_rfl)) (by unfold Func.isWrapper; first | (rw [if_pos (by decide +kernel)]; kernel_rfl) | (rw [if_neg (by decide +kernel)]; exact ⟨rfl, rfl⟩))
    (fun os started H enc _ => lifted os started H enc)
theorem proved : Rows.ModelRejectsSaid := over
#print axioms proved
end Go.Proofs.Ytkejholhdmppmaa.Law16
