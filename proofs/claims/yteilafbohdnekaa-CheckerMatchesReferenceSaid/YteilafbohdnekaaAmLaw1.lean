/- CheckerMatchesReference: Check, Refutes and SymmetryValid agree with the reference implementation. No conditions. -/
import Derived.Test.YteilafbohdnekaaAmR7
import Derived.Test.YteilafbohdnekaaAbL2
import Derived.Test.YteilafbohdnekaaAbL3
import Derived.Test.YteilafbohdnekaaRows
import Derived.WalkKit
import Derived.ProofKit
import Derived.OpenShut
import Derived.ChangeOld
import Derived.Below
set_option linter.unusedSimpArgs false
set_option linter.unusedVariables false
namespace Go.Proofs.Yteilafbohdnekaa.Law1
open Go Go.Ab Go.ChangeShapes Go.WideShapes Go.ChangeAt Go.RowKit
set_option linter.unusedVariables false
theorem own : ownKnob Try.prog.godebug = none := by kernel_rfl
theorem laidOut : laidOutB Try.prog = true := by kernel_rfl
theorem rdInts : Rd Try.prog 34 (fun l : List Int => [ints l]) (fun _ => True) :=
  Rd.map (Rd.slice (e := 3) (k := 1) (by' := 8) Try.underlying34 (by kernel_rfl) (by decide) (by kernel_rfl) (by decide) (fun _ => rfl) (Rd.int Try.underlying3)) id (fun _ => rfl) (fun _ _ => trivial)
theorem rdIntss : Rd Try.prog 22 (fun l : List (List Int) => [intss l]) (fun l => l.length * 24 ≤ reachBytes) :=
  Rd.map (Rd.slice (e := 34) (k := 1) (by' := 24) Try.underlying22 (by kernel_rfl) (by decide) (by kernel_rfl) (by decide) (fun _ => rfl) rdInts) id (fun _ => rfl) (fun _ h => h.1)
theorem rdCNF : Rd Try.prog 24 (fun p : Int × List (List Int) => [.lit (.int .i64 p.1), intss p.2]) (fun _ => True) :=
  Rd.map (Rd.struct (n := 2) Try.underlying24 (by kernel_rfl) (RdF.cons (k := 1) (n := 1) rfl (by kernel_rfl) (Rd.int Try.underlying3) (RdF.cons (k := 1) (n := 0) rfl (by kernel_rfl) rdIntss RdF.nil))) (fun p => (p.1, p.2.1)) (fun _ => rfl) (fun _ _ => trivial)
theorem rdStep : Rd Try.prog 46 Go.Ab.encS (fun _ => True) :=
  Rd.map (Rd.struct (n := 3) Try.underlying46 (by kernel_rfl) (RdF.cons (k := 1) (n := 2) rfl (by kernel_rfl) (Rd.int Try.underlying3) (RdF.cons (k := 1) (n := 1) rfl (by kernel_rfl) rdInts (RdF.cons (k := 1) (n := 0) rfl (by kernel_rfl) (Rd.int Try.underlying3) RdF.nil)))) (fun p => (⟨p.1, p.2.1, p.2.2.1⟩ : StepM)) (fun p => rfl) (fun _ _ => trivial)
theorem rdSteps : Rd Try.prog 25 (fun l : List StepM => [steps l]) (fun _ => True) :=
  Rd.map (Rd.slice (e := 46) (k := 3) (by' := 40) Try.underlying25 (by kernel_rfl) (by decide) (by kernel_rfl) (by decide) (fun _ => rfl) rdStep) id (fun _ => rfl) (fun _ _ => trivial)
theorem ra_true {N : Nat → Prop} {w : World} {v : Value} (h : RA (pcx N) w v (litB true)) : v = .bool true := by
  cases h with
  | pv h => cases h; rfl
set_option maxRecDepth 100000 in
theorem lifted (os : Os) (started : os.Started) (H : Type) (enc : TypeId × Value → H) :
    ReturnsInHanded {} Try.checked os 3 .any (Rows.checkerMatchesReferenceSpec.pre6 enc Try.prog Try.f3 Rows.checkerMatchesReferenceRow.domain false) (Rows.checkerMatchesReferenceSpec.post enc Try.prog Try.f3 false true false false) := by
  refine returnsInHanded_of_change_sized (C := Try.checked) own started (by kernel_rfl) Try.func3
    (ChangeSpec.witness6 (enc := enc) (C := Try.checked) false ⟨#[], #[.agg #[.int .i64 0, .slice none 0 0], .slice none 0 0, .slice none 0 0], []⟩ 8 (by kernel_rfl) (by kernel_rfl) (by kernel_rfl) (by kernel_rfl)) ?_
  intro W base args ds gs before hval0 hW hcnd hsz _
  have hval : ∀ (j : Nat) t v, Try.f3.params[j]? = some t → args[j]? = some v → Value.okWide Try.prog W .any base t v := hval0
  have hW' := hW
  obtain ⟨p, q, hA0, hV, rfl, hfz, hnd⟩ := hW
  have hA : DataW.TrodAll enc Try.prog W 0 (fun _ => true) true Try.f3.params.toList args.toList ds p := hA0
  rw [Try.params3] at hA hval
  obtain ⟨v0, vs0, d0, ds0, p0, q0, hargs, rfl, rfl, h0, r0⟩ := trodAll_cons hA
  obtain ⟨v1, vs1, d1, ds1, p1, q1, rfl, rfl, rfl, h1, r1⟩ := trodAll_cons r0
  obtain ⟨v2, vs2, d2, ds2, p2, q2, rfl, rfl, rfl, h2, r2⟩ := trodAll_cons r1
  obtain ⟨rfl, rfl, rfl⟩ := trodAll_nil r2
  obtain rfl : args = #[v0, v1, v2] := by cases args; simp_all
  obtain ⟨rfl, rfl⟩ := trodVars_none hV
  have wt : ∀ (j : Nat) (t : TypeId) (d : DataW H), [24, 22, 25][j]? = some t → [d0, d1, d2][j]? = some d → ∀ n ∈ d.weights Try.prog t, n ≤ reachBytes := by
    intro j t d ht hd
    have hj : j < 3 := (List.getElem?_eq_some_iff.1 ht).1
    refine arg_weights hsz (j := j) ?_ ?_
    · rw [List.getElem?_append_left (by rw [Try.params3]; exact hj), Try.params3]; exact ht
    · rw [List.getElem?_append_left (by simpa using hj)]; exact hd
  obtain ⟨cs0, rfl⟩ := Ab.okWide_struct Try.underlying24 (hval 0 24 v0 rfl rfl)
  obtain ⟨a1, l1, c1, rfl⟩ := okWide_slice Try.underlying22 (hval 1 22 v1 rfl rfl)
  obtain ⟨a2, l2, c2, rfl⟩ := okWide_slice Try.underlying25 (hval 2 25 v2 rfl rfl)
  obtain ⟨⟨x0, y0⟩, s0, o0⟩ := arg_agg rdCNF h0 (wt 0 24 d0 rfl rfl) rfl
  obtain ⟨x1, s1, o1⟩ := arg_one rdIntss h1 (wt 1 22 d1 rfl rfl) slice_cells
  obtain ⟨x2, s2, o2⟩ := arg_one rdSteps h2 (wt 2 25 d2 rfl rfl) slice_cells
  have lt0 : ∀ x ∈ p0, x.block < W.heap.size := by obtain ⟨m, hm⟩ := h0; exact DataW.trod_lt m _ _ _ hm
  have lt1 : ∀ x ∈ p1, x.block < W.heap.size := by obtain ⟨m, hm⟩ := h1; exact DataW.trod_lt m _ _ _ hm
  have lt2 : ∀ x ∈ p2, x.block < W.heap.size := by obtain ⟨m, hm⟩ := h2; exact DataW.trod_lt m _ _ _ hm
  clear hA0 hval0
  refine ((law1_fn x0 y0 x1 x2).calls (fun _ => True) W _ (fun _ _ => trivial) rfl ?_).mono fun e W' ⟨v, he, hv, bel⟩ => ?_
  · intro j v av hj hav
    match j, hj, hav with
    | 0, hj, hav => cases hj; cases hav; exact s0
    | 1, hj, hav => cases hj; cases hav; exact s1
    | 2, hj, hav => cases hj; cases hav; exact s2
    | j + 3, hj, hav => simp at hav
  · obtain rfl := ra_true hv
    subst he
    exact ⟨_, rfl, _, _, _, [], _, [], hW', trodAll_mk1 (shut_bool Try.underlying4 _), (trodAll_cons_mk (Below.trod laidOut (by kernel_rfl) (of_decide_eq_true (by kernel_rfl)) h0 bel lt0) (trodAll_cons_mk (Below.trod laidOut (by kernel_rfl) (of_decide_eq_true (by kernel_rfl)) h1 bel lt1) (trodAll_cons_mk (Below.trod laidOut (by kernel_rfl) (of_decide_eq_true (by kernel_rfl)) h2 bel lt2) trodAll_mk0))), rfl, bel.frame _, fun h => by cases h⟩
theorem over : Rows.checkerMatchesReferenceRow.holds Try.pinned (OpenSpec.ofChange Rows.checkerMatchesReferenceSpec) :=
  OpenClaim.holds_of_wide 3 Try.f3 rfl rfl rfl rfl rfl rfl rfl ⟨rfl, rfl, rfl, rfl, rfl⟩ rfl rfl rfl rfl rfl (by kernel_rfl) Try.func3 (by kernel_rfl)
    (of_decide_eq_true (by kernel_rfl)) (by unfold Func.isWrapper; first | (rw [if_pos (by decide +kernel)]; kernel_rfl) | (rw [if_neg (by decide +kernel)]; exact ⟨rfl, rfl⟩))
    (fun os started H enc _ => lifted os started H enc)
theorem proved : Rows.CheckerMatchesReferenceSaid := over
#print axioms proved
end Go.Proofs.Yteilafbohdnekaa.Law1
