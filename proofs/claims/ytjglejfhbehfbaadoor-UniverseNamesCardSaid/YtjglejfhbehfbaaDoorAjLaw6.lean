/- For a specification whose sorts have distinct names without the character $, different atoms have different names, each beginning with the name of its sort; numbers that are not atoms have the empty name. No conditions. -/
import Derived.Test.YtjglejfhbehfbaaDoorAjF11
import Derived.Test.YtjglejfhbehfbaaDoorAbL2
import Derived.Test.YtjglejfhbehfbaaDoorAbL3
import Derived.Test.YtjglejfhbehfbaaDoorRows
import Derived.Test.YtjglejfhbehfbaaDoorTie
import Derived.Test.YtjglejfhbehfbaaDoorCards
import Derived.SevenTiedAt
import Derived.LaidMore
import Derived.Stop.Joined
import Derived.WalkKit
import Derived.ProofKit
import Derived.OpenShut
import Derived.ChangeOld
import Derived.Below
set_option linter.unusedSimpArgs false
set_option linter.unusedVariables false
namespace Go.Proofs.YtjglejfhbehfbaaDoor.Law6
open Go Go.Ab Go.ChangeShapes Go.WideShapes Go.ChangeAt Go.RowKit
set_option linter.unusedVariables false
theorem own : ownKnob Tryd.prog.godebug = none := by kernel_rfl
theorem laidOut : laidOutB Tryd.prog = true := by kernel_rfl
theorem rdInts : Rd Tryd.prog 28 (fun l : List Int => [ints l]) (fun _ => True) :=
  Rd.map (Rd.slice (e := 3) (k := 1) (by' := 8) Tryd.underlying28 (by kernel_rfl) (by decide) (by kernel_rfl) (by decide) (fun _ => rfl) (Rd.int Tryd.underlying3)) id (fun _ => rfl) (fun _ _ => trivial)
theorem rdSort : Rd Tryd.prog 53 encSo (fun _ => True) :=
  Rd.map (Rd.struct (n := 2) Tryd.underlying53 (by kernel_rfl) (RdF.cons (k := 1) (n := 1) rfl (by kernel_rfl) (Rd.string Tryd.underlying9) (RdF.cons (k := 1) (n := 0) rfl (by kernel_rfl) (Rd.bool Tryd.underlying4) RdF.nil))) (fun p => ((p.1, p.2.1) : SortM)) (fun p => rfl) (fun _ _ => trivial)
theorem rdField : Rd Tryd.prog 97 encF (fun _ => True) :=
  Rd.map (Rd.struct (n := 3) Tryd.underlying97 (by kernel_rfl) (RdF.cons (k := 1) (n := 2) rfl (by kernel_rfl) (Rd.string Tryd.underlying9) (RdF.cons (k := 1) (n := 1) rfl (by kernel_rfl) rdInts (RdF.cons (k := 1) (n := 0) rfl (by kernel_rfl) (Rd.bool Tryd.underlying4) RdF.nil)))) (fun p => (⟨p.1, p.2.1, p.2.2.1⟩ : FieldM)) (fun p => rfl) (fun _ _ => trivial)
def encS (s : SpecM) : List PV := [.slice 2 (s.sorts.map encSo), .slice 3 (s.fields.map encF), .lit (.slice s.preds.a s.preds.l s.preds.c), .lit (.slice s.facts.a s.facts.l s.facts.c)]
theorem rdSpec : Rd Tryd.prog 27 encS (fun _ => True) :=
  Rd.map (Rd.struct (n := 4) Tryd.underlying27 (by kernel_rfl) (RdF.cons (k := 1) (n := 3) rfl (by kernel_rfl) (Rd.slice (e := 53) (k := 2) (by' := 24) Tryd.underlying22 (by kernel_rfl) (by decide) (by kernel_rfl) (by decide) (fun _ => rfl) rdSort) (RdF.cons (k := 1) (n := 2) rfl (by kernel_rfl) (Rd.slice (e := 97) (k := 3) (by' := 48) Tryd.underlying23 (by kernel_rfl) (by decide) (by kernel_rfl) (by decide) (fun _ => rfl) rdField) (RdF.cons (k := 1) (n := 1) rfl (by kernel_rfl) (Rd.raw Tryd.underlying24) (RdF.cons (k := 1) (n := 0) rfl (by kernel_rfl) (Rd.raw Tryd.underlying25) RdF.nil)))))
    (fun p => (⟨p.1, p.2.1, ⟨p.2.2.1.1, p.2.2.1.2.1, p.2.2.1.2.2⟩, ⟨p.2.2.2.1.1, p.2.2.2.1.2.1, p.2.2.2.1.2.2⟩⟩ : SpecM)) (fun p => rfl) (fun _ _ => trivial)
theorem rdBytes : Rd Tryd.prog 31 (fun l : List Int => encUs l) (fun l => ∀ x ∈ l, 0 ≤ x ∧ x ≤ 255) :=
  Rd.map (Rd.slice (e := 5) (k := 1) (by' := 1) Tryd.underlying31 (by kernel_rfl) (by decide) (by kernel_rfl) (by decide) (fun _ => rfl) (Rd.int Tryd.underlying5)) id (fun _ => rfl) (fun _ h x hx => wf_u8 (h.2 x hx))
theorem wfB_u8 {n : Int} (h : (Lit.int .u8 n).wf = true) : 0 ≤ n ∧ n ≤ 255 := by
  have e1 : IntKind.u8.min = 0 := rfl
  have e2 : IntKind.u8.max = 255 := rfl
  simp [Lit.wf, e1, e2] at h
  omega
theorem ra_true {N : Nat → Prop} {w : World} {v : Value} (h : RA (pcx N) w v (litB true)) : v = .bool true := by
  cases h with
  | pv h => cases h; rfl
noncomputable abbrev laidOf {H : Type} : List (String × DataW H) := [("math/bits.deBruijn32tab", Rows.laid_math_bits_deBruijn32tab), ("math/bits.deBruijn64tab", Rows.laid_math_bits_deBruijn64tab), ("internal/strconv.uint64pow10", Rows.laid_internal_strconv_uint64pow10)]
set_option maxRecDepth 100000 in
theorem door_met (os : Os) (args : Array Value) : laidMetH Tryd.prog laidOf ((World.doorLaid Tryd.prog 24 os).forCall (fun _ _ => 0) ⟨#[], args, []⟩).memory :=
  laidMetH_of_parts3 (fuel := 8) (laidMet_of_run' 8 (by kernel_rfl) (by kernel_rfl)) (by kernel_rfl) (by kernel_rfl)
set_option maxRecDepth 100000 in
theorem lifted (os : Os) (started : os.Started) (H : Type) (enc : TypeId × Value → H) :
    ReturnsInHanded {} Tryd.checked os 8 .any (fun w args => (Rows.universeNamesSpec.pre enc Tryd.prog Tryd.f8 [] false w args ∧ laidMetH Tryd.prog laidOf w) ∧ sizedMet enc Tryd.prog Tryd.f8 (OpenSpec.ofChange Rows.universeNamesSpec) false w args) (Rows.universeNamesSpec.post enc Tryd.prog Tryd.f8 false true false false) := by
  refine returnsInHanded_of_change_and (C := Tryd.checked) (X := fun w _ => laidMetH Tryd.prog laidOf w) (fun _ _ _ hh h => h.of_heap hh) own started (by kernel_rfl) Tryd.func8
    (ChangeSpec.witness_shaped (enc := enc) (C := Tryd.checked) (os := os) (X := fun w _ => laidMetH Tryd.prog laidOf w) false (World.doorLaid Tryd.prog 24 os) #[.agg #[.slice none 0 0, .slice none 0 0, .slice none 0 0, .slice none 0 0], .slice none 0 0, .int .u8 0, .int .u8 0] 8 rfl (World.shaped_of_RefB (by kernel_rfl) (by kernel_rfl)) (by kernel_rfl) (by kernel_rfl) (by kernel_rfl) (door_met os _)) ?_
  intro W base args ds gs before hval0 hW hcnd hsz hL _
  have hval : ∀ (j : Nat) t v, Tryd.f8.params[j]? = some t → args[j]? = some v → Value.okWide Tryd.prog W .any base t v := hval0
  have hW' := hW
  obtain ⟨p, q, hA0, hV, rfl, hfz, hnd⟩ := hW
  have hA : DataW.TrodAll enc Tryd.prog W 0 (fun _ => true) true Tryd.f8.params.toList args.toList ds p := hA0
  rw [Tryd.params8] at hA hval
  obtain ⟨v0, vs0, d0, ds0, p0, q0, hargs, rfl, rfl, h0, r0⟩ := trodAll_cons hA
  obtain ⟨v1, vs1, d1, ds1, p1, q1, rfl, rfl, rfl, h1, r1⟩ := trodAll_cons r0
  obtain ⟨v2, vs2, d2, ds2, p2, q2, rfl, rfl, rfl, h2, r2⟩ := trodAll_cons r1
  obtain ⟨v3, vs3, d3, ds3, p3, q3, rfl, rfl, rfl, h3, r3⟩ := trodAll_cons r2
  obtain ⟨rfl, rfl, rfl⟩ := trodAll_nil r3
  obtain rfl : args = #[v0, v1, v2, v3] := by cases args; simp_all
  obtain ⟨rfl, rfl⟩ := trodVars_none hV
  have wt : ∀ (j : Nat) (t : TypeId) (d : DataW H), [27, 31, 5, 5][j]? = some t → [d0, d1, d2, d3][j]? = some d → ∀ n ∈ d.weights Tryd.prog t, n ≤ reachBytes := by
    intro j t d ht hd
    have hj : j < 4 := (List.getElem?_eq_some_iff.1 ht).1
    refine arg_weights hsz (j := j) ?_ ?_
    · rw [List.getElem?_append_left (by rw [Tryd.params8]; exact hj), Tryd.params8]; exact ht
    · rw [List.getElem?_append_left (by simpa using hj)]; exact hd
  obtain ⟨cs0, rfl⟩ := Ab.okWide_struct Tryd.underlying27 (hval 0 27 v0 rfl rfl)
  obtain ⟨a1, l1, c1, rfl⟩ := okWide_slice Tryd.underlying31 (hval 1 31 v1 rfl rfl)
  obtain ⟨x0, s0, o0⟩ := arg_agg rdSpec h0 (wt 0 27 d0 rfl rfl) rfl
  obtain ⟨x1, s1, o1⟩ := arg_one rdBytes h1 (wt 1 31 d1 rfl rfl) slice_cells
  obtain ⟨x2, rfl, e2, e2', o2⟩ := open_int Tryd.underlying5 (hval 2 5 v2 rfl rfl) h2
  have s2 : RA (pcx fun _ => True) W (.int .u8 x2) (.pv (.lit (.int .u8 x2))) := .pv (.lit _)
  obtain ⟨x3, rfl, e3, e3', o3⟩ := open_int Tryd.underlying5 (hval 3 5 v3 rfl rfl) h3
  have s3 : RA (pcx fun _ => True) W (.int .u8 x3) (.pv (.lit (.int .u8 x3))) := .pv (.lit _)
  have lt0 : ∀ x ∈ p0, x.block < W.heap.size := by obtain ⟨m, hm⟩ := h0; exact DataW.trod_lt m _ _ _ hm
  have lt1 : ∀ x ∈ p1, x.block < W.heap.size := by obtain ⟨m, hm⟩ := h1; exact DataW.trod_lt m _ _ _ hm
  have lt2 : ∀ x ∈ p2, x.block < W.heap.size := by obtain ⟨m, hm⟩ := h2; exact DataW.trod_lt m _ _ _ hm
  have lt3 : ∀ x ∈ p3, x.block < W.heap.size := by obtain ⟨m, hm⟩ := h3; exact DataW.trod_lt m _ _ _ hm
  clear hA0 hval0
  refine ((law6_fn x0 x1 x2 x3 o1 (wfB_u8 o2) (wfB_u8 o3)).calls (fun _ => True) W _ (fun _ _ => trivial) rfl ?_).mono fun e W' ⟨v, he, hv, bel⟩ => ?_
  · intro j v av hj hav
    match j, hj, hav with
    | 0, hj, hav => cases hj; cases hav; exact s0
    | 1, hj, hav => cases hj; cases hav; exact s1
    | 2, hj, hav => cases hj; cases hav; exact s2
    | 3, hj, hav => cases hj; cases hav; exact s3
    | j + 4, hj, hav => simp at hav
  · obtain rfl := ra_true hv
    subst he
    exact ⟨_, rfl, _, _, _, [], _, [], hW', trodAll_mk1 (shut_bool Tryd.underlying4 _), (trodAll_cons_mk (Below.trod laidOut (by kernel_rfl) (of_decide_eq_true (by kernel_rfl)) h0 bel lt0) (trodAll_cons_mk (Below.trod laidOut (by kernel_rfl) (of_decide_eq_true (by kernel_rfl)) h1 bel lt1) (trodAll_cons_mk (Below.trod laidOut (by kernel_rfl) (of_decide_eq_true (by kernel_rfl)) h2 bel lt2) (trodAll_cons_mk (Below.trod laidOut (by kernel_rfl) (of_decide_eq_true (by kernel_rfl)) h3 bel lt3) trodAll_mk0)))), rfl, bel.frame _, fun h => by cases h⟩
theorem over : Rows.universeNamesRow.holds Tryd.pinned (OpenSpec.ofChange Rows.universeNamesSpec) :=
  OpenClaim.holds_of_wide 8 Tryd.f8 rfl rfl rfl rfl rfl rfl rfl ⟨rfl, rfl, rfl, rfl, rfl⟩ rfl rfl rfl rfl rfl (by kernel_rfl) Tryd.func8 (by kernel_rfl)
    (of_decide_eq_true (by kernel_rfl)) (by unfold Func.isWrapper; first | (rw [if_pos (by decide +kernel)]; kernel_rfl) | (rw [if_neg (by decide +kernel)]; exact ⟨rfl, rfl⟩))
    (fun os started H enc _ => lifted os started H enc)
set_option maxRecDepth 100000 in
theorem proved : Rows.UniverseNamesCardSaid :=
  Claim7.holds_tied_plain_at .later [] [.data, .data, .data] true (true, "22433573aed3e55d4af1f8b3fd94c2b9787e547caf0dfe29cae16adbb9191b6a") false
    over (fun _ h => by cases h) (by kernel_rfl) (fun _ h => by cases h) universeNames_row_tie rfl ⟨rfl, rfl⟩ (by kernel_rfl) rfl
    (fun f fn hf hfn => by
      obtain rfl : f = 8 := Option.some.inj ((show Tryd.prog.funcNamed "armature/armaturelaw05.UniverseNames" = some 8 by kernel_rfl).symm.trans hf) |>.symm
      obtain rfl : fn = Tryd.f8 := (Option.some.inj (Tryd.func8.symm.trans hfn)).symm
      exact ⟨by kernel_rfl, fun j t ht => by
        rw [Tryd.params8] at ht
        have hm : t ∈ [27, 31, 5, 5] := by simpa using Array.mem_of_getElem? ht
        have hall : ([27, 31, 5, 5].all fun u => !Tryd.prog.wantsStandIn u) = true := by kernel_rfl
        exact (show Tryd.prog.wantsStandIn t = false by simpa using List.all_eq_true.1 hall t hm)⟩)
    (by kernel_rfl)
#print axioms proved
end Go.Proofs.YtjglejfhbehfbaaDoor.Law6
