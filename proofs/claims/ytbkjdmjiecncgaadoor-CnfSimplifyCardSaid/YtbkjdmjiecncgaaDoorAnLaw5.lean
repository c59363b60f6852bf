/- A valid formula and its simplification are satisfied by the same assignments; the simplification is valid, has no repeated or opposite literals, and is not changed by simplifying again. No conditions. -/
import Derived.Test.YtbkjdmjiecncgaaDoorAnCB
import Derived.Test.YtbkjdmjiecncgaaDoorAbL2
import Derived.Test.YtbkjdmjiecncgaaDoorRows
import Derived.Test.YtbkjdmjiecncgaaDoorTie
import Derived.Test.YtbkjdmjiecncgaaDoorCards
import Derived.SevenTiedAt
import Derived.LaidMore
import Derived.Stop.Joined
import Derived.Stop.LaidErr
import Derived.Lib.LaidTab
import Derived.WalkKit
import Derived.ProofKit
import Derived.OpenShut
import Derived.ChangeOld
import Derived.Below
set_option linter.unusedSimpArgs false
set_option linter.unusedVariables false
namespace Go.Proofs.YtbkjdmjiecncgaaDoor.Law5
open Go Go.Ab Go.ChangeShapes Go.WideShapes Go.ChangeAt Go.RowKit
set_option linter.unusedVariables false
theorem own : ownKnob Tryd.prog.godebug = none := by kernel_rfl
theorem laidOut : laidOutB Tryd.prog = true := by kernel_rfl
theorem rdInts : Rd Tryd.prog 28 (fun l : List Int => [ints l]) (fun _ => True) :=
  Rd.map (Rd.slice (e := 3) (k := 1) (by' := 8) Tryd.underlying28 (by kernel_rfl) (by decide) (by kernel_rfl) (by decide) (fun _ => rfl) (Rd.int Tryd.underlying3)) id (fun _ => rfl) (fun _ _ => trivial)
theorem rdIntss : Rd Tryd.prog 33 (fun l : List (List Int) => [intss l]) (fun l => l.length * 24 ≤ reachBytes) :=
  Rd.map (Rd.slice (e := 28) (k := 1) (by' := 24) Tryd.underlying33 (by kernel_rfl) (by decide) (by kernel_rfl) (by decide) (fun _ => rfl) rdInts) id (fun _ => rfl) (fun _ h => h.1)
theorem rdCNF : Rd Tryd.prog 35 (fun p : Int × List (List Int) => [.lit (.int .i64 p.1), intss p.2]) (fun _ => True) :=
  Rd.map (Rd.struct (n := 2) Tryd.underlying35 (by kernel_rfl) (RdF.cons (k := 1) (n := 1) rfl (by kernel_rfl) (Rd.int Tryd.underlying3) (RdF.cons (k := 1) (n := 0) rfl (by kernel_rfl) rdIntss RdF.nil))) (fun p => (p.1, p.2.1)) (fun _ => rfl) (fun _ _ => trivial)
theorem rdBools : Rd Tryd.prog 23 (fun l : List Bool => [bools l]) (fun _ => True) :=
  Rd.map (Rd.slice (e := 4) (k := 1) (by' := 1) Tryd.underlying23 (by kernel_rfl) (by decide) (by kernel_rfl) (by decide) (fun _ => rfl) (Rd.bool Tryd.underlying4)) id (fun _ => rfl) (fun _ _ => trivial)
theorem ra_true {N : Nat → Prop} {w : World} {v : Value} (h : RA (pcx N) w v (litB true)) : v = .bool true := by
  cases h with
  | pv h => cases h; rfl
noncomputable abbrev laidOf {H : Type} : List (String × DataW H) := [("math/bits.deBruijn32tab", Rows.laid_math_bits_deBruijn32tab), ("math/bits.deBruijn64tab", Rows.laid_math_bits_deBruijn64tab), ("internal/strconv.uint64pow10", Rows.laid_internal_strconv_uint64pow10)]
set_option maxRecDepth 100000 in
theorem door_met (os : Os) (args : Array Value) : laidMetH Tryd.prog laidOf ((World.doorLaid Tryd.prog 24 os).forCall (fun _ _ => 0) ⟨#[], args, []⟩).memory :=
  laidMetH_of_parts3 (fuel := 8) (laidMet_of_run' 8 (by kernel_rfl) (by kernel_rfl)) (by kernel_rfl) (by kernel_rfl)
theorem tabHere {W : World} (h : laidMetH Tryd.prog laidOf W) : tabT W := by
  have h1 : laidMet Tryd.prog laidOf W := h
  have h2 := h1.tail.tail
  exact Lib.tabIs_of_head (g := 0) (t := 126) (e := 106) (n := 20) (rest := []) (by kernel_rfl) (by kernel_rfl) Tryd.underlying126 Tryd.underlying106 (by kernel_rfl) (by kernel_rfl) ((show (Rows.laid_internal_strconv_uint64pow10 : DataW Unit) = Lib.tabData .u64 Lib.pow10Tab by kernel_rfl) ▸ h2)
set_option maxRecDepth 100000 in
theorem lifted (os : Os) (started : os.Started) (H : Type) (enc : TypeId × Value → H) :
    ReturnsInHanded {} Tryd.checked os 7 .any (fun w args => (Rows.cnfSimplifySpec.pre enc Tryd.prog Tryd.f7 [] false w args ∧ laidMetH Tryd.prog laidOf w) ∧ sizedMet enc Tryd.prog Tryd.f7 (OpenSpec.ofChange Rows.cnfSimplifySpec) false w args) (Rows.cnfSimplifySpec.post enc Tryd.prog Tryd.f7 false true false false) := by
  refine returnsInHanded_of_change_and (C := Tryd.checked) (X := fun w _ => laidMetH Tryd.prog laidOf w) (fun _ _ _ hh h => h.of_heap hh) own started (by kernel_rfl) Tryd.func7
    (ChangeSpec.witness_shaped (enc := enc) (C := Tryd.checked) (os := os) (X := fun w _ => laidMetH Tryd.prog laidOf w) false (World.doorLaid Tryd.prog 24 os) #[.agg #[.int .i64 0, .slice none 0 0], .slice none 0 0] 8 rfl (World.shaped_of_RefB (by kernel_rfl) (by kernel_rfl)) (by kernel_rfl) (by kernel_rfl) (by kernel_rfl) (door_met os _)) ?_
  intro W base args ds gs before hval0 hW hcnd hsz hL _
  have hval : ∀ (j : Nat) t v, Tryd.f7.params[j]? = some t → args[j]? = some v → Value.okWide Tryd.prog W .any base t v := hval0
  have hW' := hW
  obtain ⟨p, q, hA0, hV, rfl, hfz, hnd⟩ := hW
  have hA : DataW.TrodAll enc Tryd.prog W 0 (fun _ => true) true Tryd.f7.params.toList args.toList ds p := hA0
  rw [Tryd.params7] at hA hval
  obtain ⟨v0, vs0, d0, ds0, p0, q0, hargs, rfl, rfl, h0, r0⟩ := trodAll_cons hA
  obtain ⟨v1, vs1, d1, ds1, p1, q1, rfl, rfl, rfl, h1, r1⟩ := trodAll_cons r0
  obtain ⟨rfl, rfl, rfl⟩ := trodAll_nil r1
  obtain rfl : args = #[v0, v1] := by cases args; simp_all
  obtain ⟨rfl, rfl⟩ := trodVars_none hV
  have wt : ∀ (j : Nat) (t : TypeId) (d : DataW H), [35, 23][j]? = some t → [d0, d1][j]? = some d → ∀ n ∈ d.weights Tryd.prog t, n ≤ reachBytes := by
    intro j t d ht hd
    have hj : j < 2 := (List.getElem?_eq_some_iff.1 ht).1
    refine arg_weights hsz (j := j) ?_ ?_
    · rw [List.getElem?_append_left (by rw [Tryd.params7]; exact hj), Tryd.params7]; exact ht
    · rw [List.getElem?_append_left (by simpa using hj)]; exact hd
  obtain ⟨cs0, rfl⟩ := Ab.okWide_struct Tryd.underlying35 (hval 0 35 v0 rfl rfl)
  obtain ⟨a1, l1, c1, rfl⟩ := okWide_slice Tryd.underlying23 (hval 1 23 v1 rfl rfl)
  obtain ⟨⟨x0, y0⟩, s0, o0⟩ := arg_agg rdCNF h0 (wt 0 35 d0 rfl rfl) rfl
  obtain ⟨x1, s1, o1⟩ := arg_one rdBools h1 (wt 1 23 d1 rfl rfl) slice_cells
  have lt0 : ∀ x ∈ p0, x.block < W.heap.size := by obtain ⟨m, hm⟩ := h0; exact DataW.trod_lt m _ _ _ hm
  have lt1 : ∀ x ∈ p1, x.block < W.heap.size := by obtain ⟨m, hm⟩ := h1; exact DataW.trod_lt m _ _ _ hm
  clear hA0 hval0
  refine ((lawSimp_fn x0 y0 x1).calls (fun _ => True) W _ (tabHere hL) (fun _ _ => trivial) rfl ?_).mono fun e W' ⟨v, he, hv, bel⟩ => ?_
  · intro j v av hj hav
    match j, hj, hav with
    | 0, hj, hav => cases hj; cases hav; exact s0
    | 1, hj, hav => cases hj; cases hav; exact s1
    | j + 2, hj, hav => simp at hav
  · obtain rfl := ra_true hv
    subst he
    exact ⟨_, rfl, _, _, _, [], _, [], hW', trodAll_mk1 (shut_bool Tryd.underlying4 _), (trodAll_cons_mk (Below.trod laidOut (by kernel_rfl) (of_decide_eq_true (by kernel_rfl)) h0 bel lt0) (trodAll_cons_mk (Below.trod laidOut (by kernel_rfl) (of_decide_eq_true (by kernel_rfl)) h1 bel lt1) trodAll_mk0)), rfl, bel.frame _, fun h => by cases h⟩
theorem over : Rows.cnfSimplifyRow.holds Tryd.pinned (OpenSpec.ofChange Rows.cnfSimplifySpec) :=
  OpenClaim.holds_of_wide 7 Tryd.f7 rfl rfl rfl rfl rfl rfl rfl ⟨rfl, rfl, rfl, rfl, rfl⟩ rfl rfl rfl rfl rfl (by kernel_rfl) Tryd.func7 (by kernel_rfl)
    (of_decide_eq_true (by kernel_rfl)) (by unfold Func.isWrapper; first | (rw [if_pos (by decide +kernel)]; kernel_rfl) | (rw [if_neg (by decide +kernel)]; exact ⟨rfl, rfl⟩))
    (fun os started H enc _ => lifted os started H enc)
set_option maxRecDepth 100000 in
theorem proved : Rows.CnfSimplifyCardSaid :=
  Claim7.holds_tied_plain_at .later [] [.data, .data, .data] true (true, "1ebb8a551e4ae0c27304fe2e0c0b58395341239bdca3d8e30e52d1aba9635839") false
    over (fun _ h => by cases h) (by kernel_rfl) (fun _ h => by cases h) cnfSimplify_row_tie rfl ⟨rfl, rfl⟩ (by kernel_rfl) rfl
    (fun f fn hf hfn => by
      obtain rfl : f = 7 := Option.some.inj ((show Tryd.prog.funcNamed "armature/armaturelaw19.CnfSimplify" = some 7 by kernel_rfl).symm.trans hf) |>.symm
      obtain rfl : fn = Tryd.f7 := (Option.some.inj (Tryd.func7.symm.trans hfn)).symm
      exact ⟨by kernel_rfl, fun j t ht => by
        rw [Tryd.params7] at ht
        have hm : t ∈ [35, 23] := by simpa using Array.mem_of_getElem? ht
        have hall : ([35, 23].all fun u => !Tryd.prog.wantsStandIn u) = true := by kernel_rfl
        exact (show Tryd.prog.wantsStandIn t = false by simpa using List.all_eq_true.1 hall t hm)⟩)
    (by kernel_rfl)
#print axioms proved
end Go.Proofs.YtbkjdmjiecncgaaDoor.Law5
