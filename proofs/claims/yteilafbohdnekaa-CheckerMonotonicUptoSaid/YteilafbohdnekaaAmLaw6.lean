/- CheckerMonotonic: a justified proof stays justified when clauses are appended, and when variables are added. No conditions. -/
import Derived.Test.YteilafbohdnekaaAmD4
import Derived.Test.YteilafbohdnekaaAbL2
import Derived.Test.YteilafbohdnekaaAbL3
import Derived.Test.YteilafbohdnekaaRows
import Derived.WalkKit
import Derived.ProofKit
import Derived.OpenShut
import Derived.ChangeOld
import Derived.Below
import Derived.Deep.CondSized
import Derived.JoinedCond
set_option linter.unusedSimpArgs false
set_option linter.unusedVariables false
namespace Go.Proofs.Yteilafbohdnekaa.Law6
open Go Go.Ab Go.ChangeShapes Go.WideShapes Go.ChangeAt Go.RowKit
set_option linter.unusedVariables false
theorem own : ownKnob Try.prog.godebug = none := by kernel_rfl
theorem laidOut : laidOutB Try.prog = true := by kernel_rfl
theorem rdInts : Rd Try.prog 34 (fun l : List Int => [ints l]) (fun _ => True) :=
  Rd.map (Rd.slice (e := 3) (k := 1) (by' := 8) Try.underlying34 (by kernel_rfl) (by decide) (by kernel_rfl) (by decide) (fun _ => rfl) (Rd.int Try.underlying3)) id (fun _ => rfl) (fun _ _ => trivial)
theorem rdIntss : Rd Try.prog 22 (fun l : List (List Int) => [intss l]) (fun l => l.length * 24 ≤ reachBytes) :=
  Rd.map (Rd.slice (e := 34) (k := 1) (by' := 24) Try.underlying22 (by kernel_rfl) (by decide) (by kernel_rfl) (by decide) (fun _ => rfl) rdInts) id (fun _ => rfl) (fun _ h => h.1)
theorem rdCNF : Rd Try.prog 24 (fun p : Int × List (List Int) => [.lit (.int .i64 p.1), intss p.2]) (fun _ => True) :=
  Rd.map (Rd.struct (n := 2) Try.underlying24 (by kernel_rfl) (RdF.cons (k := 1) (n := 1) rfl (by kernel_rfl) (Rd.int Try.underlying3) (RdF.cons (k := 1) (n := 0) rfl (by kernel_rfl) rdIntss RdF.nil))) (fun p => (p.1, p.2.1)) (fun _ => rfl) (fun _ _ => trivial)
theorem rdStep : Rd Try.prog 46 Go.Ab.encS (fun _ => True) :=
  Rd.map (Rd.struct (n := 3) Try.underlying46 (by kernel_rfl) (RdF.cons (k := 1) (n := 2) rfl (by kernel_rfl) (Rd.int Try.underlying3) (RdF.cons (k := 1) (n := 1) rfl (by kernel_rfl) rdInts (RdF.cons (k := 1) (n := 0) rfl (by kernel_rfl) (Rd.int Try.underlying3) RdF.nil)))) (fun p => (⟨p.1, p.2.1, p.2.2.1⟩ : StepM)) (fun p => rfl) (fun _ _ => trivial)
theorem rdSteps : Rd Try.prog 25 (fun l : List StepM => [steps l]) (fun _ => True) :=
  Rd.map (Rd.slice (e := 46) (k := 3) (by' := 40) Try.underlying25 (by kernel_rfl) (by decide) (by kernel_rfl) (by decide) (fun _ => rfl) rdStep) id (fun _ => rfl) (fun _ _ => trivial)
theorem wfB_u8 {n : Int} (h : (Lit.int .u8 n).wf = true) : 0 ≤ n ∧ n ≤ 255 := by
  have e1 : IntKind.u8.min = 0 := rfl
  have e2 : IntKind.u8.max = 255 := rfl
  simp [Lit.wf, e1, e2] at h
  omega
theorem ra_true {N : Nat → Prop} {w : World} {v : Value} (h : RA (pcx N) w v (litB true)) : v = .bool true := by
  cases h with
  | pv h => cases h; rfl
theorem bulk_one {H : Type} (d : DataW H) : 1 ≤ Rows.uptoBulk d := by
  cases d with
  | lit l => cases l <;> simp [Rows.uptoBulk]
  | nil => simp [Rows.uptoBulk]
  | ptr d => simp [Rows.uptoBulk]
  | slice elems spare => simp [Rows.uptoBulk]
  | agg parts => simp [Rows.uptoBulk]
  | iface t d => simp [Rows.uptoBulk]
  | map entries => simp [Rows.uptoBulk]
  | held h => simp [Rows.uptoBulk]
theorem bulk_part {H : Type} {d : DataW H} {l : List (DataW H)} (h : d ∈ l) : Rows.uptoBulk d ≤ Rows.uptoBulkAll l := by
  induction l with
  | nil => cases h
  | cons x r ih =>
    simp only [Rows.uptoBulkAll]
    cases List.mem_cons.1 h with
    | inl e => subst e; omega
    | inr e => have := ih e; omega
theorem bulk_len {H : Type} (l : List (DataW H)) : l.length ≤ Rows.uptoBulkAll l := by
  induction l with
  | nil => simp
  | cons x r ih => have := bulk_one x; simp only [Rows.uptoBulkAll, List.length_cons]; omega
/-- a slice has no more elements than its reading's bulk. -/
theorem slice_few {H : Type} {enc : TypeId × Value → H} {w : World} {sp : Nat → Bool} {fuel : Nat} {t e : TypeId} {k : Nat} {c : Value} {x : DataW H × List MemPlace} {N : Nat → Prop} {els : List (List PV)} (ht : Try.prog.underlying t = some (.slice e))
    (h : DataW.trod enc Try.prog w 0 sp true fuel t [c] = some x) (hr : RP N w c (.slice k els)) : els.length ≤ Rows.uptoBulk x.1 := by
  rcases DataW.trod_slice ht h with ⟨h1, rfl⟩ | ⟨a, len, cap, elems, rest, n, _, h1, rfl, _, _, _, hl, _⟩
  · obtain rfl := (List.cons.inj h1).1
    cases hr with
    | slice b off vs hl' _ _ _ _ _ _ => omega
  · obtain rfl := (List.cons.inj h1).1
    cases hr with
    | slice b off vs hl' _ _ _ _ _ _ =>
      have := bulk_len (elems.map (·.1))
      simp only [Rows.uptoBulk]
      rw [List.length_map] at this
      omega
set_option maxRecDepth 100000 in
theorem struct_few {H : Type} {enc : TypeId × Value → H} {w : World} {sp : Nat → Bool} {cs : Array Value} {d : DataW H} {ps : List MemPlace} {N : Nat → Prop} {vars : Int} {cl : List (List Int)} (h : DataW.Trod enc Try.prog w 0 sp true 24 (.agg cs) d ps)
    (hr : RA (pcx N) w (.agg cs) (.agg ([PV.lit (.int .i64 vars), intss cl].map .pv))) : cl.length ≤ Rows.uptoBulk d := by
  obtain ⟨fuel, hf⟩ := h
  obtain ⟨xs, n, _, hx, hcl, hl, hat⟩ := DataW.trod_struct Try.underlying24 hf
  cases hr with
  | agg hs hc =>
    have hs2 : cs.size = 2 := by simpa using hs
    have h1 := hat 1 _ rfl
    have e : ((Value.agg cs).cells.toList.drop 1).take 1 = [cs[1]'(by omega)] := by
      obtain ⟨l⟩ := cs
      match l, hs2 with
      | [a, b], _ => rfl
    have hxl : 1 < xs.length := by rw [hl]; decide
    rw [List.getElem?_eq_getElem hxl] at h1
    have h2 : DataW.trod enc Try.prog w 0 sp true n 22 [cs[1]'(by omega)] = some xs[1] := by rw [← e]; exact h1
    have hr1 := (hc 1 (cs[1]'(by omega)) (.pv (intss cl)) (Array.getElem?_eq_getElem (by omega)) rfl).pv_inv
    have h3 := slice_few Try.underlying22 h2 hr1
    rw [List.length_map] at h3
    obtain ⟨rfl, _⟩ := Prod.mk.inj hx
    have h4 := bulk_part (List.mem_map.2 ⟨xs[1], List.getElem_mem hxl, rfl⟩ : xs[1].1 ∈ xs.map (·.1))
    simp only [Rows.uptoBulk]
    omega

set_option maxRecDepth 100000 in
theorem lifted (os : Os) (started : os.Started) (H : Type) (enc : TypeId × Value → H) (F : Stop.Interp) :
    ReturnsInHanded {} Try.checked os 8 .any ((Rows.OpenSpec.upto Rows.checkerMonotonicSpec).pre6 enc Try.prog Try.f8 Rows.checkerMonotonicUptoRow.domain false) (((Rows.OpenSpec.upto Rows.checkerMonotonicSpec).at F).post enc Try.prog Try.f8 false true false false) := by
  refine returnsInHanded_of_cond_sized (C := Try.checked) (s := Rows.OpenSpec.upto Rows.checkerMonotonicSpec) (k := Rows.uptoSmall) rfl own started (by kernel_rfl) Try.func8
    (OpenSpec.witness (enc := enc) (C := Try.checked) (s := Rows.OpenSpec.upto Rows.checkerMonotonicSpec) (k := Rows.uptoSmall) rfl false ⟨#[], #[.agg #[.int .i64 0, .slice none 0 0], .slice none 0 0, .slice none 0 0, .int .u8 0], []⟩ 8 (by kernel_rfl) (by kernel_rfl) (by kernel_rfl)
      (x := ([.agg [.lit (.int .i64 0), .nil], .nil, .nil, .lit (.int .u8 0)], [], [])) (by kernel_rfl) rfl (by kernel_rfl)) ?_
  intro W base args ds gs before hval0 hW hcnd hkk hsz _
  have hval : ∀ (j : Nat) t v, Try.f8.params[j]? = some t → args[j]? = some v → Value.okWide Try.prog W .any base t v := hval0
  have hW' := hW
  obtain ⟨p, q, hA0, hV, rfl, hfz, hnd⟩ := hW
  have hA : DataW.TrodAll enc Try.prog W 0 (fun _ => true) true Try.f8.params.toList args.toList ds p := hA0
  rw [Try.params8] at hA hval
  obtain ⟨v0, vs0, d0, ds0, p0, q0, hargs, rfl, rfl, h0, r0⟩ := trodAll_cons hA
  obtain ⟨v1, vs1, d1, ds1, p1, q1, rfl, rfl, rfl, h1, r1⟩ := trodAll_cons r0
  obtain ⟨v2, vs2, d2, ds2, p2, q2, rfl, rfl, rfl, h2, r2⟩ := trodAll_cons r1
  obtain ⟨v3, vs3, d3, ds3, p3, q3, rfl, rfl, rfl, h3, r3⟩ := trodAll_cons r2
  obtain ⟨rfl, rfl, rfl⟩ := trodAll_nil r3
  obtain rfl : args = #[v0, v1, v2, v3] := by cases args; simp_all
  obtain ⟨rfl, rfl⟩ := trodVars_none hV
  have wt : ∀ (j : Nat) (t : TypeId) (d : DataW H), [24, 22, 25, 5][j]? = some t → [d0, d1, d2, d3][j]? = some d → ∀ n ∈ d.weights Try.prog t, n ≤ reachBytes := by
    intro j t d ht hd
    have hj : j < 4 := (List.getElem?_eq_some_iff.1 ht).1
    refine arg_weights hsz (j := j) ?_ ?_
    · rw [List.getElem?_append_left (by rw [Try.params8]; exact hj), Try.params8]; exact ht
    · rw [List.getElem?_append_left (by simpa using hj)]; exact hd
  obtain ⟨cs0, rfl⟩ := Ab.okWide_struct Try.underlying24 (hval 0 24 v0 rfl rfl)
  obtain ⟨a1, l1, c1, rfl⟩ := okWide_slice Try.underlying22 (hval 1 22 v1 rfl rfl)
  obtain ⟨a2, l2, c2, rfl⟩ := okWide_slice Try.underlying25 (hval 2 25 v2 rfl rfl)
  obtain ⟨⟨x0, y0⟩, s0, o0⟩ := arg_agg rdCNF h0 (wt 0 24 d0 rfl rfl) rfl
  obtain ⟨x1, s1, o1⟩ := arg_one rdIntss h1 (wt 1 22 d1 rfl rfl) slice_cells
  obtain ⟨x2, s2, o2⟩ := arg_one rdSteps h2 (wt 2 25 d2 rfl rfl) slice_cells
  obtain ⟨x3, rfl, e3, e3', o3⟩ := open_int Try.underlying5 (hval 3 5 v3 rfl rfl) h3
  have s3 : RA (pcx fun _ => True) W (.int .u8 x3) (.pv (.lit (.int .u8 x3))) := .pv (.lit _)
  have hbulk : Rows.uptoBulkAll ([d0, d1, d2, d3] ++ []) ≤ 1048576 := of_decide_eq_true hkk
  simp only [List.append_nil, Rows.uptoBulkAll] at hbulk
  have b0 : y0.length ≤ 1048576 := by have := struct_few h0 s0; simp only at this; omega
  have b1 : x1.length ≤ 1048576 := by
    obtain ⟨m, hm⟩ := h1
    have := slice_few Try.underlying22 hm s1.pv_inv
    rw [List.length_map] at this
    simp only at this
    omega
  have lt0 : ∀ x ∈ p0, x.block < W.heap.size := by obtain ⟨m, hm⟩ := h0; exact DataW.trod_lt m _ _ _ hm
  have lt1 : ∀ x ∈ p1, x.block < W.heap.size := by obtain ⟨m, hm⟩ := h1; exact DataW.trod_lt m _ _ _ hm
  have lt2 : ∀ x ∈ p2, x.block < W.heap.size := by obtain ⟨m, hm⟩ := h2; exact DataW.trod_lt m _ _ _ hm
  have lt3 : ∀ x ∈ p3, x.block < W.heap.size := by obtain ⟨m, hm⟩ := h3; exact DataW.trod_lt m _ _ _ hm
  clear hA0 hval0
  refine ((law6_fn x0 y0 x1 x2 x3 (wfB_u8 o3) b0 b1).calls (fun _ => True) W _ (fun _ _ => trivial) rfl ?_).mono fun e W' ⟨v, he, hv, bel⟩ => ?_
  · intro j v av hj hav
    match j, hj, hav with
    | 0, hj, hav => cases hj; cases hav; exact s0
    | 1, hj, hav => cases hj; cases hav; exact s1
    | 2, hj, hav => cases hj; cases hav; exact s2
    | 3, hj, hav => cases hj; cases hav; exact s3
    | j + 4, hj, hav => simp at hav
  · obtain rfl := ra_true hv
    subst he
    exact ⟨_, rfl, _, _, _, [], _, [], hW', trodAll_mk1 (shut_bool Try.underlying4 _), (trodAll_cons_mk (Below.trod laidOut (by kernel_rfl) (of_decide_eq_true (by kernel_rfl)) h0 bel lt0) (trodAll_cons_mk (Below.trod laidOut (by kernel_rfl) (of_decide_eq_true (by kernel_rfl)) h1 bel lt1) (trodAll_cons_mk (Below.trod laidOut (by kernel_rfl) (of_decide_eq_true (by kernel_rfl)) h2 bel lt2) (trodAll_cons_mk (Below.trod laidOut (by kernel_rfl) (of_decide_eq_true (by kernel_rfl)) h3 bel lt3) trodAll_mk0)))), rfl, bel.frame _, fun h => by cases h⟩
theorem over : Rows.checkerMonotonicUptoRow.holds Try.pinned (Rows.OpenSpec.upto Rows.checkerMonotonicSpec) :=
  OpenClaim.holds_of_cond 8 Try.f8 rfl rfl rfl rfl rfl rfl rfl ⟨rfl, rfl, rfl, rfl, rfl⟩ rfl rfl rfl rfl rfl (by kernel_rfl) Try.func8 (by kernel_rfl)
    (of_decide_eq_true (by kernel_rfl)) (by unfold Func.isWrapper; first | (rw [if_pos (by decide +kernel)]; kernel_rfl) | (rw [if_neg (by decide +kernel)]; exact ⟨rfl, rfl⟩))
    (fun os started H enc _ F => lifted os started H enc F)
theorem proved : Rows.CheckerMonotonicUptoSaid := over
#print axioms proved
end Go.Proofs.Yteilafbohdnekaa.Law6
