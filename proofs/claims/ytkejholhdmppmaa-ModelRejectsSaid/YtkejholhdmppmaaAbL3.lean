/- Loops over functions within loops over functions: a yield from a round, to a loop some frames above. -/
import Derived.Test.YtkejholhdmppmaaAbL2
import Derived.Sort.Row
import Derived.Sort.Grow
import Derived.Lib.AppendZeros
set_option linter.unusedSimpArgs false
set_option linter.unusedVariables false
namespace Go.Ab
open Go Go.RowKit
attribute [local irreducible] HS
variable {P : Program} {g : Ghost} {δ : DS} {κ : Nat → Option Nat} {a : Act} {w : World}
variable {ops : Array Oper} {rest : List Oper} {Q : Exit → DS → Prop} {dst : Option Nat} {ty : TypeId} {pos : String} {af : Array Edge}
def unD : Nat → List (Nat × AV) → List (Nat × AV)
  | 0, e => e
  | d + 1, e => unshiftE (unD d e)
theorem look_unD : ∀ (d : Nat) (e : List (Nat × AV)) (j : Nat), look (unD d e) j = look e (j + d * HS)
  | 0, e, j => by rw [Nat.zero_mul, Nat.add_zero]; rfl
  | d + 1, e, j => by
    show look (unshiftE (unD d e)) j = _
    rw [look_unshift, look_unD d e]
    congr 1
    rw [Nat.add_mul, Nat.one_mul]; omega
theorem look_round2 (e1 e : List (Nat × AV)) (j : Nat) : look (ownE e1 ++ shiftE e) j = if j < HS then look e1 (j + HS) else look e (j - HS) := by
  by_cases hj : j < HS
  · rw [if_pos hj]
    rcases look_append (ownE e1) (shiftE e) j with h | ⟨h1, h2⟩
    · rw [h, look_own, if_pos hj]
    · have h3 := look_none _ _ h1
      rw [look_own, if_pos hj] at h3
      rw [h2, look_shift_lt _ _ hj, h3]
  · rw [if_neg hj]
    have h1 : ∀ p ∈ ownE e1, p.1 ≠ j := fun p hp e' => hj (e' ▸ own_keys e1 p hp)
    have : ∀ (e1 : List (Nat × AV)), (∀ p ∈ e1, p.1 ≠ j) → look (e1 ++ shiftE e) j = look (shiftE e) j := by
      intro e1 hne
      induction e1 with
      | nil => rfl
      | cons p e1 ih =>
        rw [List.cons_append]
        show look ((p.1, p.2) :: (e1 ++ shiftE e)) j = _
        rw [look_cons, if_neg (hne p (by simp))]
        exact ih fun q hq => hne q (by simp [hq])
    rw [this _ h1]
    obtain ⟨m, rfl⟩ : ∃ m, j = m + HS := ⟨j - HS, by omega⟩
    rw [look_shift, Nat.add_sub_cancel]
theorem AW.rangeFuncU {x : Operand} {ps : Array Tmp} {asg body : Code} {f : FuncId} {first cap : List AV} {fn : Func} {c : Code} {n' : Nat} (hro : g.ro = none) (hwt : g.wt = none) (hx : δ.ev x = .clo (.func f) first cap) (ho : okT x = true)
    (hf : P.funcs[f]? = some fn) (hb : fn.body = some c) (hres : fn.results = #[]) (hn : fn.ntmps = n') (hle : Nat.ble (first.length + 1 + cap.length) n' = true) (hnH : Nat.ble n' HS = true) (hown : Nat.ble δ.n HS = true) (he : (fn.name == "runtime.NumGoroutine") = false)
    (h : ∀ (g' : Ghost) (tm : Array Value) (l : Nat), g'.ro = none → g'.wt = none → (∀ j, j < HS → g'.held (j + HS) = tm.getD j undef) → (∀ j, g'.held (j + HS + HS) = g.held (j + HS)) → tm.size = δ.n →
      AW P g' c (iterEnds δ.n δ.nx l Q) { n := n', env := enum 0 (first ++ .yld δ.nx :: cap) ++ shiftE δ.env, objs := (δ.nx, some (.loop l tm ps asg body .ready)) :: δ.objs, nx := δ.nx + 1 }) :
    AW P g (.rangeFunc x ps asg body) Q δ := by
  intro κ a w r
  have hra := r.ra hx ho
  generalize hv : a.eval x = v at hra
  cases hra with
  | @clo _ vs us _ _ hs hvs ht hus =>
    rw [hro]
    have hle' : first.length + 1 + cap.length ≤ n' := by simpa using hle
    have hnH' : n' ≤ HS := by simpa using hnH
    obtain ⟨ms, hm1, hm2, hm3⟩ := r.dfr
    refine wpIn_rangeFunc fun fnid _ => ?_
    let w1 := w.alloc (.deferred (some []))
    let lp : Loop := { state := .ready, pending := none, fn := fnid, tmps := a.tmps, params := ps, assign := asg, body, defers := w.heap.size }
    let w2 := w1.alloc (.loop lp)
    have hw1s : w1.heap.size = w.heap.size + 1 := by show (w.heap.push _).size = _; simp
    refine ⟨w.heap.size + 1, [{ target := .collected w.heap.size, args := #[] }], w2, _, w2, f, vs ++ #[.func (.yield (w.heap.size + 1)) #[] #[]] ++ us, w2, run_enterLoop_outer fnid a.tmps ps asg body, clo_run hv _ _, fun _ _ => trivial, ?_, fun h => by simp at h, ?_⟩
    · have hne : (fn.name == "runtime.NumGoroutine") = false := he
      simp [invoke, callFunc, hf, hb]
      simpa using hne
    let g' : Ghost := { B := g.B, w0 := g.w0, N0 := g.N0, held := fun j => g.val a (j - HS), ro := none, mks := w.heap.size :: (ms ++ g.mks), wt := none }
    have hr1 : Rel g δ κ a w1 := r.ext ((Below.refl _ _).alloc (Nat.le_refl _) _)
    obtain ⟨hr2, G⟩ := hr1.grow (.loop (w.heap.size + 1) a.tmps ps asg body .ready) (.loop lp) (fun C G hκ => ⟨_, lp, hκ, heap_alloc_new w1 _, hw1s, rfl, rfl, rfl, rfl, rfl, rfl⟩)
    let κ2 := upd κ δ.nx (some w1.heap.size)
    have hκ2 : κ2 δ.nx = some (w.heap.size + 1) := by show upd _ _ _ _ = _; simp [upd, hw1s]
    let δ2 : DS := { n := n', env := enum 0 (first ++ .yld δ.nx :: cap) ++ shiftE δ.env, objs := (δ.nx, some (.loop (w.heap.size + 1) a.tmps ps asg body .ready)) :: δ.objs, nx := δ.nx + 1 }
    have hcx : δ2.cx g' κ2 = (δ.addOb (.loop (w.heap.size + 1) a.tmps ps asg body .ready)).cx g κ2 := rfl
    have happ : ∀ (e1 e2 : List (Nat × AV)) (j : Nat), look (e1 ++ e2) j = look e1 j ∨ (look e1 j = .any ∧ look (e1 ++ e2) j = look e2 j) := by
      intro e1 e2 j
      induction e1 with
      | nil => exact .inr ⟨rfl, rfl⟩
      | cons p e1 ih =>
        obtain ⟨i, v⟩ := p
        rw [List.cons_append, look_cons, look_cons]
        by_cases e : i = j
        · rw [if_pos e, if_pos e]; exact .inl rfl
        · rw [if_neg e, if_neg e]; exact ih
    let args : Array Value := vs ++ #[.func (.yield (w.heap.size + 1)) #[] #[]] ++ us
    have hsz : args.size = first.length + 1 + cap.length := by simp [args]; omega
    have hrel : Rel g' δ2 κ2 { tmps := args ++ Array.replicate (fn.ntmps - args.size) undef, defers := [] } w2 :=
      { n := by show (args ++ Array.replicate (fn.ntmps - args.size) undef).size = n'; rw [Array.size_append, Array.size_replicate, hn, hsz]; omega
        dfr := ⟨[], rfl, by
            show (w.heap.size :: (ms ++ g.mks)).Nodup
            refine List.nodup_cons.2 ⟨fun hmem => ?_, hm2⟩
            have := heap_lt (hm3 _ hmem).2
            omega, fun k hk => by
            rw [List.nil_append] at hk
            rcases List.mem_cons.1 hk with rfl | hk
            · refine ⟨r.hB, ?_⟩
              rw [show w2.heap[w.heap.size]? = w1.heap[w.heap.size]? from Below.heap_alloc w1 _ _ (by omega)]
              exact heap_alloc_new w _
            · have h3 := hm3 k hk
              have hlt := heap_lt h3.2
              refine ⟨h3.1, ?_⟩
              rw [show w2.heap[k]? = w1.heap[k]? from Below.heap_alloc w1 _ _ (by omega), show w1.heap[k]? = w.heap[k]? from Below.heap_alloc w _ _ hlt]
              exact h3.2⟩
        env := fun j => by
          rw [hcx]
          by_cases hj : j < HS
          · have hval : g'.val { tmps := args ++ Array.replicate (fn.ntmps - args.size) undef, defers := [] } j = (args ++ Array.replicate (fn.ntmps - args.size) undef).getD j undef := if_pos hj
            rw [hval]
            have hget : δ2.get j = look (enum 0 (first ++ .yld δ.nx :: cap)) j := by
              rcases happ (enum 0 (first ++ .yld δ.nx :: cap)) (shiftE δ.env) j with h1 | ⟨h1, h2⟩
              · exact h1
              · show look (_ ++ _) j = _
                rw [h2, h1, look_shift_lt _ _ hj]
            rw [hget]
            by_cases hja : j < args.size
            · have hl : j < (first ++ .yld δ.nx :: cap).length := by simp; omega
              rw [look_enum _ 0 j ((first ++ .yld δ.nx :: cap)[j]) (Nat.zero_le _) (by rw [Nat.sub_zero]; exact List.getElem?_eq_getElem hl)]
              have hav : (args ++ Array.replicate (fn.ntmps - args.size) undef).getD j undef = args[j] := by
                rw [Array.getD_eq_getD_getElem?, Array.getElem?_append_left hja, Array.getElem?_eq_getElem hja]; rfl
              rw [hav]
              have hA : args[j]? = some args[j] := Array.getElem?_eq_getElem hja
              have hL : (first ++ .yld δ.nx :: cap)[j]? = some (first ++ .yld δ.nx :: cap)[j] := List.getElem?_eq_getElem hl
              generalize args[j] = u at hA ⊢
              generalize (first ++ .yld δ.nx :: cap)[j] = d at hL ⊢
              simp only [args] at hA
              by_cases h1 : j < first.length
              · rw [List.getElem?_append_left h1] at hL
                rw [Array.getElem?_append_left (by simp; omega), Array.getElem?_append_left (by omega)] at hA
                exact G.ra ((Goes.ra ⟨rfl, by rw [hw1s]; omega, fun b hb hN => ⟨hN, Below.heap_alloc w _ _ hb⟩, fun i hi => ⟨hi, rfl, fun b hκ => Below.heap_alloc w _ _ (r.lo i b (DS.lr_live hi) hκ).2⟩, fun i hi => ⟨hi, rfl⟩⟩ (hvs j u d hA hL)))
              · rw [List.getElem?_append_right (by omega)] at hL
                by_cases h2 : j = first.length
                · subst h2
                  simp at hL
                  subst hL
                  rw [Array.getElem?_append_left (by simp; omega), Array.getElem?_append_right (by omega)] at hA
                  simp [hs] at hA
                  subst hA
                  exact .yld ⟨_, by show (δ.addOb _).ob _ = _; rw [ob_addOb, if_pos rfl], rfl⟩ hκ2
                · obtain ⟨m, hm⟩ : ∃ m, j = first.length + 1 + m := ⟨j - first.length - 1, by omega⟩
                  subst hm
                  rw [show first.length + 1 + m - first.length = m + 1 by omega, List.getElem?_cons_succ] at hL
                  rw [Array.getElem?_append_right (by simp; omega)] at hA
                  have e0 : first.length + 1 + m - (vs ++ #[Value.func (.yield (w.heap.size + 1)) #[] #[]]).size = m := by simp; omega
                  rw [e0] at hA
                  exact G.ra ((Goes.ra ⟨rfl, by rw [hw1s]; omega, fun b hb hN => ⟨hN, Below.heap_alloc w _ _ hb⟩, fun i hi => ⟨hi, rfl, fun b hκ => Below.heap_alloc w _ _ (r.lo i b (DS.lr_live hi) hκ).2⟩, fun i hi => ⟨hi, rfl⟩⟩ (hus m u d hA hL)))
            · rw [look_enum_out _ 0 j (.inr (by simp; omega))]; exact .any _
          · obtain ⟨m, rfl⟩ : ∃ m, j = m + HS := ⟨j - HS, by omega⟩
            have hval : g'.val { tmps := args ++ Array.replicate (fn.ntmps - args.size) undef, defers := [] } (m + HS) = g.val a m := by
              rw [val_held]; exact congrArg (g.val a) (Nat.add_sub_cancel m HS)
            rw [hval]
            have hget : δ2.get (m + HS) = δ.get m := by
              have h0 : look (enum 0 (first ++ .yld δ.nx :: cap)) (m + HS) = .any := look_enum_out _ 0 _ (.inr (by simp; omega))
              rcases happ (enum 0 (first ++ .yld δ.nx :: cap)) (shiftE δ.env) (m + HS) with h1 | ⟨h1, h2⟩
              · -- both any, or the saved one
                have : ∀ (e1 : List (Nat × AV)), (∀ p ∈ e1, p.1 ≠ m + HS) → look (e1 ++ shiftE δ.env) (m + HS) = look (shiftE δ.env) (m + HS) := by
                  intro e1 hne
                  induction e1 with
                  | nil => rfl
                  | cons p e1 ih =>
                    rw [List.cons_append]
                    show look ((p.1, p.2) :: (e1 ++ shiftE δ.env)) _ = _
                    rw [look_cons, if_neg (hne p (by simp))]
                    exact ih (fun q hq => hne q (by simp [hq]))
                have hk : ∀ (l : List AV) (i : Nat), ∀ p ∈ enum i l, p.1 < i + l.length := by
                  intro l
                  induction l with
                  | nil => intro i p hp; simp [enum] at hp
                  | cons v l ih =>
                    intro i p hp
                    simp only [enum, List.mem_cons] at hp
                    rcases hp with rfl | hp
                    · simp
                    · have := ih (i + 1) p hp; simp; omega
                show look (_ ++ _) _ = _
                rw [this _ (fun p hp => by have := hk _ 0 p hp; simp at this; omega), look_shift]; rfl
              · show look (_ ++ _) _ = _
                rw [h2, look_shift]; rfl
            rw [hget]
            exact hr2.env m
        obj := hr2.obj, inj := hr2.inj, lo := hr2.lo, nx := hr2.nx, wt := fun k hk => (by cases hk), below := hr2.below, hB := hr2.hB, N0 := hr2.N0 }
    have hbody := h g' a.tmps (w.heap.size + 1) rfl rfl (fun j hj => (congrArg (g.val a) (Nat.add_sub_cancel j HS)).trans (by unfold Ghost.val; rw [if_pos hj])) (fun j => (congrArg (g.val a) (Nat.add_sub_cancel (j + HS) HS)).trans (val_held g a j)) r.n κ2 _ w2 hrel
    refine callsIn_of_wp_marks (n := 0) hf hb trivial (wpIn_mono hbody ?_)
    rintro e a2 w3 ⟨δ3, κ3, hq, r3⟩
    have fin : jumpD (w.heap.size + 1) Q (backD δ.n δ.nx δ3) (δ3.ob δ.nx) → LeavesInM (Fw none) 0 P fn a2.tmps (rangePost (Fw none) 0 P (w.heap.size + 1) (lift g Q) { a with defers := [{ target := .collected w.heap.size, args := #[] }] ++ a.defers }) a2.defers .returning w3 := by
      intro hj
      obtain ⟨tm3, ps3, asg3, body3, st3, hob⟩ : ∃ tm ps asg body st, δ3.ob δ.nx = some (.loop (w.heap.size + 1) tm ps asg body st) := by
        cases hoo : δ3.ob δ.nx with
        | none => rw [hoo] at hj; exact hj.elim
        | some o =>
          rw [hoo] at hj
          cases o with
          | row => exact hj.elim
          | box cs => exact hj.elim
          | mp l => exact hj.elim
          | it l seen => exact hj.elim
          | loop l' tm ps asg body st =>
            cases st with
            | ready => obtain ⟨rfl, _⟩ := hj; exact ⟨tm, ps, asg, body, _, rfl⟩
            | busy => exact hj.elim
            | over => exact hj.elim
            | done c => cases c <;> first | exact hj.elim | (obtain ⟨rfl, _⟩ := hj; exact ⟨tm, ps, asg, body, _, rfl⟩)
      refine leaves (g := g') rfl (rs := []) hres .none r3 (fun w4 r4 u hu => ?_)
      obtain ⟨b, rl, h1, h2, hbl, h3, h4, h5, h6, h7⟩ := r4.obj _ _ hob
      have h1' : κ3 δ.nx = some b := h1
      subst hbl
      have hnb : rl.state ≠ .busy := by
        rw [hob] at hj
        cases st3 with
        | ready => rw [h7.1]; simp
        | busy => exact hj.elim
        | over => exact hj.elim
        | done c => rw [h7.1]; simp
      have hend := run_endLoop (P := P) (w := w4) h2 hnb
      have hd : Dfr g { a with defers := [{ target := .collected w.heap.size, args := #[] }] ++ a.defers } (w4.putObj (w.heap.size + 1) (.loop { rl with state := .exhausted })) := by
        obtain ⟨rs4, k1, k2, k3⟩ := r4.dfr
        refine ⟨w.heap.size :: ms, by simp [hm1], ?_, fun k hk => ?_⟩
        · have : (rs4 ++ g'.mks).Nodup := k2
          exact (List.nodup_append.1 this).2.1
        · have hk' := k3 k (List.mem_append.2 (.inr hk))
          refine ⟨hk'.1, ?_⟩
          rw [World.putObj_heap_other (by intro e; subst e; rw [h2] at hk'; cases hk'.2)]
          exact hk'.2
      have rb := r4.back (g := g) (n := δ.n) (a' := { a with defers := [{ target := .collected w.heap.size, args := #[] }] ++ a.defers }) hwt rfl ⟨rfl, rfl, rfl⟩ (fun j => congrArg (g.val a) (Nat.add_sub_cancel j HS)) r.n hob h1' h2 { rl with state := .exhausted } ⟨rfl, rfl, rfl, rfl⟩ rfl hd
      refine ⟨rl.pending, _, hend, ?_⟩
      rw [hob] at hj
      cases st3 with
      | ready => rw [h7.2] at rb ⊢; exact ⟨_, κ3, hj.2, rb⟩
      | busy => exact hj.elim
      | over => exact hj.elim
      | done c =>
        rw [h7.2] at rb ⊢
        cases c with
        | ret => exact wpIn_ret ⟨_, κ3, hj.2, rb⟩
        | exit id => exact wpIn_exit ⟨_, κ3, hj.2, rb⟩
        | _ => exact hj.elim
    cases e with
    | normal => exact fin hq
    | ret => exact fin hq
    | _ => exact hq.elim


theorem AOps.yieldD (d : Nat) {x : Operand} {ys : List Operand} {tys : Array TypeId} {i l n0 : Nat} {tm : Array Value} {ps : List Tmp} {asg body : Code} (hwt : g.wt = none) (hheld : ∀ j, j < HS → g.held (j + HS + d * HS) = tm.getD j undef) (htm : tm.size = n0) (hn0 : Nat.ble n0 HS = true)
    (hx : δ.ev x = .yld i) (hob : δ.ob i = some (.loop l tm ps.toArray asg body .ready)) (ho : okT x = true) (hys : ys.all okT = true) (hlen : Nat.beq ys.length ps.length = true) (hps : ps.all (fun t => Nat.blt t n0) = true) (hd' : okD δ.n dst = true)
    (h : ∀ g' : Ghost, g'.ro = some l → g'.wt = none → (∀ j, g'.held (j + HS + HS) = g.held (j + HS)) → AW P g' asg (thenD (fun δ1 => isLp δ1 i l .ready ∧ AW P g' body (roundEnds δ.n i l (fun b st δ2 => AOps .plain P g ops rest Q ((δ2.lpSt i st).putd dst (litB b)))) (δ1.lpSt i .busy)) (fun _ _ => False)) { n := n0, env := parE ps (ys.map δ.ev) (ownE (unD d δ.env) ++ shiftE δ.env), objs := δ.objs, nx := δ.nx }) :
    AOps .plain P g ops (⟨dst, .call { callee := .value x, args := ys.toArray, argTypes := tys }, ty, pos, af, none⟩ :: rest) Q δ := by
  intro κ a w r
  have hra := r.ra hx ho
  generalize hv : a.eval x = v at hra
  cases hra with
  | @yld _ b hl hκ =>
    obtain ⟨b', rl, h1, h2, hbl, h3, h4, h5, h6, h7⟩ := r.obj _ _ hob
    have : b' = b := Option.some.inj (h1.symm.trans hκ)
    subst this
    subst hbl
    obtain ⟨ms, hm1, hm2, hm3⟩ := r.dfr
    have hlen' : ys.length = ps.length := Nat.eq_of_beq_eq_true hlen
    show wpListIn _ _ P ops _ (_ :: rest) a w
    refine wpl_plain rfl rfl fun K hK' => ?_
    unfold Oper.wpF
    rw [run_yieldOp hv h2 (by rw [h4]; simpa using hlen'), Oper.uponIn_round]
    refine ⟨fun h => by simp at h, ?_⟩
    let tm' : Array Value := (rl.params.zip (ys.toArray.map a.eval)).foldl (fun tmps (t, a) => tmps.setIfInBounds t a) rl.tmps
    have htm' : tm' = (ps.zip (ys.map a.eval)).foldl (fun tmps (t, a) => tmps.setIfInBounds t a) tm := by
      show (rl.params.zip (ys.toArray.map a.eval)).foldl _ rl.tmps = _
      rw [h3, h4, ← Array.foldl_toList, Array.toList_zip]
      simp
    let g' : Ghost := { B := g.B, w0 := g.w0, N0 := g.N0, held := fun j => g.val a (j - HS), ro := some b', mks := ms ++ g.mks, wt := none }
    have hheld' : ∀ j, g'.held (j + HS) = g.val a j := fun j => congrArg (g.val a) (Nat.add_sub_cancel j HS)
    have hrel : Rel g' { n := n0, env := parE ps (ys.map δ.ev) (ownE (unD d δ.env) ++ shiftE δ.env), objs := δ.objs, nx := δ.nx } κ { tmps := tm', defers := [] } w :=
      { n := by show tm'.size = n0; rw [htm', par_size]; exact htm
        dfr := ⟨[], rfl, hm2, hm3⟩
        env := fun j => by
          have hp := par_ok (C := δ.cx g κ) (w := w) (hv := g'.held) ps (ys.map a.eval) (ys.map δ.ev) tm (ownE (unD d δ.env) ++ shiftE δ.env) (by simpa using hlen') (by simpa using hlen')
            (fun t ht => by
              have h8 := (List.all_eq_true.1 hps) t ht
              have h9 : t < n0 := by simpa using h8
              have h10 : n0 ≤ HS := by simpa using hn0
              exact ⟨htm ▸ h9, Nat.lt_of_lt_of_le h9 h10⟩)
            (fun j u v h8 h9 => by
              simp only [List.getElem?_map, Option.map_eq_some_iff] at h8 h9
              obtain ⟨y, h8, rfl⟩ := h8
              obtain ⟨y', h9, rfl⟩ := h9
              rw [h8] at h9; cases h9
              exact r.evc y (okT_spec ((List.all_eq_true.1 hys) y (List.mem_of_getElem? h8))))
            (fun j => by
              rw [look_round2]
              by_cases hj : j < HS
              · rw [if_pos hj, if_pos hj, ← hheld j hj, look_unD]
                have := r.env (j + HS + d * HS)
                rw [show g.val a (j + HS + d * HS) = g.held (j + HS + d * HS) from by unfold Ghost.val; rw [if_neg (by omega)]] at this
                exact this
              · rw [if_neg hj, if_neg hj]
                exact r.env (j - HS)) j
          rw [← htm'] at hp
          exact hp
        obj := r.obj, inj := r.inj, lo := r.lo, nx := r.nx, wt := fun k hk => (by cases hk), below := r.below, hB := r.hB, N0 := r.N0 }
    rw [h5, h6]
    refine roundIn_of_wpIn (F := Fw g.ro) trivial (wpIn_mono (h g' rfl rfl (fun j => (congrArg (g.val a) (Nat.add_sub_cancel (j + HS) HS)).trans (val_held g a j)) κ _ w hrel) ?_)
    rintro e a1 w1 ⟨δ1, κ1, hq, r1⟩
    cases e with
    | normal =>
      obtain ⟨hlp, hq⟩ := hq
      have hlp0 := hlp
      obtain ⟨tm1, ps1, asg1, body1, ho1⟩ := hlp
      obtain ⟨b1, rl1, k1, k2, kbl, k3, k4, k5, k6, k7⟩ := r1.obj _ _ ho1
      subst kbl
      have r1' := r1.lpSt rfl (st' := .busy) (r' := { rl1 with state := .busy }) hlp0 k2 ⟨rfl, rfl, rfl, rfl⟩ rfl
      refine ⟨_, run_beginRound k2 k7.1, wpIn_mono (hq κ1 a1 _ r1') ?_⟩
      rintro e2 a2 w2 ⟨δ2, κ2, hq2, r2⟩
      have fin : ∀ (jump : Option Code) (st : LpSt) (bb : Bool), bb = jump.isNone → isLp δ2 i b1 .busy → AOps .plain P g ops rest Q (((roundBack δ.n δ2).lpSt i st).putd dst (litB bb)) →
          (match st with | .ready => jump = none | .done c => jump = some c | _ => False) →
          ∃ v w', (Instr.endRound b1 jump).run P w2 = .ok v w' ∧ K (a.put dst v) w' := by
        intro jump st bb hbb hl2 hA hst
        have hl20 := hl2
        obtain ⟨tm2, ps2, asg2, body2, ho2⟩ := hl2
        obtain ⟨b2, rl2, m1, m2, mbl, m3, m4, m5, m6, m7⟩ := r2.obj _ _ ho2
        subst mbl
        have r3 := r2.lpSt rfl (st' := st) (r' := { rl2 with state := if jump.isNone then .ready else .done, pending := jump }) hl20 m2 ⟨rfl, rfl, rfl, rfl⟩ (by
          cases st with
          | ready => simp only at hst; subst hst; exact ⟨rfl, rfl⟩
          | done c => simp only at hst; subst hst; exact ⟨rfl, rfl⟩
          | _ => exact hst.elim)
        refine ⟨_, _, run_endRound jump m2, ?_⟩
        have hd : Dfr g a (w2.putObj b2 (.loop { rl2 with state := if jump.isNone then .ready else .done, pending := jump })) := by
          obtain ⟨rs4, k1, k2, k3⟩ := r3.dfr
          exact ⟨ms, hm1, (List.nodup_append.1 k2).2.1, fun k hk => k3 k (List.mem_append.2 (.inr hk))⟩
        have r4 := r3.frame (g := g) (a' := a) (n := δ.n) hwt rfl ⟨rfl, rfl, rfl⟩ hheld' r.n hd
        have he : roundBack δ.n (δ2.lpSt i st) = (roundBack δ.n δ2).lpSt i st := by
          unfold DS.lpSt
          have : (roundBack δ.n δ2).ob i = δ2.ob i := rfl
          rw [this, ho2]; rfl
        rw [he] at r4
        subst hbb
        have hnn : ((roundBack δ.n δ2).lpSt i st).n = δ.n := by
          unfold DS.lpSt
          have : (roundBack δ.n δ2).ob i = δ2.ob i := rfl
          rw [this, ho2]; rfl
        exact hK' _ _ (hA κ2 _ _ (r4.putd (v := .bool jump.isNone) (okD_spec (by rw [hnn]; exact hd')) (.pv (.lit _))))
      cases e2 with
      | normal => exact fin none .ready true rfl hq2.1 hq2.2 rfl
      | ret => exact fin (some .ret) (.done .ret) false rfl hq2.1 hq2.2 rfl
      | exit id => exact fin (some (.exit id)) (.done (.exit id)) false rfl hq2.1 hq2.2 rfl
      | _ => exact hq2.elim
    | _ => exact hq.elim

theorem AW.rangeFuncUH {x : Operand} {ps : List Tmp} {asg body : Code} {f : FuncId} {first cap : List AV} {fn : Func} {c : Code} {n' : Nat} (hro : g.ro = none) (hwt : g.wt = none) (hx : δ.ev x = .clo (.func f) first cap) (ho : okT x = true)
    (hf : P.funcs[f]? = some fn) (hb : fn.body = some c) (hres : fn.results = #[]) (hn : fn.ntmps = n') (hle : Nat.ble (first.length + 1 + cap.length) n' = true) (hnH : Nat.ble n' HS = true) (hown : Nat.ble δ.n HS = true) (he : (fn.name == "runtime.NumGoroutine") = false)
    (h : ∀ (g' : Ghost) (tm : Array Value) (l : Nat) (ps' : Array Tmp) (asg' body' : Code), LpCode ps' asg' body' ps asg body → g'.ro = none → g'.wt = none → (∀ j, j < HS → g'.held (j + HS) = tm.getD j undef) → (∀ j, g'.held (j + HS + HS) = g.held (j + HS)) → tm.size = δ.n →
      AW P g' c (iterEnds δ.n δ.nx l Q) { n := n', env := enum 0 (first ++ .yld δ.nx :: cap) ++ shiftE δ.env, objs := (δ.nx, some (.loop l tm ps' asg' body' .ready)) :: δ.objs, nx := δ.nx + 1 }) :
    AW P g (.rangeFunc x ps.toArray asg body) Q δ :=
  AW.rangeFuncU hro hwt hx ho hf hb hres hn hle hnH hown he fun g' tm l h1 h2 h3 h4 h5 => h g' tm l _ _ _ ⟨rfl, rfl, rfl⟩ h1 h2 h3 h4 h5
theorem AOps.yieldDN (d : Nat) {x : Operand} {ys : List Operand} {tys : Array TypeId} {i l n0 : Nat} {tm : Array Value} {ps : List Tmp} {asg body : Code} {ps' : Array Tmp} {asg' body' : Code} (hcode : LpCode ps' asg' body' ps asg body) (hwt : g.wt = none) (hheld : ∀ j, j < HS → g.held (j + HS + d * HS) = tm.getD j undef) (htm : tm.size = n0)
    (hn0 : Nat.ble n0 HS = true) (hx : δ.ev x = .yld i) (hob : δ.ob i = some (.loop l tm ps' asg' body' .ready)) (ho : okT x = true) (hys : ys.all okT = true) (hlen : Nat.beq ys.length ps.length = true) (hps : ps.all (fun t => Nat.blt t n0) = true) (hd' : okD δ.n dst = true)
    (h : ∀ g' : Ghost, g'.ro = some l → g'.wt = none → (∀ j, g'.held (j + HS + HS) = g.held (j + HS)) → AW P g' asg (thenD (fun δ1 => isLp δ1 i l .ready ∧ AW P g' body (roundEndsN P g ops rest Q dst δ.n i l) (stO δ1 i .busy)) (fun _ _ => False)) { n := n0, env := parE ps (ys.map δ.ev) (ownE (unD d δ.env) ++ shiftE δ.env), objs := δ.objs, nx := δ.nx }) :
    AOps .plain P g ops (⟨dst, .call { callee := .value x, args := ys.toArray, argTypes := tys }, ty, pos, af, none⟩ :: rest) Q δ := by
  obtain ⟨rfl, rfl, rfl⟩ := hcode
  refine AOps.yieldD d hwt hheld htm hn0 hx hob ho hys hlen hps hd' fun g' h1 h2 hu => (h g' h1 h2 hu).mono ?_
  intro e δ1 he
  cases e with
  | normal =>
    obtain ⟨h3, h4⟩ := he
    refine ⟨h3, ?_⟩
    rw [stO_eq _ h3]
    refine AW.mono h4 ?_
    intro e2 δ2 he2
    cases e2 with
    | normal => exact ⟨he2.1, by show AOps .plain P g ops rest Q (((roundBack δ.n δ2).lpSt i .ready).putd dst (litB true)); rw [stO_eq .ready (isLp_back (n := δ.n) he2.1)]; exact he2.2⟩
    | ret => exact ⟨he2.1, by show AOps .plain P g ops rest Q (((roundBack δ.n δ2).lpSt i (.done .ret)).putd dst (litB false)); rw [stO_eq (.done .ret) (isLp_back (n := δ.n) he2.1)]; exact he2.2⟩
    | exit id => exact ⟨he2.1, by show AOps .plain P g ops rest Q (((roundBack δ.n δ2).lpSt i (.done (.exit id))).putd dst (litB false)); rw [stO_eq (.done (.exit id)) (isLp_back (n := δ.n) he2.1)]; exact he2.2⟩
    | _ => exact he2.elim
  | _ => exact he.elim
theorem AOps.yieldN0 {x : Operand} {ys : List Operand} {tys : Array TypeId} {i l n0 : Nat} {tm : Array Value} {ps : List Tmp} {asg body : Code} {ps' : Array Tmp} {asg' body' : Code} (hcode : LpCode ps' asg' body' ps asg body) (hwt : g.wt = none) (hheld : ∀ j, j < HS → g.held (j + HS) = tm.getD j undef) (htm : tm.size = n0)
    (hn0 : Nat.ble n0 HS = true) (hx : δ.ev x = .yld i) (hob : δ.ob i = some (.loop l tm ps' asg' body' .ready)) (ho : okT x = true) (hys : ys.all okT = true) (hlen : Nat.beq ys.length ps.length = true) (hps : ps.all (fun t => Nat.blt t n0) = true) (hd' : okD δ.n dst = true)
    (h : ∀ g' : Ghost, g'.ro = some l → g'.wt = none → (∀ j, g'.held (j + HS + HS) = g.held (j + HS)) → AW P g' asg (thenD (fun δ1 => isLp δ1 i l .ready ∧ AW P g' body (roundEndsN P g ops rest Q dst δ.n i l) (stO δ1 i .busy)) (fun _ _ => False)) { n := n0, env := parE ps (ys.map δ.ev) (ownE (δ.env) ++ shiftE δ.env), objs := δ.objs, nx := δ.nx }) :
    AOps .plain P g ops (⟨dst, .call { callee := .value x, args := ys.toArray, argTypes := tys }, ty, pos, af, none⟩ :: rest) Q δ := by
  exact AOps.yieldDN 0 hcode hwt (fun j hj => (congrArg g.held (by omega)).trans (hheld j hj)) htm hn0 hx hob ho hys hlen hps hd' h
theorem AOps.yieldN2 {x : Operand} {ys : List Operand} {tys : Array TypeId} {i l n0 : Nat} {tm : Array Value} {ps : List Tmp} {asg body : Code} {ps' : Array Tmp} {asg' body' : Code} (hcode : LpCode ps' asg' body' ps asg body) (hwt : g.wt = none) (hheld : ∀ j, j < HS → g.held (j + HS + 2 * HS) = tm.getD j undef) (htm : tm.size = n0)
    (hn0 : Nat.ble n0 HS = true) (hx : δ.ev x = .yld i) (hob : δ.ob i = some (.loop l tm ps' asg' body' .ready)) (ho : okT x = true) (hys : ys.all okT = true) (hlen : Nat.beq ys.length ps.length = true) (hps : ps.all (fun t => Nat.blt t n0) = true) (hd' : okD δ.n dst = true)
    (h : ∀ g' : Ghost, g'.ro = some l → g'.wt = none → (∀ j, g'.held (j + HS + HS) = g.held (j + HS)) → AW P g' asg (thenD (fun δ1 => isLp δ1 i l .ready ∧ AW P g' body (roundEndsN P g ops rest Q dst δ.n i l) (stO δ1 i .busy)) (fun _ _ => False)) { n := n0, env := parE ps (ys.map δ.ev) (ownE (unshiftE (unshiftE (δ.env))) ++ shiftE δ.env), objs := δ.objs, nx := δ.nx }) :
    AOps .plain P g ops (⟨dst, .call { callee := .value x, args := ys.toArray, argTypes := tys }, ty, pos, af, none⟩ :: rest) Q δ := by
  exact AOps.yieldDN 2 hcode hwt (fun j hj => hheld j hj) htm hn0 hx hob ho hys hlen hps hd' h
theorem AOps.yieldN4 {x : Operand} {ys : List Operand} {tys : Array TypeId} {i l n0 : Nat} {tm : Array Value} {ps : List Tmp} {asg body : Code} {ps' : Array Tmp} {asg' body' : Code} (hcode : LpCode ps' asg' body' ps asg body) (hwt : g.wt = none) (hheld : ∀ j, j < HS → g.held (j + HS + 4 * HS) = tm.getD j undef) (htm : tm.size = n0)
    (hn0 : Nat.ble n0 HS = true) (hx : δ.ev x = .yld i) (hob : δ.ob i = some (.loop l tm ps' asg' body' .ready)) (ho : okT x = true) (hys : ys.all okT = true) (hlen : Nat.beq ys.length ps.length = true) (hps : ps.all (fun t => Nat.blt t n0) = true) (hd' : okD δ.n dst = true)
    (h : ∀ g' : Ghost, g'.ro = some l → g'.wt = none → (∀ j, g'.held (j + HS + HS) = g.held (j + HS)) → AW P g' asg (thenD (fun δ1 => isLp δ1 i l .ready ∧ AW P g' body (roundEndsN P g ops rest Q dst δ.n i l) (stO δ1 i .busy)) (fun _ _ => False)) { n := n0, env := parE ps (ys.map δ.ev) (ownE (unshiftE (unshiftE (unshiftE (unshiftE (δ.env))))) ++ shiftE δ.env), objs := δ.objs, nx := δ.nx }) :
    AOps .plain P g ops (⟨dst, .call { callee := .value x, args := ys.toArray, argTypes := tys }, ty, pos, af, none⟩ :: rest) Q δ := by
  exact AOps.yieldDN 4 hcode hwt (fun j hj => hheld j hj) htm hn0 hx hob ho hys hlen hps hd' h
theorem AOps.yieldN6 {x : Operand} {ys : List Operand} {tys : Array TypeId} {i l n0 : Nat} {tm : Array Value} {ps : List Tmp} {asg body : Code} {ps' : Array Tmp} {asg' body' : Code} (hcode : LpCode ps' asg' body' ps asg body) (hwt : g.wt = none) (hheld : ∀ j, j < HS → g.held (j + HS + 6 * HS) = tm.getD j undef) (htm : tm.size = n0)
    (hn0 : Nat.ble n0 HS = true) (hx : δ.ev x = .yld i) (hob : δ.ob i = some (.loop l tm ps' asg' body' .ready)) (ho : okT x = true) (hys : ys.all okT = true) (hlen : Nat.beq ys.length ps.length = true) (hps : ps.all (fun t => Nat.blt t n0) = true) (hd' : okD δ.n dst = true)
    (h : ∀ g' : Ghost, g'.ro = some l → g'.wt = none → (∀ j, g'.held (j + HS + HS) = g.held (j + HS)) → AW P g' asg (thenD (fun δ1 => isLp δ1 i l .ready ∧ AW P g' body (roundEndsN P g ops rest Q dst δ.n i l) (stO δ1 i .busy)) (fun _ _ => False)) { n := n0, env := parE ps (ys.map δ.ev) (ownE (unshiftE (unshiftE (unshiftE (unshiftE (unshiftE (unshiftE (δ.env))))))) ++ shiftE δ.env), objs := δ.objs, nx := δ.nx }) :
    AOps .plain P g ops (⟨dst, .call { callee := .value x, args := ys.toArray, argTypes := tys }, ty, pos, af, none⟩ :: rest) Q δ := by
  exact AOps.yieldDN 6 hcode hwt (fun j hj => hheld j hj) htm hn0 hx hob ho hys hlen hps hd' h
end Go.Ab
/- Maps from numbers to numbers; the address of a field, taken first. -/
namespace Go.Ab
open Go Go.RowKit
def cntI (l : List (Int × Int)) : List (Int × AV) := l.map fun p => (p.1, litI p.2)
def getL : List (Int × Int) → Int → Int
  | [], _ => 0
  | (k, v) :: l, m => if m = k then v else getL l m
def setL' : List (Int × Int) → Int → Int → List (Int × Int)
  | [], m, n => [(m, n)]
  | (k, v) :: l, m, n => if m = k then (k, n) :: l else (k, v) :: setL' l m n
theorem lookI_cnt : ∀ (l : List (Int × Int)) (m : Int), (lookI (cntI l) m).getD (.pv (.lit (.int .i64 0))) = litI (getL l m)
  | [], _ => rfl
  | (k, v) :: l, m => by
    show (if m = k then some (litI v) else lookI (cntI l) m).getD _ = litI (if m = k then v else getL l m)
    by_cases h : m = k
    · rw [if_pos h, if_pos h]; rfl
    · rw [if_neg h, if_neg h]; exact lookI_cnt l m
theorem updI_cnt : ∀ (l : List (Int × Int)) (m n : Int), updI (cntI l) m (litI n) = cntI (setL' l m n)
  | [], _, _ => rfl
  | (k, v) :: l, m, n => by
    show (if m = k then (k, litI n) :: cntI l else (k, litI v) :: updI (cntI l) m (litI n)) = cntI (if m = k then (k, n) :: l else (k, v) :: setL' l m n)
    by_cases h : m = k
    · rw [if_pos h, if_pos h]; rfl
    · rw [if_neg h, if_neg h, updI_cnt l m n]; rfl
theorem getL_set : ∀ (l : List (Int × Int)) (m n x : Int), getL (setL' l m n) x = if x = m then n else getL l x
  | [], m, n, x => rfl
  | (k, v) :: l, m, n, x => by
    unfold setL'
    by_cases h : m = k
    · rw [if_pos h]
      show (if x = k then n else getL l x) = if x = m then n else (if x = k then v else getL l x)
      by_cases hx : x = m
      · rw [if_pos hx, if_pos (hx.trans h)]
      · rw [if_neg hx, if_neg (fun e => hx (e.trans h.symm)), if_neg (fun e => hx (e.trans h.symm))]
    · rw [if_neg h]
      show (if x = k then v else getL (setL' l m n) x) = if x = m then n else (if x = k then v else getL l x)
      rw [getL_set l m n x]
      by_cases hx : x = k
      · rw [if_pos hx, if_pos hx, if_neg (fun e => h (e.symm.trans hx))]
      · rw [if_neg hx, if_neg hx]
section
variable {P : Program} {g : Ghost} {δ δ' : DS} {q : Md}
variable {ops : Array Oper} {rest : List Oper} {Q : Exit → DS → Prop} {dst : Option Nat} {ty : TypeId} {pos : String} {af : Array Edge}
theorem AOps.lookup_cnt {x y : Operand} {t kt et : TypeId} {i : Nat} {l : List (Int × Int)} {m : Int} (hx : δ.ev x = .mapr i) (hob : δ.ob i = some (.mp (mpI (cntI l)))) (hy : δ.ev y = litI m) (ht : P.underlying t = some (.map kt et)) (hk : P.underlying kt = some (.int .i64)) (hz : (P.info? et).bind (·.zero) = some (.int .i64 0))
    (ho : okT x = true) (ho' : okT y = true) (hd : okD δ.n dst = true) (hK : AOps q P g ops rest Q (δ.putd dst (litI (getL l m)))) : AOps q P g ops (⟨dst, .lookup t x y false, ty, pos, af, none⟩ :: rest) Q δ :=
  AOps.lookup hx hob hy ht hk hz (lookI_cnt l m) ho ho' hd hK
theorem AOps.mapUpdate_cnt {x y z : Operand} {t kt et : TypeId} {i : Nat} {l : List (Int × Int)} {m n : Int} (hx : δ.ev x = .mapr i) (hob : δ.ob i = some (.mp (mpI (cntI l)))) (hy : δ.ev y = litI m) (hz : δ.ev z = litI n) (ht : P.underlying t = some (.map kt et)) (hk : P.underlying kt = some (.int .i64))
    (ho : okT x = true) (ho' : okT y = true) (hoz : okT z = true) (hd : okD δ.n dst = true) (hwt : g.wt = none)
    (hK : AOps .plain P g ops rest Q ((δ.setOb i (some (.mp (mpI (cntI (setL' l m n)))))).putd dst .any)) : AOps .plain P g ops (⟨dst, .mapUpdate t x y z, ty, pos, af, none⟩ :: rest) Q δ :=
  AOps.eff rfl rfl (Eff.mapUpdate hx hob hy hz rfl ht hk ho ho' hoz hd (wtOk_none hwt i)) (by rw [updI_cnt]; exact hK)
theorem AOps.makeCnt {t : TypeId} (hd : okD δ.n dst = true) (hK : AOps .plain P g ops rest Q ((δ.addOb (.mp (mpI (cntI [])))).putd dst (.mapr δ.nx))) : AOps .plain P g ops (⟨dst, .makeMap t none, ty, pos, af, none⟩ :: rest) Q δ := AOps.makeMap hd hK
theorem cnt_ids (l : List (Int × Int)) (f h : Nat → Bool) : ∀ p ∈ mpI (cntI l), p.2.ids f h = true := by
  intro p hp
  simp only [mpI, cntI, List.map_map, List.mem_map] at hp
  obtain ⟨x, _, rfl⟩ := hp
  rfl
theorem WO.cnt {i : Nat} {l : List (Int × Int)} (h : δ.ob i = some (.mp (mpI (cntI l)))) : WO δ δ' i (.mp (mpI (cntI l))) := .mp h (cnt_ids l _ _)
theorem WO.cntE {i : Nat} {l l' : List (Int × Int)} (h : δ.ob i = some (.mp (mpI (cntI l)))) (e : l = l') : WO δ δ' i (.mp (mpI (cntI l'))) := e ▸ .cnt h
variable {t n : Nat} {K : DS → Prop}
theorem inlEnds_rmapr {i : Nat} (ht : Nat.blt t HS = true) (h : δ.get t = .mapr i) (hK : K ((roundBack n δ).putd dst (.mapr i))) : inlEnds P [.tmp t] n dst K .ret δ := inlEnds_r (.one (.tmp ht h)) hK
theorem inlEnds_rclo {f : Go.Fn} {a b : List AV} (ht : Nat.blt t HS = true) (h : δ.get t = .clo f a b) (hK : K ((roundBack n δ).putd dst (.clo f a b))) : inlEnds P [.tmp t] n dst K .ret δ := inlEnds_r (.one (.tmp ht h)) hK
end
theorem Frees.fieldAddr {P : Program} {δ : DS} {dst : Option Nat} {ty : TypeId} {pos : String} {af : Array Edge} {gd : Option (Tmp × Bool)} (s : TypeId) (f k : Nat) {x : Operand} {i off : Nat} (hx : δ.ev x = .ptr i off) (hB : offB P s f k = true) (ho : okT x = true) :
    Frees P ⟨dst, .fieldAddr s x f, ty, pos, af, gd⟩ δ (.ptr i (off + k)) := by
  intro g κ a w r
  unfold offB at hB
  split at hB
  · rename_i fs hs
    split at hB
    · rename_i fld hf
      simp only [Bool.and_eq_true, beq_iff_eq] at hB
      have hk := Nat.eq_of_beq_eq_true hB.1
      subst hk
      have hra := r.ra hx ho
      generalize hu : a.eval x = u at hra
      cases hra with
      | ptr hl hκ => exact ⟨_, fun w' => by have := run_fieldAddr (dst := dst) (ty := ty) (pos := pos) (af := af) hs hf hB.2 hu w'; simpa [execOp] using this, .ptr hl hκ⟩
    · cases hB
  · cases hB
section
variable {P : Program} {g : Ghost} {δ : DS} {l : List Oper} {late dn : List Nat} {k : Wt} {QD : Exit → DS → Prop}
/-- two that may come up, the second a late one. -/
theorem AR.step2L {i j : Nat} {o p : Oper} (hl : Nat.blt dn.length l.length = true) (hr : readyIs l dn [i, j] = true) (ho : l[i]? = some o) (hp : l[j]? = some p) (hlt : lateIn late (setL l.length (j :: dn)) = true)
    (h : ∀ g' : Ghost, g'.ro = g.ro → (∀ j, k.2.2 ≤ j → g'.wtOk j) → AOps .plain P g' l.toArray [o] (onlyN (AR P g k late l QD (i :: dn))) δ)
    (h' : ∀ g' : Ghost, g'.ro = g.ro → g'.wt = none → AOps .plain P g' l.toArray [p] (onlyN (AR P g k late l QD (j :: dn))) δ) : AR P g k late l QD dn δ :=
  AR.all hl hr (by simp) fun i' hi' => by
    have hw : ∀ i', ∀ j, k.2.2 ≤ j → (gOf g k late (setL l.length (i' :: dn))).wtOk j := by
      intro i' j hj k' hk'
      have : (if lateIn late (setL l.length (i' :: dn)) = true then none else some k) = some k' := hk'
      split at this
      · cases this
      · cases this; exact hj
    simp only [List.mem_cons, List.not_mem_nil, or_false] at hi'
    rcases hi' with rfl | rfl
    · exact ⟨o, ho, h _ rfl (hw _)⟩
    · exact ⟨p, hp, h' _ rfl (if_pos hlt)⟩
end
end Go.Ab
/- In the midst of a region that draws its order: operations that only read are taken in one order; the watch over memory begins anew. -/
namespace Go.Ab
open Go Go.RowKit
variable {P : Program} {g : Ghost} {δ : DS} {k : Wt} {late : List Nat} {l : List Oper} {dn : List Nat} {QD : Exit → DS → Prop} {ro : Option Nat}

/-- an edge straight from i to j. -/
def directB (ops : Array Oper) (i j : Nat) : Bool := match ops[j]? with
  | some o => o.after.any fun e => Region.binds .any e && e.on == i
  | none => false
theorem directB_waits {ops : Array Oper} {i j n : Nat} (h : directB ops i j = true) : waitsB ops i (n + 1) j = true := by
  unfold directB at h
  unfold waitsB
  cases ho : ops[j]? with
  | none => rw [ho] at h; cases h
  | some o =>
    rw [ho] at h
    simp only at h ⊢
    obtain ⟨e, he, hb⟩ := Array.any_eq_true'.1 h
    refine Array.any_eq_true'.2 ⟨e, he, ?_⟩
    simp only [Bool.and_eq_true, Bool.or_eq_true] at hb ⊢
    exact ⟨hb.1, .inl hb.2⟩
/-- as firstB; a late operation's own edges are looked at first. -/
def firstD (l : List Oper) (late : List Nat) : List Nat → List Nat → Bool
  | [], _ => true
  | i :: r, dn => freeB l late dn i && late.all (fun j => directB l.toArray i j || waitsB l.toArray i l.length j) && firstD l late r (i :: dn)
theorem firstD_first : ∀ (l2 dn : List Nat), firstD l late l2 dn = true → firstB l late l2 dn = true
  | [], _, _ => rfl
  | i :: r, dn, h => by
    unfold firstD at h
    unfold firstB
    simp only [Bool.and_eq_true] at h ⊢
    refine ⟨⟨h.1.1, List.all_eq_true.2 fun j hj => ?_⟩, firstD_first r _ h.2⟩
    have h1 := (List.all_eq_true.1 h.1.2) j hj
    rcases Bool.or_eq_true _ _ ▸ h1 with h2 | h2
    · cases hl : l.length with
      | zero => simp only [List.length_eq_zero_iff] at hl; subst hl; simp [directB] at h2
      | succ n => exact directB_waits h2
    · exact h2
theorem AR.reads (l2 : List Nat) (hB : firstD l late l2 dn = true) (hL : lateIn late (setL l.length dn) = false) (hle : Nat.ble (l2.length + dn.length) l.length = true)
    (h : ∀ g' : Ghost, g'.ro = g.ro → AOps .held P g' l.toArray (pick l l2) (onlyN fun δ' => ∀ k' : Wt, k'.2.2 = δ.nx → AR P g k' late l QD (l2.reverse ++ dn) δ') δ) : AR P g k late l QD dn δ := by
  intro hdc κ a w r
  have hle' : l2.length + dn.length ≤ l.length := by simpa using hle
  have h1 := h (gOf g k late (setL l.length dn)) rfl κ a w r
  have hwt := r.wt k (show (if lateIn late (setL l.length dn) = true then none else some k) = some k by rw [hL]; rfl)
  obtain ⟨k', hk⟩ : ∃ k' : Wt, k' = (w, (fun b => b < w.heap.size ∧ ∀ i, δ.lr i → κ i ≠ some b), δ.nx) := ⟨_, rfl⟩
  have hsub : ∀ listed w', Sof k' late listed w' → Sof k late listed w' := by
    intro listed w' h3 hl b hb
    obtain ⟨h4, h5⟩ := hwt.1 b hb
    have h6 : b < w.heap.size := by
      rw [Array.getElem?_eq_getElem h4] at h5
      exact (Array.getElem?_eq_some_iff.1 h5).1
    have h7 : k'.2.1 b := by
      rw [hk]
      exact ⟨h6, fun i hi hκ => hwt.2 i b ⟨_, hi⟩ (.inl hi) hκ hb⟩
    have h8 := (h3 hl b h7).2
    rw [hk] at h8
    exact ⟨h4, h8.trans h5⟩
  have hfrom : ∀ (fuel : Nat) (listed : Array Bool) (a : Act) (w' : World), wpAnyL g.ro P l.toArray (postN g QD) (Sof k' late) fuel listed a w' → wpAnyL g.ro P l.toArray (postN g QD) (Sof k late) fuel listed a w' := by
    intro fuel
    induction fuel with
    | zero => intro _ _ _ h; exact h
    | succ fuel ih => intro listed a w' h; exact ⟨h.1, fun i hi => wpOpIn_mono (fun a' w'' h' => ⟨hsub _ _ h'.1, ih _ _ _ h'.2⟩) (h.2 i hi)⟩
  have hfu : l.length - dn.length = l2.length + (l.length - (l2.reverse ++ dn).length) := by simp; omega
  rw [hfu]
  have hk0 : Sof k' late (setL l.length dn) w := fun _ b hb => by subst hk; exact ⟨hb.1, rfl⟩
  refine hfrom _ _ _ _ (heldIn (ro := g.ro) (g := g) (QD := QD) (late := late) (l := l) (P := P) (δ0 := δ) (κ1 := κ) (w1 := w) (k := k') (by rw [hk]) (by rw [hk]) (N := l.length - (l2.reverse ++ dn).length) l2 dn a (firstD_first _ _ hB) hdc hk0 h1 (fun a' ha' hd' => ?_))
  obtain ⟨δ', hq, hobj, r2⟩ := ha'
  refine hq k' (by rw [hk]) hd' κ a' w ?_
  have hob : ∀ i, δ'.ob i = δ.ob i := fun i => by unfold DS.ob; rw [hobj]
  refine Rel.rewt (g := gOf g k late (setL l.length dn)) r2 (wt' := if lateIn late (setL l.length (l2.reverse ++ dn)) = true then none else some k') fun k'' hk' => ?_
  split at hk'
  · cases hk'
  · cases hk'
    subst hk
    refine ⟨fun b hb => ⟨hb.1, rfl⟩, fun i b hli hor hκ hb => ?_⟩
    rcases hor with hor | hor
    · exact hb.2 i (by have : δ'.ob i = some .row := hor; rw [hob] at this; exact this) hκ
    · obtain ⟨o, hli⟩ := hli
      rw [hob] at hli
      exact absurd (r.nx i ⟨o, hli⟩) (Nat.not_lt.2 hor)
end Go.Ab
/- A part of a box, loaded as a whole. -/
namespace Go.Ab
open Go Go.RowKit
inductive Sub : Nat → Nat → List AV → List AV → Prop where
  | nil {l} : Sub 0 0 l []
  | take {n a l vs} : Sub 0 n l vs → Sub 0 (n + 1) (a :: l) (a :: vs)
  | skip {k n a l vs} : Sub k n l vs → Sub (k + 1) n (a :: l) vs
theorem Sub.spec {k n : Nat} {l vs : List AV} (h : Sub k n l vs) : (l.drop k).take n = vs ∧ k + n ≤ l.length := by
  induction h with
  | nil => simp
  | take _ ih => simp at ih ⊢; exact ⟨ih.1, ih.2⟩
  | skip _ ih => simp at ih ⊢; exact ⟨ih.1, by omega⟩
variable {q : Md} {P : Program} {g : Ghost} {δ : DS} {ops : Array Oper} {rest : List Oper} {Q : Exit → DS → Prop} {dst : Option Nat} {ty : TypeId} {pos : String} {af : Array Edge}
theorem AOps.load_bs {x : Operand} {t : TypeId} {i off n : Nat} {cells vs : List AV} (hx : δ.ev x = .ptr i off) (hb : δ.ob i = some (.box cells)) (hn : (P.info? t).map (·.size) = some n) (hs : Sub off n cells vs) (ht : aggT P t n = true) (ho : okT x = true) (hd : okD δ.n dst = true)
    (hK : AOps q P g ops rest Q (δ.putd dst (.agg vs))) : AOps q P g ops (⟨dst, .load t x, ty, pos, af, none⟩ :: rest) Q δ :=
  AOps.load_bn (n := n) hx hb ht (by simpa using hs.spec.2) ho hd (by rw [hs.spec.1]; exact hK)
theorem AOps.pickBt {x y z : Operand} {b : Bool} {v : PV} (hx : δ.ev x = litB b) (hy : δ.ev y = .pv v) (hb : b = true) (ho : okT x = true) (hoy : okT y = true) (hoz : okT z = true) (hd : okD δ.n dst = true)
    (hK : AOps q P g ops rest Q (δ.putd dst (.pv v))) : AOps q P g ops (⟨dst, .pick x y z, ty, pos, af, none⟩ :: rest) Q δ := AOps.pick_lt (hb ▸ hx) hy ho hoy hoz hd hK
theorem AOps.pickBf {x y z : Operand} {b : Bool} {v : PV} (hx : δ.ev x = litB b) (hz : δ.ev z = .pv v) (hb : b = false) (ho : okT x = true) (hoy : okT y = true) (hoz : okT z = true) (hd : okD δ.n dst = true)
    (hK : AOps q P g ops rest Q (δ.putd dst (.pv v))) : AOps q P g ops (⟨dst, .pick x y z, ty, pos, af, none⟩ :: rest) Q δ := AOps.pick_lf (hb ▸ hx) hz ho hoy hoz hd hK
variable {gd : Option (Tmp × Bool)}
/-- []T{x}, T of three cells. -/
theorem Eff.bs1a3 {t e : TypeId} {x0 : Operand} {p0 p1 p2 : PV} {z : Value} (ht : P.underlying t = some (.slice e)) (h0 : δ.ev x0 = .agg [.pv p0, .pv p1, .pv p2]) (hi : (P.info? e).map (fun i => (i.size, i.zero)) = some (3, some z)) (hz : z.cells.toList.all (·.oneCell') = true) (hzk : Nat.beq z.cells.size 3 = true)
    (k0 : AV.one (.pv p0) = true) (k1 : AV.one (.pv p1) = true) (k2 : AV.one (.pv p2) = true) (o0 : okT x0 = true) (hd : okD δ.n dst = true) : Eff P g ⟨dst, .buildSlice t 1 [(0, x0)].toArray, ty, pos, af, gd⟩ δ ((δ.addOb .row).putd dst (.own δ.nx e 3 [[p0, p1, p2]])) := by
  have hf : fillA (fun i => some (i * 3, 3)) (zerosA z (1 * 3)) (([(0, x0)] : List (Nat × Operand)).map fun p => (p.1, δ.ev p.2)) = some [.pv p0, .pv p1, .pv p2] := by
    simp [fillA, setsA, AV.cellsOf, AV.ones, zerosA, h0, k0, k1, k2] <;> rfl
  exact Eff.buildSlice (len := 1) (k := 3) (parts := [(0, x0)]) (cells := [.pv p0, .pv p1, .pv p2]) ht hi hzk rfl rfl hz (by simp [o0]) hf (by simp [AV.isPv]) hd
theorem AOps.bs1a3 {t e : TypeId} {x0 : Operand} {p0 p1 p2 : PV} {z : Value} (ht : P.underlying t = some (.slice e)) (h0 : δ.ev x0 = .agg [.pv p0, .pv p1, .pv p2]) (hi : (P.info? e).map (fun i => (i.size, i.zero)) = some (3, some z)) (hz : z.cells.toList.all (·.oneCell') = true) (hzk : Nat.beq z.cells.size 3 = true)
    (k0 : AV.one (.pv p0) = true) (k1 : AV.one (.pv p1) = true) (k2 : AV.one (.pv p2) = true) (o0 : okT x0 = true) (hd : okD δ.n dst = true) (hK : AOps .plain P g ops rest Q ((δ.addOb .row).putd dst (.own δ.nx e 3 [[p0, p1, p2]]))) :
    AOps .plain P g ops (⟨dst, .buildSlice t 1 [(0, x0)].toArray, ty, pos, af, none⟩ :: rest) Q δ := AOps.eff rfl rfl (Eff.bs1a3 ht h0 hi hz hzk k0 k1 k2 o0 hd) hK
end Go.Ab
/- The checks over a region's orders, quick for the kernel: what is listed lies as the bits of one number. -/
namespace Go.Ab
open Go Go.RowKit
variable {P : Program} {g : Ghost} {δ : DS} {k : Wt} {late : List Nat} {l : List Oper} {dn : List Nat} {QD : Exit → DS → Prop}

def maskL (n : Nat) : List Nat → Nat
  | [] => 0
  | i :: d => bif Nat.blt i n then maskL n d ||| (1 <<< i) else maskL n d
theorem maskL_spec {n : Nat} : ∀ {d : List Nat} {j : Nat}, (maskL n d).testBit j = (setL n d).getD j false
  | [], j => by
    show Nat.testBit 0 j = (Array.replicate n false).getD j false
    rw [Nat.zero_testBit]
    simp [Array.getD_eq_getD_getElem?, Array.getElem?_replicate]
    split <;> rfl
  | i :: d, j => by
    show (bif Nat.blt i n then maskL n d ||| (1 <<< i) else maskL n d).testBit j = ((setL n d).setIfInBounds i true).getD j false
    rw [getD_set]
    have hsz : (setL n d).size = n := by
      clear j
      induction d with
      | nil => simp [setL]
      | cons i d ih => simp [setL, ih]
    by_cases hi : i < n
    · have hb : Nat.blt i n = true := by simpa using hi
      rw [hb, cond_true, Nat.testBit_or, maskL_spec, Nat.one_shiftLeft, Nat.testBit_two_pow]
      by_cases hij : i = j
      · subst hij; simp [hsz, hi]
      · simp [hij]
    · have hb : Nat.blt i n = false := by
        cases h : Nat.blt i n with
        | false => rfl
        | true => exact absurd (by simpa using h) hi
      rw [hb, cond_false, maskL_spec]
      by_cases hij : i = j
      · subst hij
        rw [if_pos rfl, if_neg (by omega)]
        simp [Array.getD_eq_getD_getElem?, Array.getElem?_eq_none (by omega : (setL n d).size ≤ i)]
      · rw [if_neg hij]
def afterM (m : Nat) (o : Oper) : Bool := o.after.toList.all fun e => !Region.binds .any e || m.testBit e.on
def readyM (m : Nat) : Nat → List Oper → List Nat
  | _, [] => []
  | j, o :: r => bif !m.testBit j && afterM m o then j :: readyM m (j + 1) r else readyM m (j + 1) r
theorem readyM_filter (m : Nat) : ∀ (l : List Oper) (j : Nat), readyM m j l = ((List.range l.length).filter fun i => !m.testBit (j + i) && ((l[i]?).map (afterM m)).getD false).map (j + ·)
  | [], _ => rfl
  | o :: r, j => by
    rw [List.length_cons, List.range_succ_eq_map, List.filter_cons, readyM, readyM_filter m r (j + 1)]
    simp only [Nat.add_zero, List.getElem?_cons_zero, Option.map_some, Option.getD_some, List.filter_map]
    have e : (List.map (fun x => j + x) (List.map Nat.succ (List.filter ((fun i => !m.testBit (j + i) && (Option.map (afterM m) (o :: r)[i]?).getD false) ∘ Nat.succ) (List.range r.length)))) = List.map (fun x => j + 1 + x) (List.filter (fun i => !m.testBit (j + 1 + i) && (Option.map (afterM m) r[i]?).getD false) (List.range r.length)) := by
      rw [List.map_map]
      have e2 : ((fun i => !m.testBit (j + i) && (Option.map (afterM m) (o :: r)[i]?).getD false) ∘ Nat.succ) = (fun i => !m.testBit (j + 1 + i) && (Option.map (afterM m) r[i]?).getD false) := by
        funext i
        simp only [Function.comp, Nat.succ_eq_add_one, List.getElem?_cons_succ]
        rw [show j + (i + 1) = j + 1 + i by omega]
      rw [e2]
      apply List.map_congr_left
      intro i _
      simp only [Function.comp, Nat.succ_eq_add_one]
      omega
    cases (!m.testBit j && afterM m o) with
    | true => simp only [cond_true, if_true, List.map_cons, Nat.add_zero]; rw [e]
    | false => simp only [cond_false, Bool.false_eq_true, if_false]; rw [e]
theorem readyM_eq : Region.ready .any l.toArray (setL l.length dn) = readyM (maskL l.length dn) 0 l := by
  rw [readyM_filter]
  unfold Region.ready
  simp only [Nat.zero_add, List.size_toArray]
  rw [show (fun x : Nat => x) = id from rfl, List.map_id]
  apply List.filter_congr
  intro i hi
  have hil : i < l.length := List.mem_range.1 hi
  have e1 : (setL l.length dn).getD i true = (maskL l.length dn).testBit i := by
    rw [maskL_spec]
    have hsz : (setL l.length dn).size = l.length := by
      clear hi hil
      generalize l.length = n
      induction dn with
      | nil => simp [setL]
      | cons i d ih => simp [setL, ih]
    rw [Array.getD_eq_getD_getElem?, Array.getD_eq_getD_getElem?, Array.getElem?_eq_getElem (by omega)]; rfl
  rw [e1]
  congr 1
  rw [List.getElem?_toArray]
  congr 2
  funext o
  unfold afterM
  rw [← Array.all_toList]
  congr 1
  funext e
  rw [maskL_spec]
theorem readyIs_M {rs : List Nat} (h : (readyM (maskL l.length dn) 0 l == rs) = true) : readyIs l dn rs = true := by
  unfold readyIs; rw [readyM_eq]; exact h
def lateM (late : List Nat) (m : Nat) : Bool := late.any m.testBit
theorem lateM_eq : lateIn late (setL l.length dn) = lateM late (maskL l.length dn) := by
  unfold lateIn lateM
  congr 1
  funext j
  rw [maskL_spec]
def freeJ (ops : Array Oper) (m i : Nat) (oi : Oper) : Nat → List Oper → Bool
  | _, [] => true
  | j, o :: r => (Nat.beq j i || m.testBit j || o.after.toList.any (fun e => Region.binds .any e && Nat.beq e.on i) || oi.apart ops o) && freeJ ops m i oi (j + 1) r
theorem freeJ_spec {ops : Array Oper} {m i : Nat} {oi : Oper} : ∀ {l : List Oper} {j : Nat}, freeJ ops m i oi j l = true → ∀ (x : Nat) (o : Oper), l[x]? = some o → (j + x == i || m.testBit (j + x) || (o.after.any (fun e => Region.binds .any e && e.on == i) || oi.apart ops o)) = true
  | [], _, _, x, o, h => by simp at h
  | o' :: r, j, h, x, o, hx => by
    unfold freeJ at h
    rw [Bool.and_eq_true] at h
    cases x with
    | zero =>
      simp only [List.getElem?_cons_zero, Option.some.injEq] at hx
      subst hx
      have h1 := h.1
      simp only [Nat.add_zero]
      rw [← Array.any_toList]
      simpa [Bool.or_assoc] using h1
    | succ x =>
      rw [List.getElem?_cons_succ] at hx
      have := freeJ_spec h.2 x o hx
      rwa [show j + 1 + x = j + (x + 1) by omega] at this
def freeM (l : List Oper) (late : List Nat) (m : Nat) (i : Nat) : Bool :=
  (readyM m 0 l).contains i && (match l[i]? with | some oi => freeJ l.toArray m i oi 0 l | none => false) && !late.contains i
def firstM (l : List Oper) (late : List Nat) : List Nat → List Nat → Bool
  | [], _ => true
  | i :: r, dn => freeM l late (maskL l.length dn) i && late.all (fun j => directB l.toArray i j || waitsB l.toArray i l.length j) && firstM l late r (i :: dn)
def fineL (l : List Oper) : Bool := Region.noSelect l.toArray && l.all noDefer
theorem freeM_free {i : Nat} (hf : fineL l = true) (hl : Nat.blt dn.length l.length = true) (h : freeM l late (maskL l.length dn) i = true) : freeB l late dn i = true := by
  unfold fineL at hf
  unfold freeM at h
  unfold freeB
  simp only [Bool.and_eq_true] at hf h ⊢
  refine ⟨⟨⟨⟨hf, by rw [readyM_eq]; exact h.1.1⟩, ?_⟩, h.2⟩, hl⟩
  have h2 := h.1.2
  unfold Region.free
  rw [List.getElem?_toArray]
  cases ho : l[i]? with
  | none => rw [ho] at h2; cases h2
  | some oi =>
    rw [ho] at h2
    simp only at h2 ⊢
    rw [List.all_eq_true]
    intro j hj
    have hj' : j < l.length := by simpa using hj
    have h3 := freeJ_spec h2 j _ (List.getElem?_eq_getElem hj')
    rw [Nat.zero_add, maskL_spec] at h3
    have hsz : (setL l.length dn).size = l.length := by
      clear hf h h2 h3 hl
      generalize l.length = n
      induction dn with
      | nil => simp [setL]
      | cons i d ih => simp [setL, ih]
    have e1 : (setL l.length dn).getD j true = (setL l.length dn).getD j false := by
      rw [Array.getD_eq_getD_getElem?, Array.getD_eq_getD_getElem?, Array.getElem?_eq_getElem (by omega)]; rfl
    rw [e1, List.getElem?_toArray, List.getElem?_eq_getElem hj']
    exact h3
theorem firstM_first (hf : fineL l = true) : ∀ (l2 dn : List Nat), Nat.ble (l2.length + dn.length) l.length = true → firstM l late l2 dn = true → firstD l late l2 dn = true
  | [], _, _, _ => rfl
  | i :: r, dn, hle, h => by
    unfold firstM at h
    unfold firstD
    simp only [Bool.and_eq_true] at h ⊢
    have hle' : (i :: r).length + dn.length ≤ l.length := by simpa using hle
    simp only [List.length_cons] at hle'
    exact ⟨⟨freeM_free hf (by simp; omega) h.1.1, h.1.2⟩, firstM_first hf r _ (by simp; omega) h.2⟩

theorem AR.readsM (l2 : List Nat) (hf : fineL l = true) (hB : firstM l late l2 dn = true) (hL : lateM late (maskL l.length dn) = false) (hle : Nat.ble (l2.length + dn.length) l.length = true)
    (h : ∀ g' : Ghost, g'.ro = g.ro → AOps .held P g' l.toArray (pick l l2) (onlyN fun δ' => ∀ k' : Wt, k'.2.2 = δ.nx → AR P g k' late l QD (l2.reverse ++ dn) δ') δ) : AR P g k late l QD dn δ :=
  AR.reads l2 (firstM_first hf _ _ hle hB) (by rw [lateM_eq]; exact hL) hle h
theorem AR.doneM (hwt : g.wt = none) (hr : (readyM (maskL l.length dn) 0 l == []) = true) (h : QD .normal δ) : AR P g k late l QD dn δ := AR.done hwt (readyIs_M hr) h
theorem AR.step1M {i : Nat} {o : Oper} (hl : Nat.blt dn.length l.length = true) (hr : (readyM (maskL l.length dn) 0 l == [i]) = true) (ho : l[i]? = some o)
    (h : ∀ g' : Ghost, g'.ro = g.ro → (∀ j, k.2.2 ≤ j → g'.wtOk j) → AOps .plain P g' l.toArray [o] (onlyN (AR P g k late l QD (i :: dn))) δ) : AR P g k late l QD dn δ := AR.step1 hl (readyIs_M hr) ho h
theorem AR.step1LM {i : Nat} {o : Oper} (hl : Nat.blt dn.length l.length = true) (hr : (readyM (maskL l.length dn) 0 l == [i]) = true) (ho : l[i]? = some o) (hlt : lateM late (maskL l.length (i :: dn)) = true)
    (h : ∀ g' : Ghost, g'.ro = g.ro → g'.wt = none → AOps .plain P g' l.toArray [o] (onlyN (AR P g k late l QD (i :: dn))) δ) : AR P g k late l QD dn δ := AR.step1L hl (readyIs_M hr) ho (by rw [lateM_eq]; exact hlt) h
theorem AR.step2M {i j : Nat} {o p : Oper} (hl : Nat.blt dn.length l.length = true) (hr : (readyM (maskL l.length dn) 0 l == [i, j]) = true) (ho : l[i]? = some o) (hp : l[j]? = some p)
    (h : ∀ g' : Ghost, g'.ro = g.ro → (∀ j, k.2.2 ≤ j → g'.wtOk j) → AOps .plain P g' l.toArray [o] (onlyN (AR P g k late l QD (i :: dn))) δ)
    (h' : ∀ g' : Ghost, g'.ro = g.ro → (∀ j, k.2.2 ≤ j → g'.wtOk j) → AOps .plain P g' l.toArray [p] (onlyN (AR P g k late l QD (j :: dn))) δ) : AR P g k late l QD dn δ := AR.step2 hl (readyIs_M hr) ho hp h h'
theorem AW.regionM {id : Nat} (l1 : List Nat) (late : List Nat) {l : List Oper} (hm : P.follows .mixedOrders = true) (hwt : g.wt = none) (hf : fineL l = true) (hB : firstM l late l1 [] = true) (hle : Nat.ble l1.length l.length = true)
    (h : AOps .held P g l.toArray (pick l l1) (onlyN fun δ' => ∀ k : Wt, k.2.2 = δ.nx → AR P g k late l QD l1.reverse δ') δ) : AW P g (.region id l.toArray true) QD δ :=
  AW.regionE l1 late hm hwt (firstD_first _ _ (firstM_first hf _ _ (by simpa using hle) hB)) hle h
end Go.Ab
/- A loop's state told by what stays of the state before it and what changes. -/
namespace Go.Ab
open Go Go.RowKit
variable {P : Program} {g : Ghost} {δ : DS}
def selE (e : List (Nat × AV)) : List Nat → List (Nat × AV)
  | [] => []
  | k :: ks => (k, look e k) :: selE e ks
def selO (o : List (Nat × Option Ob)) : List Nat → List (Nat × Option Ob)
  | [] => []
  | k :: ks => (k, lookOb o k) :: selO o ks
/-- room for the told objects' numbers. -/
def nxUp : List (Nat × Option Ob) → Nat → Nat
  | [], n => n
  | (k, _) :: r, n => nxUp r (bif Nat.ble n k then k + 1 else n)
namespace Nf
theorem nx0 (n : Nat) : nxUp [] n = n := rfl
theorem nx1 (k n : Nat) (v : Option Ob) (r : List (Nat × Option Ob)) : nxUp ((k, v) :: r) n = nxUp r (bif Nat.ble n k then k + 1 else n) := rfl
def ao : List (Nat × Option Ob) → List (Nat × Option Ob) → List (Nat × Option Ob)
  | [], m => m
  | v :: r, m => v :: ao r m
theorem ao0 (m : List (Nat × Option Ob)) : ao [] m = m := rfl
theorem ao1 (v : Nat × Option Ob) (r m : List (Nat × Option Ob)) : ao (v :: r) m = v :: ao r m := rfl
theorem se0 (e : List (Nat × AV)) : selE e [] = [] := rfl
theorem se1 (e : List (Nat × AV)) (k : Nat) (ks : List Nat) : selE e (k :: ks) = (k, look e k) :: selE e ks := rfl
theorem so0 (e : List (Nat × Option Ob)) : selO e [] = [] := rfl
theorem so1 (e : List (Nat × Option Ob)) (k : Nat) (ks : List Nat) : selO e (k :: ks) = (k, lookOb e k) :: selO e ks := rfl
set_option linter.defProp false in
def lpR := And.intro @nx0 (And.intro @nx1 (And.intro @ao0 (And.intro @ao1 (And.intro @se0 (And.intro @se1 (And.intro @so0 @so1))))))
end Nf
theorem AW.loopR {S : Type} {c : Code} {Q : Exit → DS → Prop} (ks os : List Nat) (u : S → List (Nat × AV)) (ou : S → List (Nat × Option Ob)) (I : S → Prop) (μ : S → Nat) (s0 : S) {D : S → DS}
    (hD : (fun s => (⟨δ.n, Nf.ae (u s) (selE δ.env ks), Nf.ao (ou s) (selO δ.objs os), nxUp (ou s) δ.nx⟩ : DS)) = D) (hs : I s0) (hw : Weak g δ (D s0))
    (round : ∀ s, I s → AW P g c (thenD (fun δ' => ∃ s', I s' ∧ μ s' < μ s ∧ Weak g δ' (D s')) Q) (D s)) : AW P g (.loop c) Q δ := AW.loop D I μ s0 hs hw round
/-- a slice that nobody looks into. -/
theorem Rd.raw {P : Program} {t e : TypeId} (ht : P.underlying t = some (.slice e)) : Rd P t (fun s : Option Addr × Nat × Nat => [.lit (.slice s.1 s.2.1 s.2.2)]) (fun _ => True) := by
  intro H en w sp fuel cs x hx _
  rcases DataW.trod_slice ht hx with ⟨rfl, rfl⟩ | ⟨a, len, cap, elems, rest, n, rfl, rfl, rfl, _⟩
  · exact ⟨(_, _, _), .one (.lit _) rfl, trivial⟩
  · exact ⟨(_, _, _), .one (.lit _) rfl, trivial⟩
end Go.Ab
/- Quotient and remainder of numbers that are not below zero. -/
namespace Go.Ab
open Go Go.RowKit
variable {q : Md} {P : Program} {g : Ghost} {δ : DS} {ops : Array Oper} {rest : List Oper} {Q : Exit → DS → Prop} {dst : Option Nat} {ty : TypeId} {pos : String} {af : Array Edge} {x y : Operand} {m n : Int} {t t' : TypeId}
theorem AOps.remE (hx : δ.ev x = litI m) (hy : δ.ev y = litI n) (ho : okT x = true) (ho' : okT y = true) (hd : okD δ.n dst = true) (h0 : 0 ≤ m ∧ 0 < n) (hK : AOps q P g ops rest Q (δ.putd dst (litI (m % n)))) : AOps q P g ops (⟨dst, .binOp .rem t x y t', ty, pos, af, none⟩ :: rest) Q δ :=
  AOps.rem hx hy ho ho' hd (by omega) (by rw [Int.tmod_eq_emod_of_nonneg h0.1]; exact hK)
end Go.Ab
/- Two objects' names exchanged; the orders of a drawn region brought together again. -/
namespace Go.Ab
open Go Go.RowKit
variable {P : Program} {g : Ghost} {δ : DS} {κ : Nat → Option Nat} {a : Act} {w : World}
/-- i and j exchanged. -/
def swN (i j x : Nat) : Nat := bif Nat.beq i x then j else bif Nat.beq j x then i else x
theorem swN_if (i j x : Nat) : swN i j x = if i = x then j else if j = x then i else x := by
  unfold swN
  by_cases h1 : i = x
  · subst h1; simp
  · rw [beq_ne h1, if_neg h1]
    by_cases h2 : j = x
    · subst h2; simp
    · rw [beq_ne h2, if_neg h2]; rfl
theorem swN_sw (i j x : Nat) : swN i j (swN i j x) = x := by
  simp only [swN_if]
  split <;> split <;> (try split) <;> omega
mutual
def AV.sw (i j : Nat) : AV → AV
  | .any => .any
  | .pv p => .pv p
  | .own x e k els => .own (swN i j x) e k els
  | .ptr x o => .ptr (swN i j x) o
  | .rptr c => .rptr c
  | .optr x e k els n => .optr (swN i j x) e k els n
  | .agg cs => .agg (AV.swL i j cs)
  | .tup cs => .tup (AV.swL i j cs)
  | .clo fn cs ds => .clo fn (AV.swL i j cs) (AV.swL i j ds)
  | .mapr x => .mapr (swN i j x)
  | .yld x => .yld (swN i j x)
def AV.swL (i j : Nat) : List AV → List AV
  | [] => []
  | c :: cs => AV.sw i j c :: AV.swL i j cs
end
theorem AV.swL_eq (i j : Nat) : ∀ l, AV.swL i j l = l.map (AV.sw i j)
  | [] => rfl
  | c :: cs => by simp [AV.swL, AV.swL_eq i j cs]
def Ob.sw (i j : Nat) : Ob → Ob
  | .row => .row
  | .box cs => .box (AV.swL i j cs)
  | .mp l => .mp (l.map fun p => (p.1, p.2.sw i j))
  | .it l seen => .it l seen
  | .loop l tm ps asg body st => .loop l tm ps asg body st
theorem Ob.sw_row (i j : Nat) (o : Ob) : (o.sw i j).isRow = o.isRow := by cases o <;> rfl
def swE (i j : Nat) : List (Nat × AV) → List (Nat × AV)
  | [] => []
  | (x, v) :: r => (x, v.sw i j) :: swE i j r
def swO (i j : Nat) : List (Nat × Option Ob) → List (Nat × Option Ob)
  | [] => []
  | (x, none) :: r => (swN i j x, none) :: swO i j r
  | (x, some o) :: r => (swN i j x, some (o.sw i j)) :: swO i j r
def DS.sw (δ : DS) (i j : Nat) : DS := ⟨δ.n, swE i j δ.env, swO i j δ.objs, δ.nx⟩
theorem look_sw (i j : Nat) (k : Nat) : ∀ e, look (swE i j e) k = (look e k).sw i j
  | [] => rfl
  | (x, v) :: r => by
    unfold swE
    simp only [look_cons, look_sw i j k r]
    split <;> rfl
theorem lookOb_sw (i j : Nat) (k : Nat) : ∀ e, lookOb (swO i j e) (swN i j k) = (lookOb e k).map (Ob.sw i j)
  | [] => rfl
  | (x, o) :: r => by
    have hx : (swN i j x = swN i j k) = (x = k) := by
      apply propext
      constructor
      · intro h; rw [← swN_sw i j x, h, swN_sw]
      · intro h; rw [h]
    cases o with
    | none =>
      unfold swO
      simp only [lookOb_cons, lookOb_sw i j k r, hx]
      split <;> rfl
    | some o =>
      unfold swO
      simp only [lookOb_cons, lookOb_sw i j k r, hx]
      split <;> rfl
theorem ob_sw (i j k : Nat) : (δ.sw i j).ob k = (δ.ob (swN i j k)).map (Ob.sw i j) := by
  have := lookOb_sw i j (swN i j k) δ.objs
  rw [swN_sw] at this
  exact this
theorem live_sw (i j k : Nat) : (δ.sw i j).live k ↔ δ.live (swN i j k) := by
  unfold DS.live
  rw [ob_sw]
  cases δ.ob (swN i j k) <;> simp
theorem lr_sw (i j k : Nat) : (δ.sw i j).lr k ↔ δ.lr (swN i j k) := by
  unfold DS.lr
  rw [ob_sw]
  cases h : δ.ob (swN i j k) with
  | none => simp
  | some o => cases o <;> simp [Ob.sw]
theorem lb_sw (i j k : Nat) : (δ.sw i j).lb k ↔ δ.lb (swN i j k) := by
  unfold DS.lb
  rw [ob_sw]
  cases h : δ.ob (swN i j k) with
  | none => simp
  | some o => simp [Ob.sw_row]
def swK (i j : Nat) (κ : Nat → Option Nat) : Nat → Option Nat := fun x => κ (swN i j x)
theorem N_sw (i j b : Nat) : ((δ.sw i j).cx g (swK i j κ)).N b ↔ (δ.cx g κ).N b := by
  show (g.N0 b ∧ _) ↔ (g.N0 b ∧ _)
  constructor
  · rintro ⟨h1, h2⟩
    refine ⟨h1, fun x hx => ?_⟩
    have := h2 (swN i j x) ((live_sw i j _).2 (by rw [swN_sw]; exact hx))
    unfold swK at this
    rwa [swN_sw] at this
  · rintro ⟨h1, h2⟩
    exact ⟨h1, fun x hx => h2 _ ((live_sw i j _).1 hx)⟩
theorem rp_sw (i j : Nat) {v : Value} {p : PV} (h : RP (δ.cx g κ).N w v p) : RP ((δ.sw i j).cx g (swK i j κ)).N w v p :=
  h.mono (Nat.le_refl _) fun b _ hb => ⟨(N_sw i j b).2 hb, rfl⟩
theorem own_sw (i j : Nat) {v : Value} {x : Nat} {e : TypeId} {k : Nat} {els : List (List PV)} (h : OwnV (δ.cx g κ) w v x e k els) : OwnV ((δ.sw i j).cx g (swK i j κ)) w v (swN i j x) e k els := by
  obtain ⟨hl, hlim, hk, hb, xs, ho, h1, hx⟩ := h
  refine ⟨(lr_sw i j _).2 (by rw [swN_sw]; exact hl), hlim, hk, fun b hv => ?_, xs, ho, h1, fun i' j' p hp => let ⟨u, h1, h2⟩ := hx i' j' p hp; ⟨u, h1, rp_sw i j h2⟩⟩
  show κ (swN i j (swN i j x)) = some b
  rw [swN_sw]; exact hb b hv
theorem ra_sw (i j : Nat) {v : Value} {av : AV} (h : RA (δ.cx g κ) w v av) : RA ((δ.sw i j).cx g (swK i j κ)) w v (av.sw i j) := by
  induction h with
  | any v => exact .any v
  | pv h => exact .pv (rp_sw i j h)
  | own h => exact .own (own_sw i j h)
  | ptr hl hκ => exact .ptr ((lb_sw i j _).2 (by rw [swN_sw]; exact hl)) (by show κ (swN i j (swN i j _)) = _; rw [swN_sw]; exact hκ)
  | rptr b off vs hN hb hc hr => exact .rptr b off vs ((N_sw i j b).2 hN) hb hc fun k p hp => rp_sw i j (hr k p hp)
  | optr hi h => exact .optr hi (own_sw i j h)
  | agg hs h ih =>
    show RA _ _ _ (.agg (AV.swL i j _))
    rw [AV.swL_eq]
    refine .agg (by simp [hs]) fun k u c hu hc => ?_
    rw [List.getElem?_map] at hc
    obtain ⟨c', hc', rfl⟩ := Option.map_eq_some_iff.1 hc
    exact ih k u c' hu hc'
  | tup hs h ih =>
    show RA _ _ _ (.tup (AV.swL i j _))
    rw [AV.swL_eq]
    refine .tup (by simp [hs]) fun k u c hu hc => ?_
    rw [List.getElem?_map] at hc
    obtain ⟨c', hc', rfl⟩ := Option.map_eq_some_iff.1 hc
    exact ih k u c' hu hc'
  | clo hs h ht h' ih ih' =>
    show RA _ _ _ (.clo _ (AV.swL i j _) (AV.swL i j _))
    rw [AV.swL_eq, AV.swL_eq]
    refine .clo (by simp [hs]) (fun k u c hu hc => ?_) (by simp [ht]) (fun k u c hu hc => ?_)
    · rw [List.getElem?_map] at hc
      obtain ⟨c', hc', rfl⟩ := Option.map_eq_some_iff.1 hc
      exact ih k u c' hu hc'
    · rw [List.getElem?_map] at hc
      obtain ⟨c', hc', rfl⟩ := Option.map_eq_some_iff.1 hc
      exact ih' k u c' hu hc'
  | mapr hl hκ => exact .mapr ((lb_sw i j _).2 (by rw [swN_sw]; exact hl)) (by show κ (swN i j (swN i j _)) = _; rw [swN_sw]; exact hκ)
  | yld hl hκ => exact .yld ((lb_sw i j _).2 (by rw [swN_sw]; exact hl)) (by show κ (swN i j (swN i j _)) = _; rw [swN_sw]; exact hκ)
theorem noOwn_sw (i j : Nat) (v : AV) : (v.sw i j).noOwn = v.noOwn := by cases v <;> rfl
theorem ObIs.sw (i j : Nat) {x : Nat} {o : Ob} (h : ObIs (δ.cx g κ) w x o) : ObIs ((δ.sw i j).cx g (swK i j κ)) w (swN i j x) (o.sw i j) := by
  have hκ : ∀ y, ((δ.sw i j).cx g (swK i j κ)).κ (swN i j y) = κ y := fun y => by show κ (swN i j (swN i j y)) = _; rw [swN_sw]
  cases o with
  | row =>
    intro b hb
    rw [hκ] at hb
    exact h b hb
  | box cs =>
    obtain ⟨b, c, e, h1, h2, h3, h4⟩ := h
    show ObIs _ _ _ (.box (AV.swL i j cs))
    rw [AV.swL_eq]
    refine ⟨b, c, e, (hκ x).trans h1, h2, by simp [h3], fun k u av h5 h6 => ?_⟩
    rw [List.getElem?_map] at h6
    obtain ⟨c', hc', rfl⟩ := Option.map_eq_some_iff.1 h6
    exact ⟨ra_sw i j (h4 k u c' h5 hc').1, (h4 k u c' h5 hc').2⟩
  | mp l =>
    obtain ⟨b, es, clock, h1, h2, h3, h4, h5⟩ := h
    refine ⟨b, es, clock, (hκ x).trans h1, h2, ⟨by simp [h3.1], fun k e p h6 h7 => ?_⟩, h4, fun p hp => ?_⟩
    · rw [List.getElem?_map] at h7
      obtain ⟨p', hp', rfl⟩ := Option.map_eq_some_iff.1 h7
      exact ⟨(h3.2 k e p' h6 hp').1, ra_sw i j (h3.2 k e p' h6 hp').2⟩
    · obtain ⟨p', hp', rfl⟩ := List.mem_map.1 hp
      show (p'.2.sw i j).noOwn = true
      rw [noOwn_sw]; exact h5 p' hp'
  | it l seen =>
    obtain ⟨b, h1, h2⟩ := h
    exact ⟨b, (hκ x).trans h1, h2.mono (Nat.le_refl _) (fun b _ hb => ⟨(N_sw i j b).2 hb, rfl⟩) rfl⟩
  | loop l tm ps asg body st =>
    obtain ⟨b, r, h1, h2⟩ := h
    exact ⟨b, r, (hκ x).trans h1, h2⟩
/-- two names exchanged. -/
theorem Rel.sw (i j : Nat) (hi : i < δ.nx) (hj : j < δ.nx) (hw : ∀ k, g.wt = some k → k.2.2 ≤ i ∧ k.2.2 ≤ j) (r : Rel g δ κ a w) : Rel g (δ.sw i j) (swK i j κ) a w where
  n := r.n
  dfr := r.dfr
  env := fun k => by
    have e : (δ.sw i j).get k = (δ.get k).sw i j := look_sw i j k δ.env
    rw [e]; exact ra_sw i j (r.env k)
  obj := fun x o h => by
    rw [ob_sw] at h
    obtain ⟨o', ho', rfl⟩ := Option.map_eq_some_iff.1 h
    have := (r.obj _ o' ho').sw i j
    rwa [swN_sw] at this
  inj := fun x y b hx hy h1 h2 => by
    have := r.inj _ _ b ((live_sw i j x).1 hx) ((live_sw i j y).1 hy) h1 h2
    rw [← swN_sw i j x, this, swN_sw]
  lo := fun x b hx h1 => r.lo _ b ((live_sw i j x).1 hx) h1
  nx := fun x hx => by
    have := r.nx _ ((live_sw i j x).1 hx)
    show x < δ.nx
    rw [swN_if] at this
    split at this
    · omega
    · split at this <;> omega
  wt := fun k hk => by
    obtain ⟨h1, h2⟩ := hw k hk
    refine ⟨(r.wt k hk).1, fun x b hx hor hκ => (r.wt k hk).2 (swN i j x) b ((live_sw i j x).1 hx) ?_ hκ⟩
    rcases hor with hor | hor
    · exact .inl ((lr_sw i j x).1 hor)
    · right
      rw [swN_if]
      split
      · exact h2
      · split
        · exact h1
        · exact hor
  below := r.below
  hB := r.hB
  N0 := r.N0
namespace Nf
variable {n x : Nat} {e : List (Nat × AV)} {o : List (Nat × Option Ob)} {i j k : Nat}
theorem sw : DS.sw ⟨n, e, o, x⟩ i j = ⟨n, swE i j e, swO i j o, x⟩ := rfl
theorem swE0 : swE i j [] = [] := rfl
theorem swE1 (v : AV) (r : List (Nat × AV)) : swE i j ((k, v) :: r) = (k, v.sw i j) :: swE i j r := rfl
theorem swO0 : swO i j [] = [] := rfl
theorem swOn (r : List (Nat × Option Ob)) : swO i j ((k, none) :: r) = (swN i j k, none) :: swO i j r := rfl
theorem swOr (r : List (Nat × Option Ob)) : swO i j ((k, some .row) :: r) = (swN i j k, some .row) :: swO i j r := rfl
theorem swOb (cs : List AV) (r : List (Nat × Option Ob)) : swO i j ((k, some (.box cs)) :: r) = (swN i j k, some (.box (AV.swL i j cs))) :: swO i j r := rfl
theorem swOi (l : List (Value × PV)) (s : List Nat) (r : List (Nat × Option Ob)) : swO i j ((k, some (.it l s)) :: r) = (swN i j k, some (.it l s)) :: swO i j r := rfl
theorem swOl (l tm ps asg body st) (r : List (Nat × Option Ob)) : swO i j ((k, some (.loop l tm ps asg body st)) :: r) = (swN i j k, some (.loop l tm ps asg body st)) :: swO i j r := rfl
theorem swL0 : AV.swL i j [] = [] := rfl
theorem swL1 (v : AV) (r : List AV) : AV.swL i j (v :: r) = v.sw i j :: AV.swL i j r := rfl
theorem swA0 : AV.sw i j .any = .any := rfl
theorem swA1 (p : PV) : AV.sw i j (.pv p) = .pv p := rfl
theorem swA2 (e m els) : AV.sw i j (.own k e m els) = .own (swN i j k) e m els := rfl
theorem swA3 (m : Nat) : AV.sw i j (.ptr k m) = .ptr (swN i j k) m := rfl
theorem swA4 (c : List PV) : AV.sw i j (.rptr c) = .rptr c := rfl
theorem swA5 (e m els m') : AV.sw i j (.optr k e m els m') = .optr (swN i j k) e m els m' := rfl
theorem swA6 (c : List AV) : AV.sw i j (.agg c) = .agg (AV.swL i j c) := rfl
theorem swA7 (c : List AV) : AV.sw i j (.tup c) = .tup (AV.swL i j c) := rfl
theorem swA8 (f) (c d : List AV) : AV.sw i j (.clo f c d) = .clo f (AV.swL i j c) (AV.swL i j d) := rfl
theorem swA9 : AV.sw i j (.mapr k) = .mapr (swN i j k) := rfl
theorem swAa : AV.sw i j (.yld k) = .yld (swN i j k) := rfl
theorem swNd : swN i j k = bif Nat.beq i k then j else bif Nat.beq j k then i else k := rfl
set_option linter.defProp false in
def swR := And.intro @sw (And.intro @swE0 (And.intro @swE1 (And.intro @swO0 (And.intro @swOn (And.intro @swOr (And.intro @swOb (And.intro @swOi (And.intro @swOl (And.intro @swL0 (And.intro @swL1 (And.intro @swA0 (And.intro @swA1 (And.intro @swA2 (And.intro @swA3 (And.intro @swA4 (And.intro @swA5 (And.intro @swA6 (And.intro @swA7 (And.intro @swA8 (And.intro @swA9 (And.intro @swAa @swNd)))))))))))))))))))))
end Nf
variable {k : Wt} {late : List Nat} {l : List Oper} {dn : List Nat} {QD : Exit → DS → Prop}
theorem AR.weakG {δ' : DS} (hw : ∀ g' : Ghost, (∀ k', g'.wt = some k' → k' = k) → Weak g' δ δ') (h : AR P g k late l QD dn δ') : AR P g k late l QD dn δ := by
  intro hdc κ a w r
  obtain ⟨κ', r'⟩ := hw _ (fun k' hk' => by
    have : (if lateIn late (setL l.length dn) = true then none else some k) = some k' := hk'
    split at this
    · cases this
    · cases this; rfl) κ a w r
  exact h hdc κ' a w r'
theorem AR.sw (i j : Nat) {m : Nat} (hk : k.2.2 = m) (hi : (Nat.ble m i && Nat.blt i δ.nx) = true) (hj : (Nat.ble m j && Nat.blt j δ.nx) = true) (h : AR P g k late l QD dn (δ.sw i j)) : AR P g k late l QD dn δ := by
  simp only [Bool.and_eq_true, Nat.ble_eq, Nat.blt_eq] at hi hj
  exact AR.weakG (fun g' hg κ a w r => ⟨_, r.sw i j hi.2 hj.2 fun k' hk' => by rw [hg k' hk', hk]; exact ⟨hi.1, hj.1⟩⟩) h
theorem setL_size (n : Nat) (d : List Nat) : (setL n d).size = n := by
  induction d with
  | nil => simp [setL]
  | cons i d ih => simp [setL, ih]
theorem setL_mask {n : Nat} {d d' : List Nat} (h : maskL n d = maskL n d') : setL n d = setL n d' := by
  apply Array.ext
  · rw [setL_size, setL_size]
  · intro i h1 h2
    have e1 := maskL_spec (n := n) (d := d) (j := i)
    have e2 := maskL_spec (n := n) (d := d') (j := i)
    rw [h] at e1
    rw [e1] at e2
    rw [Array.getD_eq_getD_getElem?, Array.getD_eq_getD_getElem?, Array.getElem?_eq_getElem h1, Array.getElem?_eq_getElem h2] at e2
    exact e2
theorem AR.perm {J : List Nat} (hm : (maskL l.length dn == maskL l.length J && Nat.beq dn.length J.length) = true) (h : AR P g k late l QD J δ) : AR P g k late l QD dn δ := by
  simp only [Bool.and_eq_true, beq_iff_eq] at hm
  have hm : maskL l.length dn = maskL l.length J ∧ dn.length = J.length := ⟨hm.1, Nat.eq_of_beq_eq_true hm.2⟩
  have e := setL_mask hm.1
  intro hdc κ a w r
  rw [hm.2]
  have h1 := h (by rw [← e]; exact hdc) κ a w (by rw [← e]; exact r)
  rw [e]; exact h1
/-- all orders up to J come together. -/
theorem AR.cut (J : List Nat) {δc : DS} (h1 : AR P g k late l QD J δc → AR P g k late l QD dn δ) (h2 : AR P g k late l QD J δc) : AR P g k late l QD dn δ := h1 h2
theorem AR.meet {J : List Nat} {δc : DS} (hJ : AR P g k late l QD J δc) (hm : (maskL l.length dn == maskL l.length J && Nat.beq dn.length J.length) = true) (hw : ∀ g' : Ghost, Weak g' δ δc) : AR P g k late l QD dn δ :=
  AR.weakG (fun g' _ => hw g') (AR.perm hm hJ)
/-- three that may come up. -/
theorem AR.step3M {i j m : Nat} {o p q : Oper} (hl : Nat.blt dn.length l.length = true) (hr : (readyM (maskL l.length dn) 0 l == [i, j, m]) = true) (ho : l[i]? = some o) (hp : l[j]? = some p) (hq : l[m]? = some q)
    (h : ∀ g' : Ghost, g'.ro = g.ro → (∀ j, k.2.2 ≤ j → g'.wtOk j) → AOps .plain P g' l.toArray [o] (onlyN (AR P g k late l QD (i :: dn))) δ)
    (h' : ∀ g' : Ghost, g'.ro = g.ro → (∀ j, k.2.2 ≤ j → g'.wtOk j) → AOps .plain P g' l.toArray [p] (onlyN (AR P g k late l QD (j :: dn))) δ)
    (h'' : ∀ g' : Ghost, g'.ro = g.ro → (∀ j, k.2.2 ≤ j → g'.wtOk j) → AOps .plain P g' l.toArray [q] (onlyN (AR P g k late l QD (m :: dn))) δ) : AR P g k late l QD dn δ :=
  AR.all hl (readyIs_M hr) (by simp) fun i' hi' => by
    have hw : ∀ i', ∀ j, k.2.2 ≤ j → (gOf g k late (setL l.length (i' :: dn))).wtOk j := by
      intro i' j hj k' hk'
      have : (if lateIn late (setL l.length (i' :: dn)) = true then none else some k) = some k' := hk'
      split at this
      · cases this
      · cases this; exact hj
    simp only [List.mem_cons, List.not_mem_nil, or_false] at hi'
    rcases hi' with rfl | rfl | rfl
    · exact ⟨o, ho, h _ rfl (hw _)⟩
    · exact ⟨p, hp, h' _ rfl (hw _)⟩
    · exact ⟨q, hq, h'' _ rfl (hw _)⟩
/-! ### what lies shadowed is left out -/
def memB (k : Nat) : List Nat → Bool
  | [] => false
  | x :: r => bif Nat.beq x k then true else memB k r
def ddE (s : List Nat) : List (Nat × AV) → List (Nat × AV)
  | [] => []
  | (k, v) :: r => bif memB k s then ddE s r else (k, v) :: ddE (k :: s) r
def ddO (s : List Nat) : List (Nat × Option Ob) → List (Nat × Option Ob)
  | [] => []
  | (k, v) :: r => bif memB k s then ddO s r else (k, v) :: ddO (k :: s) r
theorem memB_iff {k : Nat} : ∀ {s : List Nat}, memB k s = true ↔ k ∈ s
  | [] => by simp [memB]
  | x :: r => by
    unfold memB
    by_cases h : x = k
    · subst h; simp
    · rw [beq_ne h, cond_false, memB_iff, List.mem_cons]
      constructor
      · exact .inr
      · rintro (h' | h')
        · exact absurd h'.symm h
        · exact h'
theorem look_ddE {j : Nat} : ∀ {e : List (Nat × AV)} {s : List Nat}, j ∉ s → look (ddE s e) j = look e j
  | [], _, _ => rfl
  | (k, v) :: r, s, h => by
    unfold ddE
    cases hm : memB k s with
    | true =>
      have : k ≠ j := by rintro rfl; exact h (memB_iff.1 hm)
      rw [cond_true, look_cons, if_neg this, look_ddE h]
    | false =>
      rw [cond_false, look_cons, look_cons]
      by_cases e : k = j
      · rw [if_pos e, if_pos e]
      · rw [if_neg e, if_neg e, look_ddE (by simp only [List.mem_cons, not_or]; exact ⟨fun h' => e h'.symm, h⟩)]
theorem lookOb_ddO {j : Nat} : ∀ {e : List (Nat × Option Ob)} {s : List Nat}, j ∉ s → lookOb (ddO s e) j = lookOb e j
  | [], _, _ => rfl
  | (k, v) :: r, s, h => by
    unfold ddO
    cases hm : memB k s with
    | true =>
      have : k ≠ j := by rintro rfl; exact h (memB_iff.1 hm)
      rw [cond_true, lookOb_cons, if_neg this, lookOb_ddO h]
    | false =>
      rw [cond_false, lookOb_cons, lookOb_cons]
      by_cases e : k = j
      · rw [if_pos e, if_pos e]
      · rw [if_neg e, if_neg e, lookOb_ddO (by simp only [List.mem_cons, not_or]; exact ⟨fun h' => e h'.symm, h⟩)]
def DS.dd (δ : DS) : DS := ⟨δ.n, ddE [] δ.env, ddO [] δ.objs, δ.nx⟩
theorem Rel.congr {δ' : DS} (hn : δ'.n = δ.n) (hx : δ'.nx = δ.nx) (he : ∀ j, δ'.get j = δ.get j) (ho : ∀ j, δ'.ob j = δ.ob j) (r : Rel g δ κ a w) : Rel g δ' κ a w := by
  have hob : δ'.ob = δ.ob := funext ho
  have hl : δ'.live = δ.live := by unfold DS.live; rw [hob]
  have hlr : δ'.lr = δ.lr := by unfold DS.lr; rw [hob]
  have hlb : δ'.lb = δ.lb := by unfold DS.lb; rw [hob]
  have hcx : δ'.cx g κ = δ.cx g κ := by unfold DS.cx; rw [hl, hlr, hlb]
  exact
    { n := r.n.trans hn.symm, dfr := r.dfr
      env := fun j => by rw [hcx, he]; exact r.env j
      obj := fun i o h => by rw [hcx]; rw [ho] at h; exact r.obj i o h
      inj := by rw [hl]; exact r.inj
      lo := by rw [hl]; exact r.lo
      nx := by rw [hl, hx]; exact r.nx
      wt := by rw [hl, hlr]; exact r.wt
      below := r.below, hB := r.hB, N0 := r.N0 }
theorem Weak.dd : Weak g δ δ.dd := fun κ _ _ r => ⟨κ, Rel.congr (δ := δ) (δ' := δ.dd) rfl rfl (fun j => look_ddE (s := []) (by simp)) (fun j => lookOb_ddO (s := []) (by simp)) r⟩
theorem AR.dd (h : AR P g k late l QD dn δ.dd) : AR P g k late l QD dn δ := AR.weakG (fun _ _ => Weak.dd) h
def ddEc (b : Bool) (s : List Nat) (k : Nat) (v : AV) (r : List (Nat × AV)) : List (Nat × AV) := bif b then ddE s r else (k, v) :: ddE (k :: s) r
def ddOc (b : Bool) (s : List Nat) (k : Nat) (v : Option Ob) (r : List (Nat × Option Ob)) : List (Nat × Option Ob) := bif b then ddO s r else (k, v) :: ddO (k :: s) r
namespace Nf
variable {n x : Nat} {e : List (Nat × AV)} {o : List (Nat × Option Ob)} {i j m : Nat}
theorem dd : DS.dd ⟨n, e, o, x⟩ = ⟨n, ddE [] e, ddO [] o, x⟩ := rfl
theorem ddE0 (s : List Nat) : ddE s [] = [] := rfl
theorem ddE1 (s : List Nat) (v : AV) (r : List (Nat × AV)) : ddE s ((m, v) :: r) = ddEc (memB m s) s m v r := rfl
theorem ddEt (s : List Nat) (v : AV) (r : List (Nat × AV)) : ddEc true s m v r = ddE s r := rfl
theorem ddEf (s : List Nat) (v : AV) (r : List (Nat × AV)) : ddEc false s m v r = (m, v) :: ddE (m :: s) r := rfl
theorem ddO0 (s : List Nat) : ddO s [] = [] := rfl
theorem ddO1 (s : List Nat) (v : Option Ob) (r : List (Nat × Option Ob)) : ddO s ((m, v) :: r) = ddOc (memB m s) s m v r := rfl
theorem ddOt (s : List Nat) (v : Option Ob) (r : List (Nat × Option Ob)) : ddOc true s m v r = ddO s r := rfl
theorem ddOf (s : List Nat) (v : Option Ob) (r : List (Nat × Option Ob)) : ddOc false s m v r = (m, v) :: ddO (m :: s) r := rfl
theorem me0 : memB m [] = false := rfl
theorem me1 (y : Nat) (r : List Nat) : memB m (y :: r) = bif Nat.beq y m then true else memB m r := rfl
set_option linter.defProp false in
def ddR := And.intro @dd (And.intro @ddE0 (And.intro @ddE1 (And.intro @ddEt (And.intro @ddEf (And.intro @ddO0 (And.intro @ddO1 (And.intro @ddOt (And.intro @ddOf (And.intro @me0 @me1)))))))))
end Nf
end Go.Ab
/- Callees that rewrite a row of numbers in place: Go's slices.Sort, slices.Compact. -/
namespace Go.Ab
open Go Go.RowKit
variable {P : Program} {g : Ghost} {δ : DS} {κ : Nat → Option Nat} {a : Act} {w : World}
def nI (z : Int) : List PV := [.lit (.int .i64 z)]
/-- f, called with a row of numbers zs, leaves (out zs) there and returns the first (ret zs) of them (none: nothing). -/
structure RowC (P : Program) (f : FuncId) (out : List Int → List Int) (ret : Option (List Int → Nat)) : Prop where
  enters : ∀ vals w, (callFunc f vals).run P w = .ok (.enter f vals) w
  len : ∀ zs, (out zs).length = zs.length
  retle : ∀ r, ret = some r → ∀ zs, r zs ≤ zs.length
  calls : ∀ (b cap : Nat) (zs : List Int) (w : World), Sort.Holds (Value.int .i64) w b 0 zs.toArray → b < w.heap.size → zs.length ≤ 140737488355328 → zs.length ≤ cap →
    Calls P f #[.slice (some ⟨b, 0, none⟩) zs.length cap] w fun e w' => e = .returned (match ret with | none => .tuple #[] | some r => .slice (some ⟨b, 0, none⟩) (r zs) cap) ∧
      ∃ n os, w' = Sort.grow (Sort.putRow (Value.int .i64) (Sort.ahead w n) b 0 (out zs).toArray) os
  nil : ∀ w, Calls P f #[.slice none 0 0] w fun e w' => e = .returned (match ret with | none => .tuple #[] | some _ => .slice none 0 0) ∧ Below w.heap.size w w'

theorem putRow_heap {w : World} {b n : Nat} {c : Array Value} {e : TypeId} {d : Array Int} {os : Array Obj} (h : w.heap[b]? = some (.cells c e (0, 0))) :
    (Sort.grow (Sort.putRow (Value.int .i64) (Sort.ahead w n) b 0 d) os).heap[b]? = some (.cells (Sort.putCells (Value.int .i64) 0 d c) e (0, 0)) := by
  have hb : b < w.heap.size := (Array.getElem?_eq_some_iff.1 h).1
  unfold Sort.grow Sort.putRow Sort.mapBlock Sort.ahead
  simp only
  rw [Array.getElem?_append_left (by simpa using hb), Array.getElem?_modify, if_pos rfl, h]
  rfl
theorem putRow_other {w : World} {b n k : Nat} {d : Array Int} {os : Array Obj} (hk : k < w.heap.size) (hne : b ≠ k) :
    (Sort.grow (Sort.putRow (Value.int .i64) (Sort.ahead w n) b 0 d) os).heap[k]? = w.heap[k]? := by
  unfold Sort.grow Sort.putRow Sort.mapBlock Sort.ahead
  simp only
  rw [Array.getElem?_append_left (by simpa using hk), Array.getElem?_modify, if_neg hne]
theorem putRow_turns (w : World) (b n : Nat) (d : Array Int) (os : Array Obj) : Turns w (Sort.grow (Sort.putRow (Value.int .i64) (Sort.ahead w n) b 0 d) os) (some b) :=
  ⟨rfl, rfl, rfl, by simp [Sort.grow, Sort.putRow, Sort.mapBlock, Sort.ahead], fun k hk hne => putRow_other hk (fun e => hne (by rw [e]))⟩
theorem putCells_take {c : Array Value} {d : List Int} (hc : d.length ≤ c.size) : (Sort.putCells (Value.int .i64) 0 d.toArray c).toList.take d.length = d.map (Value.int .i64) := by
  apply List.ext_getElem
  · simp [Sort.putCells]; omega
  · intro j h1 h2
    have hj : j < d.length := by simpa using h2
    simp [Sort.putCells, hj]
theorem xs_nums {w : World} {N : Nat → Prop} {xs : List Value} {zs : List Int} (hl : xs.length = zs.length * 1) (hx : ∀ i' j p, cellAt (zs.map nI) i' j = some p → ∃ u, xs[i' * 1 + j]? = some u ∧ RP N w u p) : xs = zs.map (Value.int .i64) := by
  apply List.ext_getElem
  · simp [hl]
  · intro j h1 h2
    have hj : j < zs.length := by simpa using h2
    obtain ⟨u, hu, hr⟩ := hx j 0 (.lit (.int .i64 zs[j])) (by simp [cellAt, hj, nI])
    cases hr
    rw [Nat.mul_one, Nat.add_zero, List.getElem?_eq_getElem h1] at hu
    simpa using hu
/-- the slots that held the row's slice hold it again. -/
def putAll (δ : DS) (v : AV) : List Nat → DS
  | [] => δ
  | t :: ts => (putAll δ v ts).put t v
theorem putAll_n (δ : DS) (v : AV) (ts : List Nat) : (putAll δ v ts).n = δ.n := by induction ts with | nil => rfl | cons t ts ih => exact ih
def allAt (δ : DS) (v : AV) : List Nat → Prop
  | [] => True
  | t :: ts => δ.get t = v ∧ allAt δ v ts
theorem cx_put (δ : DS) (t : Nat) (v : AV) : (δ.put t v).cx g κ = δ.cx g κ := rfl
theorem cx_putAll (δ : DS) (v : AV) : ∀ ts, (putAll δ v ts).cx g κ = δ.cx g κ
  | [] => rfl
  | t :: ts => by show ((putAll δ v ts).put t v).cx g κ = _; rw [cx_put, cx_putAll δ v ts]
theorem Rel.learn (r : Rel g δ κ a w) {t : Nat} {v : AV} (h : RA (δ.cx g κ) w (g.val a t) v) : Rel g (δ.put t v) κ a w where
  n := r.n
  dfr := r.dfr
  env := fun j => by
    rw [get_put]
    by_cases e : t = j
    · subst e; rw [if_pos rfl]; exact h
    · rw [if_neg e]; exact r.env j
  obj := r.obj
  inj := r.inj
  lo := r.lo
  nx := r.nx
  wt := r.wt
  below := r.below
  hB := r.hB
  N0 := r.N0
theorem Rel.learnAll (r : Rel g δ κ a w) {v : AV} : ∀ ts : List Nat, (∀ t ∈ ts, RA (δ.cx g κ) w (g.val a t) v) → Rel g (putAll δ v ts) κ a w
  | [], _ => r
  | t :: ts, h => (Rel.learnAll r ts fun t ht => h t (by simp [ht])).learn (by rw [cx_putAll]; exact h t (by simp))
theorem allAt_mem {δ : DS} {v : AV} : ∀ {ts : List Nat}, allAt δ v ts → ∀ t ∈ ts, δ.get t = v
  | [], _, t, h => by simp at h
  | x :: ts, h, t, ht => by
    rcases List.mem_cons.1 ht with rfl | ht
    · exact h.1
    · exact allAt_mem h.2 t ht
variable {ops : Array Oper} {rest : List Oper} {Q : Exit → DS → Prop} {dst : Option Nat} {ty : TypeId} {pos : String} {af : Array Edge} {gd : Option (Tmp × Bool)}
/-- what such a callee hands back. -/
def rowRet (i : Nat) (e : TypeId) (zs os : List Int) : Option (List Int → Nat) → AV
  | none => .tup []
  | some r => .own i e 1 ((os.take (r zs)).map nI)
theorem OwnV.nums {C : Cx} {w : World} {v : Value} {i : Nat} {e : TypeId} {zs : List Int} (h : OwnV C w v i e 1 (zs.map nI)) :
    (v = .slice none 0 0 ∧ zs = []) ∨ ∃ b cap c, v = .slice (some ⟨b, 0, none⟩) zs.length cap ∧ C.κ i = some b ∧ C.B ≤ b ∧ w.heap[b]? = some (.cells c e (0, 0)) ∧ zs.length ≤ cap ∧ cap ≤ maxLen ∧ c.size = cap ∧ c.toList.take zs.length = zs.map (Value.int .i64) := by
  obtain ⟨xs, ⟨hl, hown⟩, _, hx⟩ := h.row
  rw [List.length_map] at hl hown
  have hxs := xs_nums hl hx
  rcases hown with ⟨rfl, h0⟩ | ⟨b, cap, c, rfl, h1, h2, h3, h4, h5, h6⟩
  · exact .inl ⟨rfl, List.eq_nil_of_length_eq_zero h0⟩
  · refine .inr ⟨b, cap, c, rfl, h.blk b rfl, h1, h2, h3, h4, by omega, ?_⟩
    rw [← hxs, ← h6, Nat.mul_one]
theorem OwnV.mkNums {C : Cx} {w : World} {i b cap : Nat} {e : TypeId} {zs : List Int} {c : Array Value} (hl : C.Lr i) (hκ : C.κ i = some b) (hB : C.B ≤ b) (h2 : w.heap[b]? = some (.cells c e (0, 0))) (h3 : zs.length ≤ cap) (h4 : cap ≤ maxLen) (h5 : c.size = cap)
    (h6 : c.toList.take zs.length = zs.map (Value.int .i64)) (hlim : zs.length ≤ 140737488355328) : OwnV C w (.slice (some ⟨b, 0, none⟩) zs.length cap) i e 1 (zs.map nI) := by
  refine ⟨hl, by simpa using hlim, fun c hc => ?_, fun b' hb' => ?_, zs.map (Value.int .i64), ⟨by simp, .inr ⟨b, cap, c, by simp, hB, h2, by simpa using h3, h4, by omega, by simpa using h6⟩⟩, fun u hu => ?_, fun i' j p hp => ?_⟩
  · obtain ⟨z, _, rfl⟩ := List.mem_map.1 hc; rfl
  · cases hb'; exact hκ
  · obtain ⟨z, _, rfl⟩ := List.mem_map.1 hu; rfl
  · unfold cellAt at hp
    rw [List.getElem?_map] at hp
    cases hz : zs[i']? with
    | none => rw [hz] at hp; simp at hp
    | some z =>
      rw [hz] at hp
      cases j with
      | zero =>
        simp [nI] at hp
        subst hp
        exact ⟨.int .i64 z, by rw [Nat.mul_one, Nat.add_zero, List.getElem?_map, hz]; rfl, .lit _⟩
      | succ j => simp [nI] at hp
theorem Eff.rowC {f : FuncId} {x : Operand} {tys : Array TypeId} {out : List Int → List Int} {ret : Option (List Int → Nat)} (hf : RowC P f out ret) (ts : List Nat) {i : Nat} {e : TypeId} {zs : List Int} (hx : δ.ev x = .own i e 1 (zs.map nI)) (hts : allAt δ (.own i e 1 (zs.map nI)) ts) (hr : δ.ob i = some .row)
    (ho : okT x = true) (hd : okD δ.n dst = true) :
    Eff P g ⟨dst, .call { callee := .value (.func f), args := #[x], argTypes := tys }, ty, pos, af, none⟩ δ ((putAll (δ.mapV (AV.kill i)) (.own i e 1 ((out zs).map nI)) ts).putd dst (rowRet i e zs (out zs) ret)) := by
  intro κ a w r
  right
  have hxv := (r.ra hx ho).own_inv
  have hrun := run_call (dst := dst) (ty := ty) (pos := pos) (af := af) (xs := #[x]) (tys := tys) (ρ := a.eval) (x := .func f) (f := f) rfl hf.enters w
  have hlim : zs.length ≤ 140737488355328 := by simpa using hxv.lim
  refine ⟨f, #[a.eval x], by simpa using hrun, ?_⟩
  have hnn : ∀ ts, okD (putAll (δ.mapV (AV.kill i)) (.own i e 1 ((out zs).map nI)) ts).n dst = true := fun ts => by rw [putAll_n]; exact hd
  have hlr : ∀ κ', ((δ.mapV (AV.kill i)).cx g κ').Lr i := fun κ' => by
    show (δ.mapV (AV.kill i)).ob i = some .row
    rw [ob_mapV, hr]; rfl
  have hoth : ∀ t ∈ ts, OwnV (δ.cx g κ) w (g.val a t) i e 1 (zs.map nI) := fun t ht => by
    have := r.env t
    rw [allAt_mem hts t ht] at this
    exact this.own_inv
  have hnil : ∀ {w' : World}, OwnV ((δ.mapV (AV.kill i)).cx g κ) w' (.slice none 0 0) i e 1 (([] : List Int).map nI) := fun {w'} =>
    ⟨hlr κ, (by simp), (fun c hc => by simp at hc), (fun b hb => by cases hb), ⟨[], ⟨by simp, .inl ⟨rfl, rfl⟩⟩, (fun u hu => by simp at hu), (fun i' j p hp => by simp [cellAt] at hp)⟩⟩
  rcases hxv.nums with ⟨hv, rfl⟩ | ⟨b, cap, c, hv, hκ, hB, hb, hcap, hmax, hcs, htk⟩
  · -- nothing there
    rw [hv]
    refine (hf.nil w).mono fun e' w' ⟨he, hbel⟩ => ?_
    have r1 := r.ext hbel
    have e0 : out [] = [] := List.eq_nil_of_length_eq_zero (by rw [hf.len]; rfl)
    have rk : Rel g (δ.mapV (AV.kill i)) κ a w' := by
      refine (r1.row hr (κ' := κ) (fun _ _ => rfl) ⟨rfl, rfl, rfl, Nat.le_refl _, fun _ _ _ => rfl⟩ (fun b hb' => ?_) (AV.kill i) rfl (fun G v av h => h.kill G)).1
      obtain ⟨c, e', h1⟩ := r1.obj i .row hr b hb'
      exact ⟨.inl hb', (Array.getElem?_eq_some_iff.1 h1).1, c, e', h1⟩
    have ra : Rel g (putAll (δ.mapV (AV.kill i)) (.own i e 1 ((out []).map nI)) ts) κ a w' := by
      refine rk.learnAll ts fun t ht => .own ?_
      have h1 := r1.env t
      rw [allAt_mem hts t ht] at h1
      rw [e0]
      rcases h1.own_inv.nums with ⟨h2, _⟩ | ⟨b, cap, c, h2, hκ, hB, hb, hcap, hmax, hcs, htk⟩
      · rw [h2]; exact hnil
      · rw [h2]; exact OwnV.mkNums (hlr κ) hκ hB hb hcap hmax hcs htk (by simp)
    refine ⟨_, κ, he, ra.putd (okD_spec (hnn ts)) ?_⟩
    cases ret with
    | none => exact .tup rfl (fun j u c h => by simp at h)
    | some rr =>
      show RA _ _ _ (.own i e 1 (((out []).take (rr [])).map nI))
      rw [e0, cx_putAll]
      exact .own (by simpa using hnil)
  · rw [hv]
    have hκ0 : κ i = some b := hκ
    have hblt : b < w.heap.size := (Array.getElem?_eq_some_iff.1 hb).1
    have hold : Sort.Holds (Value.int .i64) w b 0 zs.toArray := by
      intro j hj
      have hj' : j < zs.length := by simpa using hj
      refine ⟨?_, by rw [Nat.zero_add]; exact frozen_of hb _⟩
      rw [Nat.zero_add, cell_of hb]
      have h1 : (c.toList.take zs.length)[j]? = (zs.map (Value.int .i64))[j]? := by rw [htk]
      rw [List.getElem?_take, if_pos hj', Array.getElem?_toList, List.getElem?_map, List.getElem?_eq_getElem hj'] at h1
      rw [h1]
      simp [hj']
    refine (hf.calls b cap zs w hold hblt hlim hcap).mono fun e' w' ⟨he, n, os, hw'⟩ => ?_
    have hh : w'.heap[b]? = some (.cells (Sort.putCells (Value.int .i64) 0 (out zs).toArray c) e (0, 0)) := by rw [hw']; exact putRow_heap hb
    have hsz : (Sort.putCells (Value.int .i64) 0 (out zs).toArray c).size = c.size := by simp [Sort.putCells]
    have htk2 := putCells_take (c := c) (d := out zs) (by rw [hf.len]; omega)
    have rk : Rel g (δ.mapV (AV.kill i)) κ a w' := by
      refine (r.row hr (κ' := κ) (fun _ _ => rfl) (by rw [hκ0, hw']; exact putRow_turns _ _ _ _ _) (fun b' hb' => ?_) (AV.kill i) rfl (fun G v av h => h.kill G)).1
      obtain rfl : b = b' := Option.some.inj (hκ.symm.trans hb')
      exact ⟨.inl hκ, (Array.getElem?_eq_some_iff.1 hh).1, _, _, hh⟩
    have ra : Rel g (putAll (δ.mapV (AV.kill i)) (.own i e 1 ((out zs).map nI)) ts) κ a w' := by
      refine rk.learnAll ts fun t ht => .own ?_
      rcases (hoth t ht).nums with ⟨h2, h0⟩ | ⟨b', cap', c', h2, hκ', hB', hb', hcap', hmax', hcs', htk'⟩
      · have e0 : out zs = [] := List.eq_nil_of_length_eq_zero (by rw [hf.len, h0]; rfl)
        rw [h2, e0]; exact hnil
      · obtain rfl : b = b' := Option.some.inj (hκ.symm.trans hκ')
        rw [hb] at hb'
        simp only [Option.some.injEq, Obj.cells.injEq] at hb'
        obtain ⟨rfl, _⟩ := hb'
        rw [h2, ← hf.len zs]
        exact OwnV.mkNums (hlr κ) hκ hB hh (by rw [hf.len]; exact hcap') hmax' (by omega) htk2 (by rw [hf.len]; exact hlim)
    refine ⟨_, κ, he, ra.putd (okD_spec (hnn ts)) ?_⟩
    rw [cx_putAll]
    cases ret with
    | none => exact .tup rfl (fun j u c h => by simp at h)
    | some rr =>
      have hle := hf.retle rr rfl zs
      have hl2 : ((out zs).take (rr zs)).length = rr zs := by rw [List.length_take, hf.len]; omega
      show RA _ _ (.slice (some ⟨b, 0, none⟩) (rr zs) cap) (.own i e 1 (((out zs).take (rr zs)).map nI))
      refine .own ?_
      have := OwnV.mkNums (C := (δ.mapV (AV.kill i)).cx g κ) (w := w') (i := i) (b := b) (cap := cap) (e := e) (zs := (out zs).take (rr zs)) (hlr κ) hκ hB hh (by omega) hmax (by omega)
        (by rw [hl2, List.map_take, ← htk2, List.take_take, hf.len, Nat.min_eq_left (by omega)]) (by omega)
      rwa [hl2] at this
theorem AOps.rowC {f : FuncId} {x : Operand} {tys : Array TypeId} {out : List Int → List Int} {ret : Option (List Int → Nat)} (hf : RowC P f out ret) (ts : List Nat) {i : Nat} {e : TypeId} {zs : List Int} (hx : δ.ev x = .own i e 1 (zs.map nI)) (hts : allAt δ (.own i e 1 (zs.map nI)) ts) (hr : δ.ob i = some .row)
    (ho : okT x = true) (hd : okD δ.n dst = true) (hK : AOps .plain P g ops rest Q ((putAll (δ.mapV (AV.kill i)) (.own i e 1 ((out zs).map nI)) ts).putd dst (rowRet i e zs (out zs) ret))) :
    AOps .plain P g ops (⟨dst, .call { callee := .value (.func f), args := #[x], argTypes := tys }, ty, pos, af, none⟩ :: rest) Q δ :=
  AOps.eff rfl rfl (Eff.rowC hf ts hx hts hr ho hd) hK
theorem enters_of {f : FuncId} {fn : Func} {c : Code} (hf : P.funcs[f]? = some fn) (hb : fn.body = some c) (he : (fn.name == "runtime.NumGoroutine") = false) : ∀ vals w, (callFunc f vals).run P w = .ok (.enter f vals) w := fun vals w => by
  simp [callFunc, hf, hb]; simpa using he
end Go.Ab
/- A row's first part; append of made zeros to nothing; a capacity. -/
namespace Go.Ab
open Go Go.RowKit
variable {q : Md} {P : Program} {g : Ghost} {δ : DS} {κ : Nat → Option Nat} {a : Act} {w : World}
variable {ops : Array Oper} {rest : List Oper} {Q : Exit → DS → Prop} {dst : Option Nat} {ty : TypeId} {pos : String} {af : Array Edge} {gd : Option (Tmp × Bool)}
theorem zeroCells_one (z : Value) (n : Nat) : (Builtin.zeroCells #[z] n).toList = List.replicate n z := by
  apply List.ext_getElem
  · simp [Builtin.zeroCells]
  · intro j h1 h2
    have hj : j < n := by simpa using h2
    simp [Builtin.zeroCells, hj, Nat.mod_one]
theorem Eff.append_zeros {s x : Operand} {t tn e : TypeId} {n bytes : Nat} {z : Value} {kn : IntKind} (hs : δ.ev s = .pv (.lit (.slice none 0 0))) (hx : δ.ev x = litI (n : Nat)) (ht : P.underlying t = some (.slice e)) (htn : P.underlying tn = some (.int kn))
    (hi : (P.info? e).map (fun i => (i.size, i.zero, i.bytes)) = some (1, some z, bytes)) (hz1 : z.oneCell' = true) (ho : okT s = true) (ho' : okT x = true) (hd : okD δ.n dst = true) (h0 : 0 < n) (hl : n ≤ 140737488355328) (hb : n * bytes ≤ 281474976710656) :
    Eff P g ⟨dst, .call { callee := .builtin .append, args := #[s, x], argTypes := #[t, tn] }, ty, pos, af, gd⟩ δ ((δ.addOb .row).putd dst (.own δ.nx e 1 (List.replicate n [.lit z]))) := by
  intro κ a w r
  obtain ⟨i0, hi0, hs0, hz0, hb0⟩ : ∃ i0, P.info? e = some i0 ∧ i0.size = 1 ∧ i0.zero = some z ∧ i0.bytes = bytes := by
    cases h : P.info? e with
    | none => rw [h] at hi; simp at hi
    | some i0 => rw [h] at hi; simp at hi; exact ⟨i0, rfl, hi.1, hi.2.1, hi.2.2⟩
  have hrun := Lib.run_append_nil_zeros w t tn ty e i0 z .i64 kn ht htn hi0 hz0 n h0 (by omega) (by omega) (by rw [hb0]; exact hb)
  have hrun' : (execOp a.eval ⟨dst, .call { callee := .builtin .append, args := #[s, x], argTypes := #[t, tn] }, ty, pos, af, gd⟩).run P w = .ok (.value (.slice (some ⟨w.heap.size, 0, none⟩) n (grownCap w n 0 e))) (w.drew.alloc (.cells (Builtin.zeroCells z.cells n ++ Builtin.zeroCells z.cells (grownCap w n 0 e - n)) e)) := by
    simp only [execOp, resolve, invoke, builtin, Sem.run_bind, Sem.run_pure, Result.andThen_ok, List.map_toArray, List.map_cons, List.map_nil, r.lit hs ho, r.lit hx ho', hrun]
  have hge := grownCap_ge w n 0 e
  have hle := grownCap_le_maxLen w n 0 e (by simp only [maxLen]; omega)
  have r0 : Rel g δ κ a w.drew := r.ext (Below.drew (Below.refl _ _))
  have hsz : w.drew.heap.size = w.heap.size := rfl
  obtain ⟨r', G⟩ := r0.grow .row (.cells (Builtin.zeroCells z.cells n ++ Builtin.zeroCells z.cells (grownCap w n 0 e - n)) e) (fun C G hκ b hb => by
    have : w.drew.heap.size = b := Option.some.inj (hκ.symm.trans hb)
    subst this
    exact ⟨_, e, heap_alloc_new w.drew _⟩)
  refine .inl ⟨_, _, _, _, hrun', .inl rfl, r'.putd (okD_spec hd) (.own ?_)⟩
  have hc : z.cells = #[z] := cells_one hz1
  refine ⟨by show (δ.addOb .row).ob _ = _; rw [ob_addOb, if_pos rfl], by simpa using hl, fun c hc => ?_, fun b hb => ?_, List.replicate n z, ⟨by simp, .inr ⟨w.heap.size, _, _, by simp, r.hB, heap_alloc_new w.drew _, by simpa using hge, hle, ?_, ?_⟩⟩, fun u hu => ?_, fun i' j p hp => ?_⟩
  · rw [List.eq_of_mem_replicate hc]; rfl
  · simp only [Value.ownBlock, Option.some.injEq] at hb
    subst hb
    show upd _ _ _ _ = _
    simp [upd]
  · rw [hc]
    have h1 : (Builtin.zeroCells #[z] n).size = n := by have := congrArg List.length (zeroCells_one z n); simpa using this
    have h2 : (Builtin.zeroCells #[z] (grownCap w n 0 e - n)).size = grownCap w n 0 e - n := by have := congrArg List.length (zeroCells_one z (grownCap w n 0 e - n)); simpa using this
    rw [Array.size_append, h1, h2]; omega
  · rw [hc, Array.toList_append, zeroCells_one]
    simp
  · rw [List.eq_of_mem_replicate hu]; exact hz1
  · unfold cellAt at hp
    rw [List.getElem?_replicate] at hp
    by_cases hi' : i' < n
    · rw [if_pos hi'] at hp
      cases j with
      | zero =>
        simp at hp
        subst hp
        exact ⟨z, by rw [List.getElem?_replicate, if_pos (by omega)], .lit _⟩
      | succ j => simp at hp
    · rw [if_neg hi'] at hp; simp at hp
theorem AOps.append_zeros {s x : Operand} {t tn e : TypeId} {n bytes : Nat} {z : Value} {kn : IntKind} (hs : δ.ev s = .pv (.lit (.slice none 0 0))) (hx : δ.ev x = litI (n : Nat)) (ht : P.underlying t = some (.slice e)) (htn : P.underlying tn = some (.int kn))
    (hi : (P.info? e).map (fun i => (i.size, i.zero, i.bytes)) = some (1, some z, bytes)) (hz1 : z.oneCell' = true) (ho : okT s = true) (ho' : okT x = true) (hd : okD δ.n dst = true) (h0 : 0 < n) (hl : n ≤ 140737488355328) (hb : n * bytes ≤ 281474976710656)
    (hK : AOps .plain P g ops rest Q ((δ.addOb .row).putd dst (.own δ.nx e 1 (List.replicate n [.lit z])))) : AOps .plain P g ops (⟨dst, .call { callee := .builtin .append, args := #[s, x], argTypes := #[t, tn] }, ty, pos, af, none⟩ :: rest) Q δ :=
  AOps.eff rfl rfl (Eff.append_zeros hs hx ht htn hi hz1 ho ho' hd h0 hl hb) hK
theorem AOps.append_zerosI {s x : Operand} {t tn e : TypeId} {m : Int} {bytes : Nat} {z : Value} {kn : IntKind} (hs : δ.ev s = .pv (.lit (.slice none 0 0))) (hx : δ.ev x = litI m) (ht : P.underlying t = some (.slice e)) (htn : P.underlying tn = some (.int kn))
    (hi : (P.info? e).map (fun i => (i.size, i.zero, i.bytes)) = some (1, some z, bytes)) (hz1 : z.oneCell' = true) (ho : okT s = true) (ho' : okT x = true) (hd : okD δ.n dst = true) (hb : Nat.ble bytes 1000 = true) (h0 : 0 < m) (hl : m ≤ 100000000000)
    (hK : AOps .plain P g ops rest Q ((δ.addOb .row).putd dst (.own δ.nx e 1 (List.replicate m.toNat [.lit z])))) : AOps .plain P g ops (⟨dst, .call { callee := .builtin .append, args := #[s, x], argTypes := #[t, tn] }, ty, pos, af, none⟩ :: rest) Q δ :=
  AOps.append_zeros (n := m.toNat) hs (by rw [Int.toNat_of_nonneg (by omega)]; exact hx) ht htn hi hz1 ho ho' hd (by omega) (by omega) (by
    have h1 : bytes ≤ 1000 := by simpa using hb
    have h2 : m.toNat * bytes ≤ 100000000000 * 1000 := Nat.mul_le_mul (by omega) h1
    omega) hK
/-- cap of nothing. -/
theorem AOps.cap_nil {x : Operand} {t e : TypeId} (hx : δ.ev x = .pv (.lit (.slice none 0 0))) (ht : P.underlying t = some (.slice e)) (ho : okT x = true) (hd : okD δ.n dst = true)
    (hK : AOps q P g ops rest Q (δ.putd dst (litI 0))) : AOps q P g ops (⟨dst, .call { callee := .builtin .cap, args := #[x], argTypes := #[t] }, ty, pos, af, none⟩ :: rest) Q δ :=
  AOps.valw _ hd (fun κ a w r => ⟨.int .i64 0, fun w' _ => by
    have h1 := r.lit hx ho
    simp [execOp, resolve, invoke, builtin, Builtin.cap_, Sem.run_bind, Sem.run_pure, Result.andThen_ok, h1, run_underlying ht]; rfl, .pv (.lit _)⟩) hK
/-- the first elements of a row of the walk's own. -/
theorem AOps.slice_own {t e e' : TypeId} {x y : Operand} {i k : Nat} {m : Int} {els : List (List PV)} (hx : δ.ev x = .own i e' k els) (hy : δ.ev y = litI m) (ht : P.underlying t = some (.slice e)) (hk : (P.info? e).map (·.size) = some k)
    (ho : okT x = true) (ho' : okT y = true) (hd : okD δ.n dst = true) (h0 : 0 ≤ m) (hm : m.toNat ≤ els.length) (hK : AOps q P g ops rest Q (δ.putd dst (.own i e' k (els.take m.toNat)))) : AOps q P g ops (⟨dst, .slice t x none (some y) none, ty, pos, af, none⟩ :: rest) Q δ :=
  AOps.valw _ hd (fun κ a w r => by
    have h1 := (r.ra hx ho).own_inv
    obtain ⟨i0, hi0, hk0⟩ : ∃ i0, P.info? e = some i0 ∧ i0.size = k := by
      cases h : P.info? e with
      | none => rw [h] at hk; simp at hk
      | some i0 => rw [h] at hk; exact ⟨i0, rfl, by simpa using hk⟩
    have hyv : a.eval y = .int .i64 m := r.lit hy ho'
    obtain ⟨h, rfl⟩ : ∃ h : Nat, m = (h : Int) := ⟨m.toNat, by omega⟩
    rw [Int.toNat_natCast] at hm ⊢
    obtain ⟨a0, cap, hv, hcap, hb⟩ : ∃ a0 cap, a.eval x = .slice a0 els.length cap ∧ els.length ≤ cap ∧ OwnV (δ.cx g κ) w (.slice a0 h cap) i e' k (els.take h) := by
      obtain ⟨hl, hlim, hkk, hblk, xs, ⟨hxl, hown⟩, h1x, hxx⟩ := h1
      have mk : ∀ a0 cap, (∀ b, (Value.slice a0 h cap).ownBlock = some b → (δ.cx g κ).κ i = some b) → ((Value.slice a0 h cap = .slice none 0 0 ∧ h = 0) ∨ ∃ g0 cap' cur, Value.slice a0 h cap = .slice (some ⟨g0, 0, none⟩) h cap' ∧ (δ.cx g κ).B ≤ g0 ∧ w.heap[g0]? = some (.cells cur e' (0, 0)) ∧ h ≤ cap' ∧ cap' ≤ maxLen ∧ cur.size = cap' * k ∧ cur.toList.take (h * k) = xs.take (h * k)) → OwnV (δ.cx g κ) w (.slice a0 h cap) i e' k (els.take h) := by
        intro a0 cap hbk hor
        have hlen : (els.take h).length = h := by rw [List.length_take]; omega
        have hmul : h * k ≤ els.length * k := Nat.mul_le_mul_right k hm
        refine ⟨hl, by omega, fun c hc => hkk c (List.mem_of_mem_take hc), hbk, xs.take (h * k), ⟨by rw [hlen, List.length_take]; omega, by rw [hlen]; exact hor⟩, fun u hu => h1x u (List.mem_of_mem_take hu), fun i' j p hp => ?_⟩
        unfold cellAt at hp
        rw [List.getElem?_take] at hp
        by_cases hih : i' < h
        · rw [if_pos hih] at hp
          obtain ⟨u, hu, hu2⟩ := hxx i' j p (by unfold cellAt; exact hp)
          refine ⟨u, ?_, hu2⟩
          have hjk : j < k := by
            rw [Option.bind_eq_some_iff] at hp
            obtain ⟨c, hc1, hc2⟩ := hp
            have := hkk c (List.mem_of_getElem? hc1)
            have := (List.getElem?_eq_some_iff.1 hc2).1
            omega
          have : (i' + 1) * k ≤ h * k := Nat.mul_le_mul_right k hih
          rw [Nat.add_mul, Nat.one_mul] at this
          rw [List.getElem?_take, if_pos (by omega)]; exact hu
        · rw [if_neg hih] at hp; simp at hp
      rcases hown with ⟨hn, hz⟩ | ⟨g0, cap, cur, hv, hg, h3, hle, hcm, hcs, htk⟩
      · refine ⟨none, 0, by rw [hn, hz], by omega, mk none 0 (fun b hb => by cases hb) (.inl ⟨?_, by omega⟩)⟩
        rw [show h = 0 by omega]
      · refine ⟨_, cap, hv, hle, mk _ cap (fun b hb => hblk b (by rw [hv]; exact hb)) (.inr ⟨g0, cap, cur, rfl, hg, h3, by omega, hcm, hcs, ?_⟩)⟩
        rw [← htk, List.take_take, Nat.min_eq_left (Nat.mul_le_mul_right k hm)]
    have hrun : ∀ w, (execOp a.eval ⟨dst, .slice t x none (some y) none, ty, pos, af, none⟩).run P w = .ok (.value (.slice a0 h cap)) w := by
      intro w
      have hb1 : ∀ w, (Instr.sliceBounds true els.length cap none (some (.int .i64 (h : Int))) none).run P w = .ok (0, h, cap) w := by
        intro w
        have e1 : (0 : Int) ≤ (h : Int) ∧ (h : Int) ≤ (cap : Int) := by omega
        simp [Instr.sliceBounds, Instr.sliceBound, asIntOf, e1]
        intro h0; exfalso; omega
      simp only [execOp, Instr.sliceAt, Instr.slice, run_underlying ht, hv, hyv, Sem.run_bind, Result.andThen_ok, Option.map_none, Option.map_some, hb1, sizeOf, typeInfo, Sem.run_pure]
      cases a0 with
      | none => simp [hi0, hk0]
      | some ad =>
        simp [hi0, hk0]
        intro _
        cases ad; simp [Addr.add]
    exact ⟨_, fun w' _ => hrun w', .own hb⟩) hK
/-- a part of nothing. -/
theorem AOps.slice_nil {t e : TypeId} {x y : Operand} (hx : δ.ev x = .pv (.lit (.slice none 0 0))) (hy : δ.ev y = litI 0) (ht : P.underlying t = some (.slice e)) (hk : ((P.info? e).map (·.size)).isSome = true)
    (ho : okT x = true) (ho' : okT y = true) (hd : okD δ.n dst = true) (hK : AOps q P g ops rest Q (δ.putd dst (.pv (.lit (.slice none 0 0))))) : AOps q P g ops (⟨dst, .slice t x none (some y) none, ty, pos, af, none⟩ :: rest) Q δ :=
  AOps.valw _ hd (fun κ a w r => by
    obtain ⟨i0, hi0⟩ : ∃ i0, P.info? e = some i0 := by
      cases h : P.info? e with
      | none => rw [h] at hk; simp at hk
      | some i0 => exact ⟨i0, rfl⟩
    have h1 : a.eval x = .slice none 0 0 := r.lit hx ho
    have h2 : a.eval y = .int .i64 0 := r.lit hy ho'
    refine ⟨.slice none 0 0, fun w' _ => ?_, .pv (.lit _)⟩
    have hb1 : ∀ w, (Instr.sliceBounds true 0 0 none (some (.int .i64 (0 : Int))) none).run P w = .ok (0, 0, 0) w := by
      intro w
      simp [Instr.sliceBounds, Instr.sliceBound, asIntOf]
    simp only [execOp, Instr.sliceAt, Instr.slice, run_underlying ht, h1, h2, Sem.run_bind, Result.andThen_ok, Option.map_none, Option.map_some, hb1, sizeOf, typeInfo, Sem.run_pure]
    simp [hi0]) hK
namespace Nf
variable {n x : Nat} {e : List (Nat × AV)} {o : List (Nat × Option Ob)}
theorem pum (d : Nat) (v : AV) : DS.put ⟨n, e, o, x⟩ d v = ⟨n, (d, v) :: e, o, x⟩ := rfl
theorem pu0 (δ : DS) (v : AV) : putAll δ v [] = δ := rfl
theorem pu1 (δ : DS) (v : AV) (t : Nat) (ts : List Nat) : putAll δ v (t :: ts) = (putAll δ v ts).put t v := rfl
theorem rr0 (i : Nat) (e : TypeId) (zs os : List Int) : rowRet i e zs os none = .tup [] := rfl
theorem rr1 (i : Nat) (e : TypeId) (zs os : List Int) (r : List Int → Nat) : rowRet i e zs os (some r) = .own i e 1 ((os.take (r zs)).map nI) := rfl
set_option linter.defProp false in
def rwR := And.intro @pum (And.intro @pu0 (And.intro @pu1 (And.intro @rr0 @rr1)))
end Nf
end Go.Ab
/- Contracts of callees that return a row of their own making; the caller owns it from then on. -/
namespace Go.Ab
open Go Go.RowKit
variable {P : Program} {g : Ghost} {δ : DS} {κ : Nat → Option Nat} {a : Act} {w : World}
variable {ops : Array Oper} {rest : List Oper} {Q : Exit → DS → Prop} {dst : Option Nat} {ty : TypeId} {pos : String} {af : Array Edge}
/-- A row that a callee has made (or nothing). -/
theorem Rel.adoptB (r : Rel g δ κ a w) {w' : World} (hb : Below w.heap.size w w') (bo : Option Nat) (hbo : ∀ b, bo = some b → w.heap.size ≤ b ∧ b < w'.heap.size ∧ ∃ c e, w'.heap[b]? = some (.cells c e (0, 0))) :
    Rel g (δ.addOb .row) (upd κ δ.nx bo) a w' ∧ Goes (δ.cx g κ) w ((δ.addOb .row).cx g (upd κ δ.nx bo)) w' := by
  have hold : ∀ k, k < w.heap.size → w'.heap[k]? = w.heap[k]? := hb.block
  have hnl : ¬ δ.live δ.nx := fun h => Nat.lt_irrefl _ (r.nx _ h)
  have hne : ∀ i, δ.live i → δ.nx ≠ i := fun i h e => hnl (e ▸ h)
  have hlive : ∀ i, (δ.addOb .row).live i → i = δ.nx ∨ δ.live i := by
    intro i ⟨o', h⟩
    rw [ob_addOb] at h
    by_cases e : δ.nx = i
    · exact .inl e.symm
    · rw [if_neg e] at h; exact .inr ⟨o', h⟩
  have G : Goes (δ.cx g κ) w ((δ.addOb .row).cx g (upd κ δ.nx bo)) w' :=
    { B := rfl, size := hb.size
      N := fun b h1 h2 => ⟨⟨h2.1, fun i hi => by
        show upd κ δ.nx bo i ≠ some b
        rcases hlive i hi with rfl | hi
        · simp only [upd, if_true]; intro e; have := (hbo b e).1; omega
        · simp only [upd, hne i hi, if_false]; exact h2.2 i hi⟩, hold b h1⟩
      Lr := fun i hi => by
        have hi' := hne i (DS.lr_live hi)
        refine ⟨?_, by show upd _ _ _ i = κ i; simp [upd, hi'], fun b hκ => hold b (r.lo i b (DS.lr_live hi) hκ).2⟩
        show (δ.addOb .row).ob i = _
        rw [ob_addOb, if_neg hi']; exact hi
      Lb := fun i hi => by
        have hi' := hne i (DS.lb_live hi)
        refine ⟨?_, by show upd _ _ _ i = κ i; simp [upd, hi']⟩
        obtain ⟨o', h1, h2⟩ := hi
        exact ⟨o', by rw [ob_addOb, if_neg hi']; exact h1, h2⟩ }
  refine ⟨?_, G⟩
  exact
    { n := r.n, dfr := r.dfr.goes fun k _ hk => hold k (heap_lt hk), env := fun j => G.ra (r.env j)
      obj := fun i o' h => by
        rw [ob_addOb] at h
        by_cases e : δ.nx = i
        · rw [if_pos e] at h; cases h; subst e
          intro b hκ
          have hκ' : bo = some b := by
            have : upd κ δ.nx bo δ.nx = some b := hκ
            simpa [upd] using this
          exact (hbo b hκ').2.2
        · rw [if_neg e] at h
          exact (r.obj i o' h).goes G (by show upd _ _ _ i = κ i; simp [upd, e]) (fun b hκ => hold b (r.lo i b ⟨o', h⟩ hκ).2)
      inj := fun i j b h1 h2 h3 h4 => by
        rcases hlive i h1 with rfl | h1
        · rcases hlive j h2 with rfl | h2
          · rfl
          · simp only [upd, if_true] at h3
            simp only [upd, hne j h2, if_false] at h4
            exact absurd (r.lo j _ h2 h4).2 (by have := (hbo b h3).1; omega)
        · rcases hlive j h2 with rfl | h2
          · simp only [upd, if_true] at h4
            simp only [upd, hne i h1, if_false] at h3
            exact absurd (r.lo i _ h1 h3).2 (by have := (hbo b h4).1; omega)
          · simp only [upd, hne i h1, hne j h2, if_false] at h3 h4
            exact r.inj i j b h1 h2 h3 h4
      lo := fun i b h1 h2 => by
        rcases hlive i h1 with rfl | h1
        · simp only [upd, if_true] at h2
          have := hbo b h2
          have := r.hB
          omega
        · simp only [upd, hne i h1, if_false] at h2
          have := r.lo i b h1 h2
          have := hb.size
          omega
      nx := fun i h => by
        show i < δ.nx + 1
        rcases hlive i h with rfl | h
        · omega
        · have := r.nx i h; omega
      wt := fun k hk => ⟨fun b hkb => ⟨((r.wt k hk).1 b hkb).1, (hold b (wt_lt ((r.wt k hk).1 b hkb))).trans ((r.wt k hk).1 b hkb).2⟩, fun i b hl hi hκ hkb => by
        rcases hlive i hl with rfl | hi'
        · simp only [upd, if_true] at hκ
          have := (hbo b hκ).1
          exact absurd (wt_lt ((r.wt k hk).1 _ hkb)) (by omega)
        · simp only [upd, hne i hi', if_false] at hκ
          refine (r.wt k hk).2 i b hi' ?_ hκ hkb
          refine hi.imp (fun hi => ?_) id
          have hi2 : (δ.addOb .row).ob i = some .row := hi
          rw [ob_addOb, if_neg (hne i hi')] at hi2
          exact hi2⟩
      below := r.below.trans (hb.mono r.hB)
      hB := Nat.le_trans r.hB hb.size
      N0 := r.N0 }
/-- a fresh row: v is a slice over it. -/
structure Fresh (N : Nat → Prop) (w : World) (B : Nat) (v : Value) (e : TypeId) (k : Nat) (els : List (List PV)) : Prop where
  lim : els.length ≤ 140737488355328
  hk : ∀ c ∈ els, c.length = k
  row : ∃ xs, w.ownsRow B e k v els.length xs ∧ (∀ u ∈ xs, u.oneCell' = true) ∧ ∀ i' j p, cellAt els i' j = some p → ∃ u, xs[i' * k + j]? = some u ∧ RP (fun b => N b ∧ v.ownBlock ≠ some b) w u p
structure FnO (P : Program) (f : FuncId) (args : List AV) (e : TypeId) (k : Nat) (els : List (List PV)) : Prop where
  enters : ∀ vals w, (callFunc f vals).run P w = .ok (.enter f vals) w
  calls : ∀ (N : Nat → Prop) (w : World) (vals : Array Value), (∀ b, w.heap.size ≤ b → N b) → vals.size = args.length →
    (∀ (j : Nat) (v : Value) (av : AV), vals[j]? = some v → args[j]? = some av → RA (pcx N) w v av) →
    Calls P f vals w fun en w' => ∃ v, en = .returned v ∧ Below w.heap.size w w' ∧ Fresh N w' w.heap.size v e k els
theorem AOps.callo {f : FuncId} {xs : List Operand} {tys : Array TypeId} {args : List AV} {e : TypeId} {k : Nat} {els : List (List PV)} (hf : FnO P f args e k els) (hargs : Args false δ xs args) (hd : okD δ.n dst = true)
    (hK : AOps .plain P g ops rest Q ((δ.addOb .row).putd dst (.own δ.nx e k els))) : AOps .plain P g ops (⟨dst, .call { callee := .value (.func f), args := xs.toArray, argTypes := tys }, ty, pos, af, none⟩ :: rest) Q δ := by
  intro κ a w r0
  show wpListIn _ _ P ops _ (_ :: rest) a w
  refine wpl_plain rfl rfl fun K hK' => ?_
  unfold Oper.wpF
  rw [run_call (f := f) rfl hf.enters, Oper.uponIn_enter]
  refine ⟨fun h => by simp at h, (callsIn_any (hf.calls (fun b => (δ.cx g κ).N b ∨ w.heap.size ≤ b) w _ (fun _ h => .inr h) (by simp [hargs.len]) (hargs.ras r0 (fun _ _ h => .inl h) (fun h => by simp at h)))).mono ?_⟩
  rintro en w' ⟨v, rfl, hb, hv⟩
  have hbo : ∀ b, v.ownBlock = some b → w.heap.size ≤ b ∧ b < w'.heap.size ∧ ∃ c e, w'.heap[b]? = some (.cells c e (0, 0)) := by
    intro b hbv
    obtain ⟨xs, ⟨_, hown⟩, _⟩ := hv.row
    rcases hown with ⟨rfl, _⟩ | ⟨b0, cap, cur, rfl, h1, h2, _⟩
    · cases hbv
    · cases hbv
      exact ⟨h1, (Array.getElem?_eq_some_iff.1 h2).1, cur, e, h2⟩
  obtain ⟨r1, G⟩ := r0.adoptB hb v.ownBlock hbo
  refine hK' _ _ (hK _ _ _ (r1.putd (okD_spec hd) (.own ?_)))
  obtain ⟨xs, ⟨hxl, hown⟩, h1, hx⟩ := hv.row
  refine ⟨by show (δ.addOb .row).ob _ = _; rw [ob_addOb, if_pos rfl], hv.lim, hv.hk, fun b hbv => by show upd _ _ _ _ = _; simp [upd, hbv], xs, ⟨hxl, ?_⟩, h1, fun i' j p hp => ?_⟩
  · rcases hown with h | ⟨b0, cap, cur, h2, h3, h4⟩
    · exact .inl h
    · exact .inr ⟨b0, cap, cur, h2, Nat.le_trans r0.hB h3, h4⟩
  · obtain ⟨u, hu, hr⟩ := hx i' j p hp
    refine ⟨u, hu, hr.mono (Nat.le_refl _) fun b _ hN => ⟨?_, rfl⟩⟩
    have hlive : ∀ i, (δ.addOb .row).live i → i = δ.nx ∨ δ.live i := by
      intro i ⟨o', h⟩
      rw [ob_addOb] at h
      by_cases e : δ.nx = i
      · exact .inl e.symm
      · rw [if_neg e] at h; exact .inr ⟨o', h⟩
    have hnl : ∀ i, δ.live i → δ.nx ≠ i := fun i h e => Nat.lt_irrefl _ (r0.nx _ (e ▸ h))
    refine ⟨?_, fun i hi => ?_⟩
    · rcases hN.1 with h | h
      · exact h.1
      · exact r0.N0 b (Nat.le_trans r0.hB h)
    · show upd κ δ.nx v.ownBlock i ≠ some b
      rcases hlive i hi with rfl | hi
      · simp only [upd, if_true]; exact hN.2
      · simp only [upd, hnl i hi, if_false]
        rcases hN.1 with h | h
        · exact h.2 i hi
        · intro e
          have := (r0.lo i b hi e).2
          omega
/-- the function's end, a row handed out. -/
def EndsO (P : Program) (rs : List ResultVar) (e : TypeId) (k : Nat) (els : List (List PV)) : Exit → DS → Prop
  | .normal, δ | .ret, δ => (∃ i, Res P δ rs (.own i e k els)) ∨ (els = [] ∧ Res P δ rs (.pv (.lit (.slice none 0 0))))
  | _, _ => False
theorem FnO.enter {f : FuncId} {fn : Func} {c : Code} {rs : List ResultVar} {n : Nat} {args : List AV} {e : TypeId} {k : Nat} {els : List (List PV)} (hf : P.funcs[f]? = some fn) (hb : fn.body = some c) (hrs : fn.results = rs.toArray) (hn : fn.ntmps = n) (hna : Nat.ble args.length n = true)
    (hna' : Nat.ble n HS = true) (he : (fn.name == "runtime.NumGoroutine") = false) (h : ∀ g : Ghost, g.ro = none → g.wt = none → AW P g c (EndsO P rs e k els) (start n args)) : FnO P f args e k els := by
  refine ⟨fun vals w => by simp [callFunc, hf, hb]; simpa using he, fun N w vals hN hs hargs => ?_⟩
  have hle : args.length ≤ n := by simpa using hna
  have hnH : n ≤ HS := by simpa using hna'
  let g : Ghost := { B := w.heap.size, w0 := w, N0 := N, held := fun _ => undef, ro := none, mks := [], wt := none }
  have hnl : ∀ i, ¬ (start n args).live i := fun i ⟨o, h⟩ => by cases h
  refine callsIn_wide.1 (callsIn_of_wp_marks (n := 0) hf hb trivial (wpIn_mono (h g rfl rfl (fun _ => none) _ w ?_) ?_))
  · exact
    { n := by simp [hn, start]; omega
      dfr := ⟨[], rfl, by simp [g], by simp [g]⟩
      env := fun j => by
        by_cases hj : j < args.length
        · have h1 : (start n args).get j = args[j] := look_enum args 0 j _ (Nat.zero_le _) (by simp [hj])
          have h2 : g.val { tmps := vals ++ Array.replicate (fn.ntmps - vals.size) undef, defers := [] } j = vals[j]'(by omega) := by
            unfold Ghost.val
            rw [if_pos (by omega)]
            simp [Array.getD_eq_getD_getElem?, Array.getElem?_append, hs, hj]
          rw [h1, h2]
          exact (hargs j _ _ (Array.getElem?_eq_getElem (by omega)) (List.getElem?_eq_getElem hj)).of_pcx _ fun b _ h => ⟨h, fun i hi => absurd hi (hnl i)⟩
        · have h1 : (start n args).get j = .any := look_enum_out args 0 j (by omega)
          rw [h1]; exact .any _
      obj := fun i o h => by cases h
      inj := fun i j b h => absurd h (hnl i)
      lo := fun i b h => absurd h (hnl i)
      nx := fun i h => absurd h (hnl i)
      wt := fun k hk => by cases hk
      below := Below.refl _ _
      hB := Nat.le_refl _
      N0 := hN }
  · rintro ex a' w' ⟨δ', κ', hq, r'⟩
    have fin : ∀ i, Res P δ' rs (.own i e k els) → LeavesInM Fence.wide 0 P fn a'.tmps (fun en w' => ∃ v, en = .returned v ∧ Below w.heap.size w w' ∧ Fresh N w' w.heap.size v e k els) a'.defers .returning w' := by
      intro i h1
      exact leaves (g := g) rfl hrs h1 r' (fun w2 r2 u hu => by
        have ho := hu.own_inv
        refine ⟨u, rfl, r2.below, ho.lim, ho.hk, ?_⟩
        obtain ⟨xs, h3, h4, h5⟩ := ho.row
        refine ⟨xs, h3, h4, fun i' j p hp => ?_⟩
        obtain ⟨v, hv, hr⟩ := h5 i' j p hp
        refine ⟨v, hv, hr.mono (Nat.le_refl _) fun b _ hN => ⟨⟨hN.1, fun hb => ?_⟩, rfl⟩⟩
        exact hN.2 i (DS.lr_live ho.live) (ho.blk b hb))
    have finN : els = [] → Res P δ' rs (.pv (.lit (.slice none 0 0))) → LeavesInM Fence.wide 0 P fn a'.tmps (fun en w' => ∃ v, en = .returned v ∧ Below w.heap.size w w' ∧ Fresh N w' w.heap.size v e k els) a'.defers .returning w' := by
      intro h0 h1
      exact leaves (g := g) rfl hrs h1 r' (fun w2 r2 u hu => by
        have hu := hu.lit
        subst hu
        subst h0
        exact ⟨_, rfl, r2.below, by simp, fun c hc => by simp at hc, [], World.ownsRow_nil _ _ _ _, fun u hu => by simp at hu, fun i' j p hp => by simp [cellAt] at hp⟩)
    cases ex with
    | normal =>
      rcases hq with ⟨i, h1⟩ | ⟨h0, h1⟩
      · exact fin i h1
      · exact finN h0 h1
    | ret =>
      rcases hq with ⟨i, h1⟩ | ⟨h0, h1⟩
      · exact fin i h1
      · exact finN h0 h1
    | _ => exact hq.elim
theorem endsO_ret {rs : List ResultVar} {i : Nat} {e : TypeId} {k : Nat} {els els' : List (List PV)} (h : Res P δ rs (.own i e k els')) (he : els' = els) : EndsO P rs e k els .ret δ := .inl ⟨i, he ▸ h⟩
theorem endsO_nil {rs : List ResultVar} {e : TypeId} {k : Nat} {els : List (List PV)} (h : Res P δ rs (.pv (.lit (.slice none 0 0)))) (he : els = []) : EndsO P rs e k els .ret δ := .inr ⟨he, h⟩
end Go.Ab
/- Strings: joined, compared, measured, indexed, cut; numbers of any kind compared. -/
namespace Go.Ab
open Go Go.RowKit
variable {q : Md} {P : Program} {g : Ghost} {δ : DS} {κ : Nat → Option Nat} {a : Act} {w : World}
variable {ops : Array Oper} {rest : List Oper} {Q : Exit → DS → Prop} {dst : Option Nat} {ty : TypeId} {pos : String} {af : Array Edge}
abbrev litS (s : ByteArray) : AV := .pv (.lit (.string s))
section strs
variable {x y : Operand} {t t' : TypeId} {s u : ByteArray} (hx : δ.ev x = litS s) (hy : δ.ev y = litS u) (ho : okT x = true) (ho' : okT y = true) (hd : okD δ.n dst = true)
include hx hy ho ho' hd
end strs
/-- a whole box stored under a watch: a box made since the watch began. -/
theorem AOps.store_bnW {x y : Operand} {t : TypeId} {i : Nat} {cells cs : List AV} (hx : δ.ev x = .ptr i 0) (hy : δ.ev y = .agg cs) (hb : δ.ob i = some (.box cells)) (hlen : cells.length = cs.length) (ht : (P.info? t).map (·.size) = some cs.length) (h1 : AV.ones cs = true) (ho : okT x = true) (ho' : okT y = true) (hd : okD δ.n dst = true) (hwk : g.wtOk i)
    (hK : AOps .plain P g ops rest Q ((δ.setOb i (some (.box cs))).putd dst .any)) : AOps .plain P g ops (⟨dst, .store t x y, ty, pos, af, none⟩ :: rest) Q δ := AOps.eff rfl rfl (Eff.store_bn hx hy hb hlen ht h1 ho ho' hd hwk) hK
end Go.Ab
