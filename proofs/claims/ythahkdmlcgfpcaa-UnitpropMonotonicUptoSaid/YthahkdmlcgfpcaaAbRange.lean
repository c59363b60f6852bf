/- Ranging over a function: the iterator is walked in place, each call of yield walks the loop's body. -/
import Derived.Test.YthahkdmlcgfpcaaAbAuto
set_option linter.unusedSimpArgs false
set_option linter.unusedVariables false
namespace Go.Ab
open Go Go.RowKit
attribute [local irreducible] HS
variable {P : Program} {g : Ghost} {δ : DS} {κ : Nat → Option Nat} {a : Act} {w : World}
variable {ops : Array Oper} {rest : List Oper} {Q : Exit → DS → Prop} {dst : Option Nat} {ty : TypeId} {pos : String} {af : Array Edge}

def shiftE (e : List (Nat × AV)) : List (Nat × AV) := e.map fun p => (p.1 + HS, p.2)
def unshiftE : List (Nat × AV) → List (Nat × AV)
  | [] => []
  | (i, v) :: r => bif Nat.ble HS i then (i - HS, v) :: unshiftE r else unshiftE r
/-- the owner's own slots, as they lie saved. -/
def ownE : List (Nat × AV) → List (Nat × AV)
  | [] => []
  | (i, v) :: r => bif Nat.ble HS i && Nat.blt i (HS + HS) then (i - HS, v) :: ownE r else ownE r

theorem look_shift_lt : ∀ (e : List (Nat × AV)) (j : Nat), j < HS → look (shiftE e) j = .any
  | [], _, _ => rfl
  | (i, v) :: r, j, h => by
    show look ((i + HS, v) :: shiftE r) j = _
    rw [look_cons, if_neg (by omega)]
    exact look_shift_lt r j h
theorem look_shift : ∀ (e : List (Nat × AV)) (j : Nat), look (shiftE e) (j + HS) = look e j
  | [], _ => rfl
  | (i, v) :: r, j => by
    show look ((i + HS, v) :: shiftE r) (j + HS) = _
    rw [look_cons, look_cons, look_shift r j]
    by_cases e : i = j
    · rw [if_pos (by omega), if_pos e]
    · rw [if_neg (by omega), if_neg e]
theorem look_unshift : ∀ (e : List (Nat × AV)) (j : Nat), look (unshiftE e) j = look e (j + HS)
  | [], _ => rfl
  | (i, v) :: r, j => by
    rw [look_cons]
    simp only [unshiftE]
    cases h : Nat.ble HS i with
    | true =>
      have h' : HS ≤ i := by simpa using h
      show look ((i - HS, v) :: unshiftE r) j = _
      rw [look_cons, look_unshift r j]
      by_cases e : i = j + HS
      · rw [if_pos (by omega), if_pos e]
      · rw [if_neg (by omega), if_neg e]
    | false =>
      have h' : ¬ HS ≤ i := by intro hh; have : Nat.ble HS i = true := by simpa using hh
                               rw [this] at h; cases h
      show look (unshiftE r) j = _
      rw [look_unshift r j, if_neg (by omega)]
theorem look_own : ∀ (e : List (Nat × AV)) (j : Nat), look (ownE e) j = if j < HS then look e (j + HS) else .any
  | [], j => by show AV.any = _; split <;> rfl
  | (i, v) :: r, j => by
    rw [look_cons]
    simp only [ownE]
    cases h : (Nat.ble HS i && Nat.blt i (HS + HS)) with
    | true =>
      simp only [Bool.and_eq_true] at h
      have h1 : HS ≤ i := by simpa using h.1
      have h2 : i < HS + HS := by simpa using h.2
      show look ((i - HS, v) :: ownE r) j = _
      rw [look_cons, look_own r j]
      by_cases e : i = j + HS
      · rw [if_pos (by omega), if_pos (by omega), if_pos e]
      · rw [if_neg (by omega), if_neg e]
    | false =>
      show look (ownE r) j = _
      rw [look_own r j]
      by_cases hj : j < HS
      · rw [if_pos hj, if_pos hj]
        by_cases e : i = j + HS
        · exfalso
          have : (Nat.ble HS i && Nat.blt i (HS + HS)) = true := by simp only [Bool.and_eq_true]; exact ⟨by simpa using (by omega : HS ≤ i), by simpa using (by omega : i < HS + HS)⟩
          rw [this] at h; cases h
        · rw [if_neg e]
      · rw [if_neg hj, if_neg hj]

/-- What a jump left pending does to the loop's owner. -/
def jumpD (l : Nat) (Q : Exit → DS → Prop) (δ : DS) : Option Ob → Prop
  | some (.loop l' _ _ _ _ .ready) => l' = l ∧ Q .normal δ
  | some (.loop l' _ _ _ _ (.done .ret)) => l' = l ∧ Q .ret δ
  | some (.loop l' _ _ _ _ (.done (.exit id))) => l' = l ∧ Q (.exit id) δ
  | _ => False

/-- The owner's state behind the loop. -/
def backD (n i : Nat) (δ : DS) : DS := { n, env := unshiftE δ.env, objs := (match δ.ob i with | some (.loop l tm ps asg body _) => (i, some (.loop l tm ps asg body .over)) | o => (i, o)) :: δ.objs, nx := δ.nx }

/-- The iterator's end. -/
def iterEnds (n i l : Nat) (Q : Exit → DS → Prop) : Exit → DS → Prop
  | .normal, δ | .ret, δ => jumpD l Q (backD n i δ) (δ.ob i)
  | _, _ => False

theorem Turns.putObj (w : World) (b : Nat) (o : Obj) : Turns w (w.putObj b o) (some b) := ⟨rfl, rfl, rfl, by simp, fun k _ h => World.putObj_heap_other (fun e => h (by rw [e]))⟩

theorem val_held (g : Ghost) (a : Act) (j : Nat) : g.val a (j + HS) = g.held (j + HS) := by unfold Ghost.val; rw [if_neg (by omega)]


theorem lb_back {n i l : Nat} {tm ps asg body st} (h : δ.ob i = some (.loop l tm ps asg body st)) : ∀ j, (backD n i δ).ob j = if i = j then some (.loop l tm ps asg body .over) else δ.ob j := by
  intro j
  unfold backD
  rw [h]
  exact lookOb_cons _ _ _ _

/-- The state of the callee goes over to the owner's. -/
theorem Rel.back {g' : Ghost} {a2 a' : Act} {w w' : World} {n i b l : Nat} {tm ps asg body st} {r : Loop} (r2 : Rel g' δ κ a2 w) (hwt : g.wt = none) (hwt' : g'.wt = none) (hg : g'.B = g.B ∧ g'.w0 = g.w0 ∧ g'.N0 = g.N0) (hval : ∀ j, g'.held (j + HS) = g.val a' j) (hn : a'.tmps.size = n)
    (ho : δ.ob i = some (.loop l tm ps asg body st)) (hκ : κ i = some b) (hr : w.heap[b]? = some (.loop r)) (r' : Loop) (hk : r'.tmps = r.tmps ∧ r'.params = r.params ∧ r'.assign = r.assign ∧ r'.body = r.body) (hw : w' = w.putObj b (.loop r'))
    (hd : Dfr g a' w') : Rel g (backD n i δ) κ a' w' := by
  subst hw
  have hlt : b < w.heap.size := heap_lt hr
  obtain ⟨r3, G⟩ := r2.modify (o' := .loop l tm ps asg body .over) ho rfl rfl hκ (wtOk_none hwt' i) (Turns.putObj w b (.loop r')) (by simp) (fun C hC G => by
    obtain ⟨b', r0, h1, h2, hbl, h3, h4, h5, h6, _⟩ := r2.obj i _ ho
    have : b' = b := Option.some.inj (h1.symm.trans hκ)
    subst this
    rw [hr] at h2
    cases h2
    exact ⟨b', r', by rw [hC]; exact hκ, World.putObj_heap_same hlt, hbl, hk.1.trans h3, hk.2.1.trans h4, hk.2.2.1.trans h5, hk.2.2.2.trans h6, trivial⟩)
  have hob : ∀ j, (backD n i δ).ob j = (δ.setOb i (some (.loop l tm ps asg body .over))).ob j := by
    intro j; rw [lb_back ho, ob_setOb]
  have hcx : (backD n i δ).cx g κ = (δ.setOb i (some (.loop l tm ps asg body .over))).cx g' κ := by
    have h1 : (backD n i δ).live = (δ.setOb i (some (.loop l tm ps asg body .over))).live := funext fun j => by unfold DS.live; rw [hob]
    have h2 : (backD n i δ).lr = (δ.setOb i (some (.loop l tm ps asg body .over))).lr := funext fun j => by unfold DS.lr; rw [hob]
    have h3 : (backD n i δ).lb = (δ.setOb i (some (.loop l tm ps asg body .over))).lb := funext fun j => by unfold DS.lb; rw [hob]
    unfold DS.cx
    rw [h1, h2, h3, hg.1, hg.2.2]
  have hlive : ∀ j, (backD n i δ).live j ↔ (δ.setOb i (some (.loop l tm ps asg body .over))).live j := fun j => by unfold DS.live; rw [hob]
  exact
    { n := hn, dfr := hd
      env := fun j => by
        have h1 := r3.env (j + HS)
        rw [val_held, hval j] at h1
        have h2 : (backD n i δ).get j = (δ.setOb i (some (.loop l tm ps asg body .over))).get (j + HS) := look_unshift δ.env j
        rw [h2, hcx]; exact h1
      obj := fun j o h => by rw [hob] at h; rw [hcx]; exact r3.obj j o h
      inj := fun i j b h1 h2 => r3.inj i j b ((hlive i).1 h1) ((hlive j).1 h2)
      lo := fun j b h1 h2 => by rw [← hg.1]; exact r3.lo j b ((hlive j).1 h1) h2
      nx := fun j h => r3.nx j ((hlive j).1 h)
      wt := fun k hk => by rw [hwt] at hk; cases hk
      below := by rw [← hg.1, ← hg.2.1]; exact r3.below
      hB := by rw [← hg.1]; exact r3.hB
      N0 := by rw [← hg.1, ← hg.2.2]; exact r3.N0 }

theorem clo_run {x : Operand} {f : FuncId} {vs us : Array Value} {a : Act} (hx : a.eval x = .func (.func f) vs us) (l : Nat) (w : World) :
    (resolve a.eval (rangeCall x l) 0).run P w = .ok { target := .fn (.func f) us, args := vs ++ #[.func (.yield l) #[] #[]] } w := by
  have hc : a.eval (.const (.func (.yield l) #[] #[])) = .func (.yield l) #[] #[] := rfl
  simp [resolve, rangeCall, Deferred.ofValue, hx, hc]

/-- **A range over a function, the iterator walked in place.** -/
theorem AW.rangeFunc {x : Operand} {ps : Array Tmp} {asg body : Code} {f : FuncId} {first cap : List AV} {fn : Func} {c : Code} {n' : Nat} (hro : g.ro = none) (hwt : g.wt = none) (hx : δ.ev x = .clo (.func f) first cap) (ho : okT x = true)
    (hf : P.funcs[f]? = some fn) (hb : fn.body = some c) (hres : fn.results = #[]) (hn : fn.ntmps = n') (hle : Nat.ble (first.length + 1 + cap.length) n' = true) (hnH : Nat.ble n' HS = true) (hown : Nat.ble δ.n HS = true) (he : (fn.name == "runtime.NumGoroutine") = false)
    (h : ∀ (g' : Ghost) (tm : Array Value) (l : Nat), g'.ro = none → g'.wt = none → (∀ j, j < HS → g'.held (j + HS) = tm.getD j undef) → tm.size = δ.n →
      AW P g' c (iterEnds δ.n δ.nx l Q) { n := n', env := enum 0 (first ++ .yld δ.nx :: cap) ++ shiftE δ.env, objs := (δ.nx, some (.loop l tm ps asg body .ready)) :: δ.objs, nx := δ.nx + 1 }) :
    AW P g (.rangeFunc x ps asg body) Q δ := by
  intro κ a w r
  have hra := r.ra hx ho
  generalize hv : a.eval x = v at hra
  cases hra with
  | @clo _ vs us _ _ hs hvs ht hus =>
    rw [hro]
    have hle' : first.length + 1 + cap.length ≤ n' := by simpa using hle
    have hnH' : n' ≤ HS := by simpa using hnH
    obtain ⟨ms, hm1, hm2, hm3⟩ := r.dfr
    refine wpIn_rangeFunc fun fnid _ => ?_
    let w1 := w.alloc (.deferred (some []))
    let lp : Loop := { state := .ready, pending := none, fn := fnid, tmps := a.tmps, params := ps, assign := asg, body, defers := w.heap.size }
    let w2 := w1.alloc (.loop lp)
    have hw1s : w1.heap.size = w.heap.size + 1 := by show (w.heap.push _).size = _; simp
    refine ⟨w.heap.size + 1, [{ target := .collected w.heap.size, args := #[] }], w2, _, w2, f, vs ++ #[.func (.yield (w.heap.size + 1)) #[] #[]] ++ us, w2, run_enterLoop_outer fnid a.tmps ps asg body, clo_run hv _ _, fun _ _ => trivial, ?_, fun h => by simp at h, ?_⟩
    · have hne : (fn.name == "runtime.NumGoroutine") = false := he
      simp [invoke, callFunc, hf, hb]
      simpa using hne
    let g' : Ghost := { B := g.B, w0 := g.w0, N0 := g.N0, held := fun j => g.val a (j - HS), ro := none, mks := w.heap.size :: (ms ++ g.mks), wt := none }
    have hr1 : Rel g δ κ a w1 := r.ext ((Below.refl _ _).alloc (Nat.le_refl _) _)
    obtain ⟨hr2, G⟩ := hr1.grow (.loop (w.heap.size + 1) a.tmps ps asg body .ready) (.loop lp) (fun C G hκ => ⟨_, lp, hκ, heap_alloc_new w1 _, hw1s, rfl, rfl, rfl, rfl, rfl, rfl⟩)
    let κ2 := upd κ δ.nx (some w1.heap.size)
    have hκ2 : κ2 δ.nx = some (w.heap.size + 1) := by show upd _ _ _ _ = _; simp [upd, hw1s]
    let δ2 : DS := { n := n', env := enum 0 (first ++ .yld δ.nx :: cap) ++ shiftE δ.env, objs := (δ.nx, some (.loop (w.heap.size + 1) a.tmps ps asg body .ready)) :: δ.objs, nx := δ.nx + 1 }
    have hcx : δ2.cx g' κ2 = (δ.addOb (.loop (w.heap.size + 1) a.tmps ps asg body .ready)).cx g κ2 := rfl
    have happ : ∀ (e1 e2 : List (Nat × AV)) (j : Nat), look (e1 ++ e2) j = look e1 j ∨ (look e1 j = .any ∧ look (e1 ++ e2) j = look e2 j) := by
      intro e1 e2 j
      induction e1 with
      | nil => exact .inr ⟨rfl, rfl⟩
      | cons p e1 ih =>
        obtain ⟨i, v⟩ := p
        rw [List.cons_append, look_cons, look_cons]
        by_cases e : i = j
        · rw [if_pos e, if_pos e]; exact .inl rfl
        · rw [if_neg e, if_neg e]; exact ih
    let args : Array Value := vs ++ #[.func (.yield (w.heap.size + 1)) #[] #[]] ++ us
    have hsz : args.size = first.length + 1 + cap.length := by simp [args]; omega
    have hrel : Rel g' δ2 κ2 { tmps := args ++ Array.replicate (fn.ntmps - args.size) undef, defers := [] } w2 :=
      { n := by show (args ++ Array.replicate (fn.ntmps - args.size) undef).size = n'; rw [Array.size_append, Array.size_replicate, hn, hsz]; omega
        dfr := ⟨[], rfl, by
            show (w.heap.size :: (ms ++ g.mks)).Nodup
            refine List.nodup_cons.2 ⟨fun hmem => ?_, hm2⟩
            have := heap_lt (hm3 _ hmem).2
            omega, fun k hk => by
            rw [List.nil_append] at hk
            rcases List.mem_cons.1 hk with rfl | hk
            · refine ⟨r.hB, ?_⟩
              rw [show w2.heap[w.heap.size]? = w1.heap[w.heap.size]? from Below.heap_alloc w1 _ _ (by omega)]
              exact heap_alloc_new w _
            · have h3 := hm3 k hk
              have hlt := heap_lt h3.2
              refine ⟨h3.1, ?_⟩
              rw [show w2.heap[k]? = w1.heap[k]? from Below.heap_alloc w1 _ _ (by omega), show w1.heap[k]? = w.heap[k]? from Below.heap_alloc w _ _ hlt]
              exact h3.2⟩
        env := fun j => by
          rw [hcx]
          by_cases hj : j < HS
          · have hval : g'.val { tmps := args ++ Array.replicate (fn.ntmps - args.size) undef, defers := [] } j = (args ++ Array.replicate (fn.ntmps - args.size) undef).getD j undef := if_pos hj
            rw [hval]
            have hget : δ2.get j = look (enum 0 (first ++ .yld δ.nx :: cap)) j := by
              rcases happ (enum 0 (first ++ .yld δ.nx :: cap)) (shiftE δ.env) j with h1 | ⟨h1, h2⟩
              · exact h1
              · show look (_ ++ _) j = _
                rw [h2, h1, look_shift_lt _ _ hj]
            rw [hget]
            by_cases hja : j < args.size
            · have hl : j < (first ++ .yld δ.nx :: cap).length := by simp; omega
              rw [look_enum _ 0 j ((first ++ .yld δ.nx :: cap)[j]) (Nat.zero_le _) (by rw [Nat.sub_zero]; exact List.getElem?_eq_getElem hl)]
              have hav : (args ++ Array.replicate (fn.ntmps - args.size) undef).getD j undef = args[j] := by
                rw [Array.getD_eq_getD_getElem?, Array.getElem?_append_left hja, Array.getElem?_eq_getElem hja]; rfl
              rw [hav]
              have hA : args[j]? = some args[j] := Array.getElem?_eq_getElem hja
              have hL : (first ++ .yld δ.nx :: cap)[j]? = some (first ++ .yld δ.nx :: cap)[j] := List.getElem?_eq_getElem hl
              generalize args[j] = u at hA ⊢
              generalize (first ++ .yld δ.nx :: cap)[j] = d at hL ⊢
              simp only [args] at hA
              by_cases h1 : j < first.length
              · rw [List.getElem?_append_left h1] at hL
                rw [Array.getElem?_append_left (by simp; omega), Array.getElem?_append_left (by omega)] at hA
                exact G.ra ((Goes.ra ⟨rfl, by rw [hw1s]; omega, fun b hb hN => ⟨hN, Below.heap_alloc w _ _ hb⟩, fun i hi => ⟨hi, rfl, fun b hκ => Below.heap_alloc w _ _ (r.lo i b (DS.lr_live hi) hκ).2⟩, fun i hi => ⟨hi, rfl⟩⟩ (hvs j u d hA hL)))
              · rw [List.getElem?_append_right (by omega)] at hL
                by_cases h2 : j = first.length
                · subst h2
                  simp at hL
                  subst hL
                  rw [Array.getElem?_append_left (by simp; omega), Array.getElem?_append_right (by omega)] at hA
                  simp [hs] at hA
                  subst hA
                  exact .yld ⟨_, by show (δ.addOb _).ob _ = _; rw [ob_addOb, if_pos rfl], rfl⟩ hκ2
                · obtain ⟨m, hm⟩ : ∃ m, j = first.length + 1 + m := ⟨j - first.length - 1, by omega⟩
                  subst hm
                  rw [show first.length + 1 + m - first.length = m + 1 by omega, List.getElem?_cons_succ] at hL
                  rw [Array.getElem?_append_right (by simp; omega)] at hA
                  have e0 : first.length + 1 + m - (vs ++ #[Value.func (.yield (w.heap.size + 1)) #[] #[]]).size = m := by simp; omega
                  rw [e0] at hA
                  exact G.ra ((Goes.ra ⟨rfl, by rw [hw1s]; omega, fun b hb hN => ⟨hN, Below.heap_alloc w _ _ hb⟩, fun i hi => ⟨hi, rfl, fun b hκ => Below.heap_alloc w _ _ (r.lo i b (DS.lr_live hi) hκ).2⟩, fun i hi => ⟨hi, rfl⟩⟩ (hus m u d hA hL)))
            · rw [look_enum_out _ 0 j (.inr (by simp; omega))]; exact .any _
          · obtain ⟨m, rfl⟩ : ∃ m, j = m + HS := ⟨j - HS, by omega⟩
            have hval : g'.val { tmps := args ++ Array.replicate (fn.ntmps - args.size) undef, defers := [] } (m + HS) = g.val a m := by
              rw [val_held]; exact congrArg (g.val a) (Nat.add_sub_cancel m HS)
            rw [hval]
            have hget : δ2.get (m + HS) = δ.get m := by
              have h0 : look (enum 0 (first ++ .yld δ.nx :: cap)) (m + HS) = .any := look_enum_out _ 0 _ (.inr (by simp; omega))
              rcases happ (enum 0 (first ++ .yld δ.nx :: cap)) (shiftE δ.env) (m + HS) with h1 | ⟨h1, h2⟩
              · -- both any, or the saved one
                have : ∀ (e1 : List (Nat × AV)), (∀ p ∈ e1, p.1 ≠ m + HS) → look (e1 ++ shiftE δ.env) (m + HS) = look (shiftE δ.env) (m + HS) := by
                  intro e1 hne
                  induction e1 with
                  | nil => rfl
                  | cons p e1 ih =>
                    rw [List.cons_append]
                    show look ((p.1, p.2) :: (e1 ++ shiftE δ.env)) _ = _
                    rw [look_cons, if_neg (hne p (by simp))]
                    exact ih (fun q hq => hne q (by simp [hq]))
                have hk : ∀ (l : List AV) (i : Nat), ∀ p ∈ enum i l, p.1 < i + l.length := by
                  intro l
                  induction l with
                  | nil => intro i p hp; simp [enum] at hp
                  | cons v l ih =>
                    intro i p hp
                    simp only [enum, List.mem_cons] at hp
                    rcases hp with rfl | hp
                    · simp
                    · have := ih (i + 1) p hp; simp; omega
                show look (_ ++ _) _ = _
                rw [this _ (fun p hp => by have := hk _ 0 p hp; simp at this; omega), look_shift]; rfl
              · show look (_ ++ _) _ = _
                rw [h2, look_shift]; rfl
            rw [hget]
            exact hr2.env m
        obj := hr2.obj, inj := hr2.inj, lo := hr2.lo, nx := hr2.nx, wt := fun k hk => (by cases hk), below := hr2.below, hB := hr2.hB, N0 := hr2.N0 }
    have hbody := h g' a.tmps (w.heap.size + 1) rfl rfl (fun j hj => (congrArg (g.val a) (Nat.add_sub_cancel j HS)).trans (by unfold Ghost.val; rw [if_pos hj])) r.n κ2 _ w2 hrel
    refine callsIn_of_wp_marks (n := 0) hf hb trivial (wpIn_mono hbody ?_)
    rintro e a2 w3 ⟨δ3, κ3, hq, r3⟩
    have fin : jumpD (w.heap.size + 1) Q (backD δ.n δ.nx δ3) (δ3.ob δ.nx) → LeavesInM (Fw none) 0 P fn a2.tmps (rangePost (Fw none) 0 P (w.heap.size + 1) (lift g Q) { a with defers := [{ target := .collected w.heap.size, args := #[] }] ++ a.defers }) a2.defers .returning w3 := by
      intro hj
      obtain ⟨tm3, ps3, asg3, body3, st3, hob⟩ : ∃ tm ps asg body st, δ3.ob δ.nx = some (.loop (w.heap.size + 1) tm ps asg body st) := by
        cases hoo : δ3.ob δ.nx with
        | none => rw [hoo] at hj; exact hj.elim
        | some o =>
          rw [hoo] at hj
          cases o with
          | row => exact hj.elim
          | box cs => exact hj.elim
          | mp l => exact hj.elim
          | it l seen => exact hj.elim
          | loop l' tm ps asg body st =>
            cases st with
            | ready => obtain ⟨rfl, _⟩ := hj; exact ⟨tm, ps, asg, body, _, rfl⟩
            | busy => exact hj.elim
            | over => exact hj.elim
            | done c => cases c <;> first | exact hj.elim | (obtain ⟨rfl, _⟩ := hj; exact ⟨tm, ps, asg, body, _, rfl⟩)
      refine leaves (g := g') rfl (rs := []) hres .none r3 (fun w4 r4 u hu => ?_)
      obtain ⟨b, rl, h1, h2, hbl, h3, h4, h5, h6, h7⟩ := r4.obj _ _ hob
      have h1' : κ3 δ.nx = some b := h1
      subst hbl
      have hnb : rl.state ≠ .busy := by
        rw [hob] at hj
        cases st3 with
        | ready => rw [h7.1]; simp
        | busy => exact hj.elim
        | over => exact hj.elim
        | done c => rw [h7.1]; simp
      have hend := run_endLoop (P := P) (w := w4) h2 hnb
      have hd : Dfr g { a with defers := [{ target := .collected w.heap.size, args := #[] }] ++ a.defers } (w4.putObj (w.heap.size + 1) (.loop { rl with state := .exhausted })) := by
        obtain ⟨rs4, k1, k2, k3⟩ := r4.dfr
        refine ⟨w.heap.size :: ms, by simp [hm1], ?_, fun k hk => ?_⟩
        · have : (rs4 ++ g'.mks).Nodup := k2
          exact (List.nodup_append.1 this).2.1
        · have hk' := k3 k (List.mem_append.2 (.inr hk))
          refine ⟨hk'.1, ?_⟩
          rw [World.putObj_heap_other (by intro e; subst e; rw [h2] at hk'; cases hk'.2)]
          exact hk'.2
      have rb := r4.back (g := g) (n := δ.n) (a' := { a with defers := [{ target := .collected w.heap.size, args := #[] }] ++ a.defers }) hwt rfl ⟨rfl, rfl, rfl⟩ (fun j => congrArg (g.val a) (Nat.add_sub_cancel j HS)) r.n hob h1' h2 { rl with state := .exhausted } ⟨rfl, rfl, rfl, rfl⟩ rfl hd
      refine ⟨rl.pending, _, hend, ?_⟩
      rw [hob] at hj
      cases st3 with
      | ready => rw [h7.2] at rb ⊢; exact ⟨_, κ3, hj.2, rb⟩
      | busy => exact hj.elim
      | over => exact hj.elim
      | done c =>
        rw [h7.2] at rb ⊢
        cases c with
        | ret => exact wpIn_ret ⟨_, κ3, hj.2, rb⟩
        | exit id => exact wpIn_exit ⟨_, κ3, hj.2, rb⟩
        | _ => exact hj.elim
    cases e with
    | normal => exact fin hq
    | ret => exact fin hq
    | _ => exact hq.elim


/-! ### a round -/
def parE : List Tmp → List AV → List (Nat × AV) → List (Nat × AV)
  | t :: ts, v :: vs, e => parE ts vs ((t, v) :: e)
  | _, _, e => e

/-- The state in which a round begins. -/
def roundD (n : Nat) (ps : List Tmp) (avs : List AV) (δ : DS) : DS := { n, env := parE ps avs (ownE δ.env ++ shiftE δ.env), objs := δ.objs, nx := δ.nx }
/-- The iterator's state behind a round. -/
def roundBack (n : Nat) (δ : DS) : DS := { n, env := unshiftE δ.env, objs := δ.objs, nx := δ.nx }

theorem look_append : ∀ (e1 e2 : List (Nat × AV)) (j : Nat), (look (e1 ++ e2) j = look e1 j) ∨ ((∀ p ∈ e1, p.1 ≠ j) ∧ look (e1 ++ e2) j = look e2 j)
  | [], e2, j => .inr ⟨by simp, rfl⟩
  | (i, v) :: e1, e2, j => by
    rw [List.cons_append, look_cons, look_cons]
    by_cases e : i = j
    · rw [if_pos e, if_pos e]; exact .inl rfl
    · rw [if_neg e, if_neg e]
      rcases look_append e1 e2 j with h | ⟨h1, h2⟩
      · exact .inl h
      · refine .inr ⟨fun p hp => ?_, h2⟩
        rcases List.mem_cons.1 hp with rfl | hp
        · exact e
        · exact h1 p hp
theorem look_none : ∀ (e : List (Nat × AV)) (j : Nat), (∀ p ∈ e, p.1 ≠ j) → look e j = .any
  | [], _, _ => rfl
  | (i, v) :: e, j, h => by rw [look_cons, if_neg (h (i, v) (by simp))]; exact look_none e j fun p hp => h p (by simp [hp])
theorem own_keys : ∀ (e : List (Nat × AV)), ∀ p ∈ ownE e, p.1 < HS
  | [], p, h => by simp [ownE] at h
  | (i, v) :: e, p, h => by
    simp only [ownE] at h
    cases hc : (Nat.ble HS i && Nat.blt i (HS + HS)) with
    | true =>
      rw [hc] at h
      simp only [Bool.and_eq_true] at hc
      have h1 : HS ≤ i := by simpa using hc.1
      have h2 : i < HS + HS := by simpa using hc.2
      rcases List.mem_cons.1 h with rfl | h
      · show i - HS < HS; omega
      · exact own_keys e p h
    | false => rw [hc] at h; exact own_keys e p h
theorem look_round (e : List (Nat × AV)) (j : Nat) : look (ownE e ++ shiftE e) j = if j < HS then look e (j + HS) else look e (j - HS) := by
  by_cases hj : j < HS
  · rw [if_pos hj]
    rcases look_append (ownE e) (shiftE e) j with h | ⟨h1, h2⟩
    · rw [h, look_own, if_pos hj]
    · have h3 := look_none _ _ h1
      rw [look_own, if_pos hj] at h3
      rw [h2, look_shift_lt _ _ hj, h3]
  · rw [if_neg hj]
    have h1 : ∀ p ∈ ownE e, p.1 ≠ j := fun p hp e' => hj (e' ▸ own_keys e p hp)
    rcases look_append (ownE e) (shiftE e) j with h | ⟨_, h2⟩
    · rw [look_none _ _ h1] at h
      -- both are any or the other
      have : ∀ (e1 : List (Nat × AV)), (∀ p ∈ e1, p.1 ≠ j) → look (e1 ++ shiftE e) j = look (shiftE e) j := by
        intro e1 hne
        induction e1 with
        | nil => rfl
        | cons p e1 ih =>
          rw [List.cons_append]
          show look ((p.1, p.2) :: (e1 ++ shiftE e)) j = _
          rw [look_cons, if_neg (hne p (by simp))]
          exact ih fun q hq => hne q (by simp [hq])
      rw [this _ h1]
      obtain ⟨m, rfl⟩ : ∃ m, j = m + HS := ⟨j - HS, by omega⟩
      rw [look_shift, Nat.add_sub_cancel]
    · rw [h2]
      obtain ⟨m, rfl⟩ : ∃ m, j = m + HS := ⟨j - HS, by omega⟩
      rw [look_shift, Nat.add_sub_cancel]

theorem par_ok {C : Cx} {w : World} {hv : Nat → Value} : ∀ (ps : List Tmp) (vals : List Value) (avs : List AV) (tm : Array Value) (e : List (Nat × AV)), vals.length = ps.length → avs.length = ps.length →
    (∀ t ∈ ps, t < tm.size ∧ t < HS) → (∀ (j : Nat) (u : Value) (v : AV), vals[j]? = some u → avs[j]? = some v → RA C w u v) →
    (∀ j, RA C w (if j < HS then tm.getD j undef else hv j) (look e j)) →
    ∀ j, RA C w (if j < HS then ((ps.zip vals).foldl (fun tmps (t, a) => tmps.setIfInBounds t a) tm).getD j undef else hv j) (look (parE ps avs e) j)
  | [], [], [], tm, e, _, _, _, _, h => h
  | t :: ps, u :: vals, v :: avs, tm, e, h1, h2, h3, h4, h => by
    simp only [List.zip_cons_cons, List.foldl_cons, parE]
    refine par_ok ps vals avs _ _ (by simpa using h1) (by simpa using h2) (fun t' ht' => by simpa using h3 t' (by simp [ht'])) (fun j x y hx hy => h4 (j + 1) x y (by simpa using hx) (by simpa using hy)) (fun j => ?_)
    rw [look_cons]
    by_cases e' : t = j
    · subst e'
      obtain ⟨h5, h6⟩ := h3 t (by simp)
      rw [if_pos rfl, if_pos h6, Array.getD_eq_getD_getElem?, Array.getElem?_setIfInBounds, if_pos rfl, if_pos h5]
      exact h4 0 u v rfl rfl
    · rw [if_neg e']
      have := h j
      by_cases hj : j < HS
      · rw [if_pos hj] at this ⊢
        rw [Array.getD_eq_getD_getElem?, Array.getElem?_setIfInBounds, if_neg e', ← Array.getD_eq_getD_getElem?]
        exact this
      · rw [if_neg hj] at this ⊢; exact this
  | [], _ :: _, _, _, _, h, _, _, _, _ => by simp at h
  | [], [], _ :: _, _, _, _, h, _, _, _ => by simp at h
  | _ :: _, [], _, _, _, h, _, _, _, _ => by simp at h
  | _ :: _, _ :: _, [], _, _, _, h, _, _, _ => by simp at h
theorem par_size : ∀ (l : List (Tmp × Value)) (tm : Array Value), (l.foldl (fun tmps (t, a) => tmps.setIfInBounds t a) tm).size = tm.size
  | [], _ => rfl
  | (t, a) :: l, tm => by simp only [List.foldl_cons]; rw [par_size l]; simp

/-- the loop's record stands so. -/
def isLp (δ : DS) (i l : Nat) (st : LpSt) : Prop := ∃ tm ps asg body, δ.ob i = some (.loop l tm ps asg body st)
def DS.lpSt (δ : DS) (i : Nat) (st : LpSt) : DS := match δ.ob i with | some (.loop l tm ps asg body _) => δ.setOb i (some (.loop l tm ps asg body st)) | _ => δ
/-- how a round is left. -/
def roundEnds (n i l : Nat) (K : Bool → LpSt → DS → Prop) : Exit → DS → Prop
  | .normal, δ => isLp δ i l .busy ∧ K true .ready (roundBack n δ)
  | .ret, δ => isLp δ i l .busy ∧ K false (.done .ret) (roundBack n δ)
  | .exit id, δ => isLp δ i l .busy ∧ K false (.done (.exit id)) (roundBack n δ)
  | _, _ => False

/-- the record's state turns. -/
theorem Rel.lpSt {i l : Nat} {st st' : LpSt} {rl r' : Loop} (hwt : g.wt = none) (r : Rel g δ κ a w) (h : isLp δ i l st) (hr : w.heap[l]? = some (.loop rl)) (hk : r'.tmps = rl.tmps ∧ r'.params = rl.params ∧ r'.assign = rl.assign ∧ r'.body = rl.body)
    (hst : match st' with | .ready => r'.state = .ready ∧ r'.pending = none | .busy => r'.state = .busy | .done c => r'.state = .done ∧ r'.pending = some c | .over => True) : Rel g (δ.lpSt i st') κ a (w.putObj l (.loop r')) := by
  obtain ⟨tm, ps, asg, body, ho⟩ := h
  obtain ⟨b, r0, h1, h2, hbl, h3, h4, h5, h6, _⟩ := r.obj i _ ho
  have h1' : κ i = some b := h1
  subst hbl
  rw [hr] at h2
  cases h2
  obtain ⟨r3, G⟩ := r.modify (o' := .loop b tm ps asg body st') ho rfl rfl h1' (wtOk_none hwt i) (Turns.putObj w b (.loop r')) (by simp) (fun C hC G =>
    ⟨b, r', by rw [hC]; exact h1', World.putObj_heap_same (heap_lt hr), rfl, hk.1.trans h3, hk.2.1.trans h4, hk.2.2.1.trans h5, hk.2.2.2.trans h6, hst⟩)
  unfold DS.lpSt
  rw [ho]
  exact r3

/-- the iterator's frame behind a round. -/
theorem Rel.frame {g' : Ghost} {a2 a' : Act} {n : Nat} (r2 : Rel g' δ κ a2 w) (hwt : g.wt = none) (hwt' : g'.wt = none) (hg : g'.B = g.B ∧ g'.w0 = g.w0 ∧ g'.N0 = g.N0) (hval : ∀ j, g'.held (j + HS) = g.val a' j) (hn : a'.tmps.size = n) (hd : Dfr g a' w) : Rel g (roundBack n δ) κ a' w := by
  have hcx : (roundBack n δ).cx g κ = δ.cx g' κ := by
    show (δ.cx g κ) = _
    unfold DS.cx
    rw [hg.1, hg.2.2]
  exact
    { n := hn, dfr := hd
      env := fun j => by
        have h1 := r2.env (j + HS)
        rw [val_held, hval j] at h1
        have h2 : (roundBack n δ).get j = δ.get (j + HS) := look_unshift δ.env j
        rw [h2, hcx]; exact h1
      obj := fun j o h => by rw [hcx]; exact r2.obj j o h
      inj := r2.inj
      lo := fun j b h1 h2 => by rw [← hg.1]; exact r2.lo j b h1 h2
      nx := r2.nx
      wt := fun k hk => by rw [hwt] at hk; cases hk
      below := by rw [← hg.1, ← hg.2.1]; exact r2.below
      hB := by rw [← hg.1]; exact r2.hB
      N0 := by rw [← hg.1, ← hg.2.2]; exact r2.N0 }

theorem run_yieldOp {x : Operand} {ys : Array Operand} {tys : Array TypeId} {l : Nat} {r : Loop} {a : Act} (hx : a.eval x = .func (.yield l) #[] #[]) (h : w.heap[l]? = some (.loop r)) (hs : ys.size = r.params.size) :
    (execOp a.eval ⟨dst, .call { callee := .value x, args := ys, argTypes := tys }, ty, pos, af, none⟩).run P w =
      .ok (.round l r.fn ((r.params.zip (ys.map a.eval)).foldl (fun tmps (t, a) => tmps.setIfInBounds t a) r.tmps) r.assign r.body) w := by
  have := run_yield (P := P) (w := w) (args := ys.map a.eval) h (by simpa using hs)
  simp only [execOp, resolve, Deferred.ofValue, hx, invoke, Sem.run_bind, Sem.run_pure, Result.andThen_ok, Array.empty_append]
  exact this

/-- **A call of yield: the loop's body is walked.** -/
theorem AOps.yield {x : Operand} {ys : List Operand} {tys : Array TypeId} {i l n0 : Nat} {tm : Array Value} {ps : List Tmp} {asg body : Code} (hro : g.ro = none) (hwt : g.wt = none) (hheld : ∀ j, j < HS → g.held (j + HS) = tm.getD j undef) (htm : tm.size = n0) (hn0 : Nat.ble n0 HS = true)
    (hx : δ.ev x = .yld i) (hob : δ.ob i = some (.loop l tm ps.toArray asg body .ready)) (ho : okT x = true) (hys : ys.all okT = true) (hlen : Nat.beq ys.length ps.length = true) (hps : ps.all (fun t => Nat.blt t n0) = true) (hd' : okD δ.n dst = true)
    (h : ∀ g' : Ghost, g'.ro = some l → g'.wt = none → AW P g' asg (thenD (fun δ1 => isLp δ1 i l .ready ∧ AW P g' body (roundEnds δ.n i l (fun b st δ2 => AOps .plain P g ops rest Q ((δ2.lpSt i st).putd dst (litB b)))) (δ1.lpSt i .busy)) (fun _ _ => False)) (roundD n0 ps (ys.map δ.ev) δ)) :
    AOps .plain P g ops (⟨dst, .call { callee := .value x, args := ys.toArray, argTypes := tys }, ty, pos, af, none⟩ :: rest) Q δ := by
  intro κ a w r
  have hra := r.ra hx ho
  generalize hv : a.eval x = v at hra
  cases hra with
  | @yld _ b hl hκ =>
    obtain ⟨b', rl, h1, h2, hbl, h3, h4, h5, h6, h7⟩ := r.obj _ _ hob
    have : b' = b := Option.some.inj (h1.symm.trans hκ)
    subst this
    subst hbl
    obtain ⟨ms, hm1, hm2, hm3⟩ := r.dfr
    have hlen' : ys.length = ps.length := Nat.eq_of_beq_eq_true hlen
    show wpListIn _ _ P ops _ (_ :: rest) a w
    refine wpl_plain rfl rfl fun K hK' => ?_
    unfold Oper.wpF
    rw [run_yieldOp hv h2 (by rw [h4]; simpa using hlen'), Oper.uponIn_round, hro]
    refine ⟨fun h => by simp at h, ?_⟩
    let tm' : Array Value := (rl.params.zip (ys.toArray.map a.eval)).foldl (fun tmps (t, a) => tmps.setIfInBounds t a) rl.tmps
    have htm' : tm' = (ps.zip (ys.map a.eval)).foldl (fun tmps (t, a) => tmps.setIfInBounds t a) tm := by
      show (rl.params.zip (ys.toArray.map a.eval)).foldl _ rl.tmps = _
      rw [h3, h4, ← Array.foldl_toList, Array.toList_zip]
      simp
    let g' : Ghost := { B := g.B, w0 := g.w0, N0 := g.N0, held := fun j => g.val a (j - HS), ro := some b', mks := ms ++ g.mks, wt := none }
    have hheld' : ∀ j, g'.held (j + HS) = g.val a j := fun j => congrArg (g.val a) (Nat.add_sub_cancel j HS)
    have hrel : Rel g' (roundD n0 ps (ys.map δ.ev) δ) κ { tmps := tm', defers := [] } w :=
      { n := by show tm'.size = n0; rw [htm', par_size]; exact htm
        dfr := ⟨[], rfl, hm2, hm3⟩
        env := fun j => by
          have hp := par_ok (C := δ.cx g κ) (w := w) (hv := g'.held) ps (ys.map a.eval) (ys.map δ.ev) tm (ownE δ.env ++ shiftE δ.env) (by simpa using hlen') (by simpa using hlen')
            (fun t ht => by
              have h8 := (List.all_eq_true.1 hps) t ht
              have h9 : t < n0 := by simpa using h8
              have h10 : n0 ≤ HS := by simpa using hn0
              exact ⟨htm ▸ h9, Nat.lt_of_lt_of_le h9 h10⟩)
            (fun j u v h8 h9 => by
              simp only [List.getElem?_map, Option.map_eq_some_iff] at h8 h9
              obtain ⟨y, h8, rfl⟩ := h8
              obtain ⟨y', h9, rfl⟩ := h9
              rw [h8] at h9; cases h9
              exact r.evc y (okT_spec ((List.all_eq_true.1 hys) y (List.mem_of_getElem? h8))))
            (fun j => by
              rw [look_round]
              by_cases hj : j < HS
              · rw [if_pos hj, if_pos hj, ← hheld j hj, ← val_held]
                exact r.env (j + HS)
              · rw [if_neg hj, if_neg hj]
                exact r.env (j - HS)) j
          rw [← htm'] at hp
          exact hp
        obj := r.obj, inj := r.inj, lo := r.lo, nx := r.nx, wt := fun k hk => (by cases hk), below := r.below, hB := r.hB, N0 := r.N0 }
    rw [h5, h6]
    refine roundIn_of_wpIn (F := Fw none) trivial (wpIn_mono (h g' rfl rfl κ _ w hrel) ?_)
    rintro e a1 w1 ⟨δ1, κ1, hq, r1⟩
    cases e with
    | normal =>
      obtain ⟨hlp, hq⟩ := hq
      have hlp0 := hlp
      obtain ⟨tm1, ps1, asg1, body1, ho1⟩ := hlp
      obtain ⟨b1, rl1, k1, k2, kbl, k3, k4, k5, k6, k7⟩ := r1.obj _ _ ho1
      subst kbl
      have r1' := r1.lpSt rfl (st' := .busy) (r' := { rl1 with state := .busy }) hlp0 k2 ⟨rfl, rfl, rfl, rfl⟩ rfl
      refine ⟨_, run_beginRound k2 k7.1, wpIn_mono (hq κ1 a1 _ r1') ?_⟩
      rintro e2 a2 w2 ⟨δ2, κ2, hq2, r2⟩
      have fin : ∀ (jump : Option Code) (st : LpSt) (bb : Bool), bb = jump.isNone → isLp δ2 i b1 .busy → AOps .plain P g ops rest Q (((roundBack δ.n δ2).lpSt i st).putd dst (litB bb)) →
          (match st with | .ready => jump = none | .done c => jump = some c | _ => False) →
          ∃ v w', (Instr.endRound b1 jump).run P w2 = .ok v w' ∧ K (a.put dst v) w' := by
        intro jump st bb hbb hl2 hA hst
        have hl20 := hl2
        obtain ⟨tm2, ps2, asg2, body2, ho2⟩ := hl2
        obtain ⟨b2, rl2, m1, m2, mbl, m3, m4, m5, m6, m7⟩ := r2.obj _ _ ho2
        subst mbl
        have r3 := r2.lpSt rfl (st' := st) (r' := { rl2 with state := if jump.isNone then .ready else .done, pending := jump }) hl20 m2 ⟨rfl, rfl, rfl, rfl⟩ (by
          cases st with
          | ready => simp only at hst; subst hst; exact ⟨rfl, rfl⟩
          | done c => simp only at hst; subst hst; exact ⟨rfl, rfl⟩
          | _ => exact hst.elim)
        refine ⟨_, _, run_endRound jump m2, ?_⟩
        have hd : Dfr g a (w2.putObj b2 (.loop { rl2 with state := if jump.isNone then .ready else .done, pending := jump })) := by
          obtain ⟨rs4, k1, k2, k3⟩ := r3.dfr
          exact ⟨ms, hm1, (List.nodup_append.1 k2).2.1, fun k hk => k3 k (List.mem_append.2 (.inr hk))⟩
        have r4 := r3.frame (g := g) (a' := a) (n := δ.n) hwt rfl ⟨rfl, rfl, rfl⟩ hheld' r.n hd
        have he : roundBack δ.n (δ2.lpSt i st) = (roundBack δ.n δ2).lpSt i st := by
          unfold DS.lpSt
          have : (roundBack δ.n δ2).ob i = δ2.ob i := rfl
          rw [this, ho2]; rfl
        rw [he] at r4
        subst hbb
        have hnn : ((roundBack δ.n δ2).lpSt i st).n = δ.n := by
          unfold DS.lpSt
          have : (roundBack δ.n δ2).ob i = δ2.ob i := rfl
          rw [this, ho2]; rfl
        exact hK' _ _ (hA κ2 _ _ (r4.putd (v := .bool jump.isNone) (okD_spec (by rw [hnn]; exact hd')) (.pv (.lit _))))
      cases e2 with
      | normal => exact fin none .ready true rfl hq2.1 hq2.2 rfl
      | ret => exact fin (some .ret) (.done .ret) false rfl hq2.1 hq2.2 rfl
      | exit id => exact fin (some (.exit id)) (.done (.exit id)) false rfl hq2.1 hq2.2 rfl
      | _ => exact hq2.elim
    | _ => exact hq.elim

end Go.Ab
