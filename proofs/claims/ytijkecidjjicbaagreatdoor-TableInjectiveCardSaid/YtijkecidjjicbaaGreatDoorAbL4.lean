/- A function that defers a closure over two of its variables, which recovers. -/
import Derived.Test.YtijkecidjjicbaaGreatDoorAbL3
import Derived.RecoverIn
import Derived.Test.YtijkecidjjicbaaGreatDoorAbL2
set_option linter.unusedSimpArgs false
set_option linter.unusedVariables false
namespace Go.Ab
open Go Go.RowKit
variable {P : Program} {g : Ghost} {δ : DS} {κ : Nat → Option Nat} {a : Act} {w : World} {Q : Exit → DS → Prop}
def AWr (P : Program) (g : Ghost) (c : Code) (R : Exit → Act → World → Prop) (δ : DS) : Prop := ∀ κ a w, Rel g δ κ a w → c.wpIn (Fw g.ro) 0 P R a w
theorem AWr.of {c : Code} {R : Exit → Act → World → Prop} (h : AW P g c Q δ) (hR : ∀ e a w, lift g Q e a w → R e a w) : AWr P g c R δ := fun κ a w r => wpIn_mono (h κ a w r) hR
def AW0 (P : Program) (g : Ghost) (c : Code) (R : Exit → Act → World → Prop) (δ : DS) : Prop := ∀ κ a w, a.defers = [] → Rel g δ κ a w → c.wpIn (Fw g.ro) 0 P R a w
def AO0 (P : Program) (g : Ghost) (ops : Array Oper) (l : List Oper) (c : Code) (R : Exit → Act → World → Prop) (δ : DS) : Prop := ∀ κ a w, a.defers = [] → Rel g δ κ a w → wpListIn (Fw g.ro) 0 P ops (Exit.then (c.wpIn (Fw g.ro) 0 P R) R) l a w
theorem AW0.region {id : Nat} {l : List Oper} {c : Code} {R : Exit → Act → World → Prop} (h : AO0 P g l.toArray l c R δ) : AW0 P g (.seq (.region id l.toArray false) c) R δ :=
  fun κ a w ha r => wpIn_seq (wpIn_region_lit (h κ a w ha r))
theorem AO0.nil {ops : Array Oper} {c : Code} {R : Exit → Act → World → Prop} (h : AW0 P g c R δ) : AO0 P g ops [] c R δ := fun κ a w ha r => by
  unfold wpListIn
  exact h κ a w ha r
theorem AO0.eff {ops : Array Oper} {o : Oper} {rest : List Oper} {c : Code} {R : Exit → Act → World → Prop} {δ' : DS} (hg : o.guard = none) (hnd : noDefer o = true) (h : Eff P g o δ δ') (hc : ∀ (a : Act) (w : World) f vals, (execOp a.eval o).run P w ≠ .ok (.enter f vals) w) (hK : AO0 P g ops rest c R δ') : AO0 P g ops (o :: rest) c R δ := by
  intro κ a w ha r
  refine wpl_plain hg hnd fun K hK' => ?_
  unfold Oper.wpF
  rcases h κ a w r with ⟨x, v, w', κ', hrun, hx, r'⟩ | ⟨f, vals, hrun, _⟩
  · rw [hrun]
    rcases hx with rfl | ⟨rfl, rfl⟩
    · simp only [Oper.uponIn]
      exact hK' _ _ (hK κ' _ _ (by cases o.dst <;> exact ha) r')
    · simp only [Oper.uponIn]
      exact hK' _ _ (hK κ' _ _ (by cases o.dst <;> exact ha) r')
  · exact absurd hrun (hc _ _ _ _)
theorem AW0.defer {id d p1 p2 i1 i2 : Nat} {fc : FuncId} {ty1 ty2 : TypeId} {pos1 pos2 : String} {af1 af2 : Array Edge} {tys : Array TypeId} {c : Code} {R : Exit → Act → World → Prop}
    (hro : g.ro = none) (hwt : g.wt = none) (h1 : δ.get p1 = .ptr i1 0) (h2 : δ.get p2 = .ptr i2 0) (hp1 : Nat.blt p1 HS = true) (hp2 : Nat.blt p2 HS = true) (hd : okD δ.n (some d) = true) (hhi : hiE δ.env = []) (hmk : g.mks = [])
    (h : ∀ (g' : Ghost) (v1 v2 : Value), g'.ro = none → g'.wt = none → Gi g' g → g'.N0 = g.N0 → g'.base = [{ target := .fn (.func fc) #[v1, v2], args := #[] }] → g'.held 1000 = .agg #[v1, v2] → AWr P g' c R ⟨δ.n, (d, .any) :: (1000, .agg [.ptr i1 0, .ptr i2 0]) :: δ.env, δ.objs, δ.nx⟩) :
    AW0 P g (.seq (.region id #[⟨some d, .makeFunc (.func fc) #[] #[.tmp p1, .tmp p2], ty1, pos1, af1, none⟩, ⟨none, .defer { callee := .value (.tmp d), args := #[], argTypes := tys }, ty2, pos2, af2, none⟩] false) c) R δ := by
  intro κ a w ha r
  have hv1 := r.env p1
  have hv2 := r.env p2
  rw [h1] at hv1
  rw [h2] at hv2
  have e1 : ∀ q, Nat.blt q HS = true → g.val a q = a.eval (.tmp q) := fun q hq => by
    have hq : q < HS := by simpa using hq
    unfold Ghost.val
    rw [if_pos hq]
    rfl
  rw [e1 p1 hp1] at hv1
  rw [e1 p2 hp2] at hv2
  generalize hev1 : a.eval (.tmp p1) = v1 at hv1
  generalize hev2 : a.eval (.tmp p2) = v2 at hv2
  have hdl := okD_spec hd d rfl
  have hlt : d < a.tmps.size := by rw [r.n]; exact hdl.1
  refine wpIn_seq ?_
  refine wpIn_region_lit (l := [_, _]) ?_
  refine wpl_plain (ro := g.ro) rfl rfl fun K hK => ?_
  have hr1 : (execOp a.eval ⟨some d, .makeFunc (.func fc) #[] #[.tmp p1, .tmp p2], ty1, pos1, af1, none⟩).run P w = .ok (.value (.func (.func fc) #[] #[v1, v2])) w := by
    have e : (#[Operand.tmp p1, Operand.tmp p2] : Array Operand).map a.eval = #[v1, v2] := by
      rw [List.map_toArray, List.map_cons, List.map_cons, List.map_nil, hev1, hev2]
    have e' : (#[] : Array Operand).map a.eval = #[] := by simp
    simp only [execOp, e, e']
    rfl
  unfold Oper.wpF
  rw [hr1]
  simp only [Oper.uponIn]
  refine hK _ _ ?_
  have hev : (a.put (some d) (.func (.func fc) #[] #[v1, v2])).eval (.tmp d) = .func (.func fc) #[] #[v1, v2] := by
    simp [Act.put, Act.eval, hlt]
  refine wpListIn_plain rfl fun K hK => ⟨fun _ _ => trivial, ?_⟩
  have hr2 : ((⟨none, .defer { callee := .value (.tmp d), args := #[], argTypes := tys }, ty2, pos2, af2, none⟩ : Oper).semAt (Fw g.ro).round (a.put (some d) (.func (.func fc) #[] #[v1, v2])).eval).run P w = .ok (.defer { target := .fn (.func fc) #[v1, v2], args := #[] }) w := by
    rw [show (Fw g.ro).round = none from hro]
    simp [Oper.semAt, execOp, resolve, Deferred.ofValue, hev]
  rw [hr2]
  rw [Oper.uponIn_defer]
  refine hK _ _ ?_
  unfold wpListIn
  show c.wpIn (Fw g.ro) 0 P R { a.put (some d) (.func (.func fc) #[] #[v1, v2]) with defers := [{ target := .fn (.func fc) #[v1, v2], args := #[] }] ++ a.defers } w
  rw [ha, List.append_nil]
  let g' : Ghost := { g with base := [{ target := .fn (.func fc) #[v1, v2], args := #[] }], held := fun _ => .agg #[v1, v2] }
  have r' : Rel g' ⟨δ.n, (d, .any) :: (1000, .agg [.ptr i1 0, .ptr i2 0]) :: δ.env, δ.objs, δ.nx⟩ κ { a.put (some d) (.func (.func fc) #[] #[v1, v2]) with defers := [{ target := .fn (.func fc) #[v1, v2], args := #[] }] } w :=
    { n := by show (a.put (some d) (.func (.func fc) #[] #[v1, v2])).tmps.size = _; simpa [Act.put] using r.n
      dfr := ⟨[], rfl, by rw [show g'.mks = [] from hmk]; simp, by rw [show g'.mks = [] from hmk]; simp⟩
      env := fun j => by
        show RA (δ.cx g κ) w (g'.val { a.put (some d) (.func (.func fc) #[] #[v1, v2]) with defers := [{ target := .fn (.func fc) #[v1, v2], args := #[] }] } j) (look ((d, .any) :: (1000, .agg [.ptr i1 0, .ptr i2 0]) :: δ.env) j)
        rw [look_cons]
        by_cases e : d = j
        · rw [if_pos e]; exact .any _
        · rw [if_neg e, look_cons]
          by_cases e' : 1000 = j
          · subst e'
            rw [if_pos rfl]
            have : g'.val { a.put (some d) (.func (.func fc) #[] #[v1, v2]) with defers := [{ target := .fn (.func fc) #[v1, v2], args := #[] }] } 1000 = .agg #[v1, v2] := by unfold Ghost.val; rw [if_neg (by show ¬ 1000 < 1000; omega)]
            rw [this]
            refine .agg rfl fun j u c h5 h6 => ?_
            match j, h5, h6 with
            | 0, h5, h6 => simp at h5 h6; subst h5; subst h6; exact hv1
            | 1, h5, h6 => simp at h5 h6; subst h5; subst h6; exact hv2
            | j + 2, h5, h6 => simp at h6
          · rw [if_neg e']
            by_cases hj : j < HS
            · have h5 := r.env j
              have e5 : g'.val { a.put (some d) (.func (.func fc) #[] #[v1, v2]) with defers := [{ target := .fn (.func fc) #[v1, v2], args := #[] }] } j = g.val a j := by
                unfold Ghost.val
                rw [if_pos hj, if_pos hj]
                simp [Act.put, Array.getD_eq_getD_getElem?, Array.getElem?_setIfInBounds, e]
              rw [e5]
              exact h5
            · have h6 := look_hiE δ.env j
              rw [hhi, if_neg hj] at h6
              rw [← h6]
              exact .any _
      obj := r.obj, inj := r.inj, lo := r.lo, nx := r.nx, wt := r.wt, below := r.below, hB := r.hB, N0 := r.N0, fr := r.fr
      mkf := fun d' hd' => by
        have hd' : d' ∈ [({ target := .fn (.func fc) #[v1, v2], args := #[] } : Deferred)] := hd'
        simp only [List.mem_singleton] at hd'
        subst hd'
        intro k hk
        cases hk }
  exact h g' v1 v2 hro hwt ⟨rfl, rfl⟩ rfl rfl rfl κ _ w r'
theorem leavesBase (hwt : g.wt = none) {fn : Func} {u : FrameMode} (hu : u ≠ .run) {R : Ending → World → Prop} : ∀ {a : Act} {w : World}, Rel g δ κ a w →
    (∀ w2, Rel g δ κ { a with defers := g.base } w2 → LeavesInM Fence.wide 0 P fn a.tmps R g.base u w2) → LeavesInM Fence.wide 0 P fn a.tmps R a.defers u w := by
  intro a w r hR
  obtain ⟨ms, h1, h2, h3⟩ := r.dfr
  rw [h1]
  induction ms generalizing a w with
  | nil =>
    have ra : Rel g δ κ { a with defers := g.base } w := { r with dfr := ⟨[], rfl, h2, h3⟩, mkf := fun d hd => r.mkf d (by rw [h1]; exact hd) }
    exact hR w ra
  | cons m ms ih =>
    refine ⟨hu, .inl ⟨m, _, rfl, run_takeDeferred (h3 m (by simp)).2, ?_⟩⟩
    have hm := h3 m (by simp)
    rw [List.cons_append] at h2
    have hnd := List.nodup_cons.1 h2
    have hkeep : ∀ k ∈ ms ++ g.mks, g.B ≤ k ∧ (w.putObj m (.deferred none)).heap[k]? = some (.deferred (some [])) := fun k hk =>
      ⟨(h3 k (by simp only [List.cons_append, List.mem_cons]; exact .inr hk)).1, by rw [World.putObj_heap_other (by intro e; subst e; exact hnd.1 hk)]; exact (h3 k (by simp only [List.cons_append, List.mem_cons]; exact .inr hk)).2⟩
    have hd : Dfr g { a with defers := (ms.map fun r => ({ target := .collected r, args := #[] } : Deferred)) ++ g.base } (w.putObj m (.deferred none)) := ⟨ms, rfl, hnd.2, hkeep⟩
    have r2 := r.shut hwt hm.1 hm.2 (a' := { a with defers := (ms.map fun r => ({ target := .collected r, args := #[] } : Deferred)) ++ g.base }) rfl (fun d hd => by rw [h1, List.map_cons, List.cons_append]; exact List.mem_cons_of_mem _ hd) (r.mkf { target := .collected m, args := #[] } (by rw [h1]; simp) m rfl) hd
    exact ih (a := { a with defers := (ms.map fun r => ({ target := .collected r, args := #[] } : Deferred)) ++ g.base }) r2 (fun w2 r3 => hR w2 r3) rfl hnd.2 hkeep
def EndsR (P : Program) (rs : List ResultVar) (r : AV) (t : TypeId) (i1 i2 n1 n2 q1 q2 : Nat) : Exit → DS → Prop
  | .normal, δ | .ret, δ => ∃ v, Res P δ rs v ∧ Le true v r
  | .panic ch, δ => Pan t ch ∧ δ.get 1000 = .agg [.ptr i1 0, .ptr i2 0] ∧ δ.get q1 = .ptr i1 0 ∧ δ.get q2 = .ptr i2 0 ∧ (∃ c1, δ.ob i1 = some (.box c1) ∧ c1.length = n1) ∧ (∃ c2, δ.ob i2 = some (.box c2) ∧ c2.length = n2)
  | _, _ => False
theorem endsR_ret {rs : List ResultVar} {r v : AV} {t : TypeId} {i1 i2 n1 n2 q1 q2 : Nat} (h : Res P δ rs v) (hl : Le true v r) : EndsR P rs r t i1 i2 n1 n2 q1 q2 .ret δ := ⟨v, h, hl⟩
theorem endsR_pan {rs : List ResultVar} {r : AV} {t : TypeId} {i1 i2 n1 n2 q1 q2 : Nat} {ch : List PanicEntry} (h : Pan t ch) (h1 : δ.get 1000 = .agg [.ptr i1 0, .ptr i2 0]) (h2 : δ.get q1 = .ptr i1 0) (h3 : δ.get q2 = .ptr i2 0) (h4 : ∃ c1, δ.ob i1 = some (.box c1) ∧ c1.length = n1) (h5 : ∃ c2, δ.ob i2 = some (.box c2) ∧ c2.length = n2) : EndsR P rs r t i1 i2 n1 n2 q1 q2 (.panic ch) δ := ⟨h, h1, h2, h3, h4, h5⟩
theorem run_store_whole {dst : Option Nat} {ty t : TypeId} {pos : String} {af : Array Edge} {x y : Operand} {ρ : Operand → Value} {b : Nat} {c : Array Value} {e : TypeId} (hx : ρ x = .pointer (some ⟨b, 0, none⟩)) (h3 : w.heap[b]? = some (.cells c e (0, 0))) (hs : (ρ y).cells.size = c.size) (ht : (P.info? t).map (·.size) = some c.size) (hall : ∀ u ∈ (ρ y).cells.toList, u.oneCell' = true) :
    (execOp ρ ⟨dst, .store t x y, ty, pos, af, none⟩).run P w = .ok .skip (w.setRow b (ρ y).cells) := by
  have hst := run_storeCells_at P b 0 e (ρ y).cells.toList 0 c w h3 (by simp; omega) hall
  have hrow : (c.toList.take (0 + 0) ++ (ρ y).cells.toList ++ c.toList.drop (0 + 0 + (ρ y).cells.toList.length)).toArray = (ρ y).cells := by
    have : c.toList.drop (0 + 0 + (ρ y).cells.toList.length) = [] := List.drop_eq_nil_of_le (by simp; omega)
    rw [this]; simp
  rw [hrow] at hst
  obtain ⟨i0, hi0, hs0⟩ : ∃ i0, P.info? t = some i0 ∧ i0.size = c.size := by
    cases h : P.info? t with
    | none => rw [h] at ht; simp at ht
    | some i0 => rw [h] at ht; exact ⟨i0, rfl, by simpa using ht⟩
  simp [execOp, Instr.storeAt, Instr.sureAddr, storeVar, hx, hs, sizeOf, typeInfo, hi0, hs0, hst]
theorem endsR_post {T : World → Prop} {fn : Func} {rs : List ResultVar} {r : AV} {t : TypeId} {i1 i2 n1 n2 q1 q2 : Nat} {fc : FuncId} {Z1 Z2 : Array Value} {v1 v2 : Value} {N : Nat → Prop} {w0 : World} (hrs : fn.results = rs.toArray) (hwt : g.wt = none) (hB : g.B = w0.heap.size) (hw0 : g.w0 = w0) (hN0 : g.N0 = N) (hN : ∀ b, w0.heap.size ≤ b → N b)
    (hbase : g.base = [{ target := .fn (.func fc) #[v1, v2], args := #[] }]) (hheld : g.held 1000 = .agg #[v1, v2]) (hen : ∀ vals w, (callFunc fc vals).run P w = .ok (.enter fc vals) w) (hne : i1 ≠ i2) (hq1 : Nat.blt q1 HS = true) (hq2 : Nat.blt q2 HS = true)
    (hidle : ∀ w, CallsDIn Fence.wide 0 P fc #[v1, v2] .returning w fun e u' w' => e = .returned (.tuple #[]) ∧ u' = .returning ∧ w' = w)
    (hpan : ∀ (b1 b2 : Nat) (c1 c2 : Array Value) (e1 e2 : TypeId) (w : World) (u : Value), v1 = .pointer (some ⟨b1, 0, none⟩) → v2 = .pointer (some ⟨b2, 0, none⟩) → u.oneCell' = true → b1 ≠ b2 → w.heap[b1]? = some (.cells c1 e1 (0, 0)) → c1.size = n1 → w.heap[b2]? = some (.cells c2 e2 (0, 0)) → c2.size = n2 →
      CallsDIn Fence.wide 0 P fc #[v1, v2] (.panicking [{ v := .iface t (.agg #[u]), recovered := false }]) w fun e u' w' => e = .returned (.tuple #[]) ∧ u' = .panicking [{ v := .iface t (.agg #[u]), recovered := true }] ∧ ∃ o, w' = ((w.alloc o).setRow b1 Z1).setRow b2 Z2)
    (hz1 : Z1.toList.all (·.oneCell') = true) (hz2 : Z2.toList.all (·.oneCell') = true)
    (hres : ∀ δ' : DS, δ'.get q1 = .ptr i1 0 → δ'.get q2 = .ptr i2 0 → δ'.ob i1 = some (.box (Z1.toList.map fun u => .pv (.lit u))) → δ'.ob i2 = some (.box (Z2.toList.map fun u => .pv (.lit u))) → ∃ v, Res P δ' rs v ∧ Le true v r) :
    ∀ e a w, lift g (EndsR P rs r t i1 i2 n1 n2 q1 q2) e a w → bodyPostM Fence.wide 0 P fn (fun e w' => ∃ v, e = .returned v ∧ RA (pcx N) w' v r ∧ Below w0.heap.size w0 w') e a w := by
  have htake : ∀ {a : Act} {w3 : World} {δ3 : DS} {κ3 : Nat → Option Nat} {v : AV}, Rel g δ3 κ3 { a with defers := g.base } w3 → Res P δ3 rs v → Le true v r → LeavesInM Fence.wide 0 P fn a.tmps (fun e w' => ∃ v, e = .returned v ∧ RA (pcx N) w' v r ∧ Below w0.heap.size w0 w') [] .returning w3 := by
    intro a w3 δ3 κ3 v r3 h1 h2
    obtain ⟨u, h4, h5⟩ := h1.run hrs r3
    refine ⟨u, h4, u, rfl, h5.le h2 (fun b _ h => hN0 ▸ h.1) (fun _ i b hi hκ => hN b (hB ▸ (r3.lo i b (DS.lr_live hi) hκ).1)), ?_⟩
    have := r3.below
    rw [hB, hw0] at this
    exact this
  rintro e a w ⟨δ, κ, hq, r'⟩
  have hret : (∃ v, Res P δ rs v ∧ Le true v r) → LeavesInM Fence.wide 0 P fn a.tmps (fun e w' => ∃ v, e = .returned v ∧ RA (pcx N) w' v r ∧ Below w0.heap.size w0 w') a.defers .returning w := by
    rintro ⟨v, h1, h2⟩
    refine leavesBase hwt (by simp) r' fun w2 r2 => ?_
    have hb2 := hbase
    rw [hbase]
    refine ⟨by simp, .inr ⟨by simp [Fence.wide], _, _, fc, #[v1, v2], rfl, by simp [invoke, hen], fun _ _ => trivial, ?_⟩⟩
    refine (hidle w2).mono ?_
    rintro e u' w' ⟨rfl, rfl, rfl⟩
    exact htake r2 h1 h2
  cases e with
  | normal => exact hret hq
  | ret => exact hret hq
  | panic ch =>
    obtain ⟨⟨u, rfl, hu⟩, h1000, hg1, hg2, ⟨c1, ho1, hc1⟩, ⟨c2, ho2, hc2⟩⟩ := hq
    refine leavesBase hwt (by simp) r' fun w2 r2 => ?_
    rw [hbase]
    have h5 := r2.env 1000
    rw [h1000] at h5
    have h6 : g.val { a with defers := g.base } 1000 = .agg #[v1, v2] := by unfold Ghost.val; rw [if_neg (by show ¬ 1000 < 1000; omega)]; exact hheld
    rw [h6] at h5
    cases h5 with
    | agg hs h =>
      have hp1 := h 0 v1 _ rfl rfl
      have hp2 := h 1 v2 _ rfl rfl
      obtain ⟨b1, d1, e1, hv1, hκ1, hh1, hd1, _⟩ := r2.box hp1 ho1
      obtain ⟨b2, d2, e2, hv2, hκ2, hh2, hd2, _⟩ := r2.box hp2 ho2
      have hbne : b1 ≠ b2 := fun e => hne (r2.inj i1 i2 b1 ⟨_, ho1⟩ ⟨_, ho2⟩ hκ1 (e ▸ hκ2))
      refine ⟨by simp, .inr ⟨by simp [Fence.wide], _, _, fc, #[v1, v2], rfl, by simp [invoke, hen], fun _ _ => trivial, ?_⟩⟩
      refine (hpan b1 b2 d1 d2 e1 e2 w2 u hv1 hv2 hu hbne hh1 (hd1.trans hc1) hh2 (hd2.trans hc2)).mono ?_
      rintro e u' w' ⟨rfl, rfl, o, rfl⟩
      have r3 : Rel g δ κ { a with defers := g.base } (w2.alloc o) := r2.ext ((Below.refl _ _).alloc (Nat.le_refl _) _)
      have hh1' : (w2.alloc o).heap[b1]? = some (.cells d1 e1 (0, 0)) := (Lib.alloc_old w2 o b1 (heap_lt hh1)).trans hh1
      have hh2' : (w2.alloc o).heap[b2]? = some (.cells d2 e2 (0, 0)) := (Lib.alloc_old w2 o b2 (heap_lt hh2)).trans hh2
      have hlit : ∀ {Z : Array Value} {C : Cx} {w : World}, Z.toList.all (·.oneCell') = true → ∀ (j : Nat) (u : Value) (av : AV), Z[j]? = some u → (Z.toList.map fun u => AV.pv (.lit u))[j]? = some av → RA C w u av ∧ u.oneCell' = true := by
        intro Z C w hz j u av h1 h2
        simp only [List.getElem?_map, Option.map_eq_some_iff] at h2
        obtain ⟨x, h3, rfl⟩ := h2
        rw [Array.getElem?_toList, h1] at h3
        cases h3
        exact ⟨.pv (.lit _), (List.all_eq_true.1 hz) _ (List.mem_of_getElem? (by rw [Array.getElem?_toList]; exact h1))⟩
      obtain ⟨r4, _⟩ := r3.modify (o' := .box (Z1.toList.map fun u => .pv (.lit u))) ho1 rfl rfl hκ1 (wtOk_none hwt i1) (Turns.setRow _ b1 Z1) (by simp) (fun C hCκ G => ⟨b1, _, e1, by rw [hCκ]; exact hκ1, setRow_heap _ b1 d1 _ e1 _ hh1', by simp, hlit hz1⟩)
      have hh2'' : ((w2.alloc o).setRow b1 Z1).heap[b2]? = some (.cells d2 e2 (0, 0)) := (setRow_other _ b1 b2 _ (Ne.symm hbne)).trans hh2'
      have ho2' : (δ.setOb i1 (some (.box (Z1.toList.map fun u => .pv (.lit u))))).ob i2 = some (.box c2) := by rw [ob_setOb, if_neg hne]; exact ho2
      obtain ⟨r5, _⟩ := r4.modify (o' := .box (Z2.toList.map fun u => .pv (.lit u))) ho2' rfl rfl hκ2 (wtOk_none hwt i2) (Turns.setRow _ b2 Z2) (by simp) (fun C hCκ G => ⟨b2, _, e2, by rw [hCκ]; exact hκ2, setRow_heap _ b2 d2 _ e2 _ hh2'', by simp, hlit hz2⟩)
      obtain ⟨v, hv, hle⟩ := hres ((δ.setOb i1 (some (.box (Z1.toList.map fun u => .pv (.lit u))))).setOb i2 (some (.box (Z2.toList.map fun u => .pv (.lit u))))) (by exact hg1) (by exact hg2) (by rw [ob_setOb, if_neg (Ne.symm hne), ob_setOb, if_pos rfl]) (by rw [ob_setOb, if_pos rfl])
      exact htake r5 hv hle
  | _ => exact hq.elim
theorem FnW.enterR {T : World → Prop} (hst : Stay T) {f : FuncId} {fn : Func} {c : Code} {n : Nat} {args : List AV} {r : AV} (hf : P.funcs[f]? = some fn) (hb : fn.body = some c) (hn : fn.ntmps = n) (hna : Nat.ble args.length n = true)
    (hna' : Nat.ble n HS = true) (he : (fn.name == "runtime.NumGoroutine") = false)
    (h : ∀ (g : Ghost) (N : Nat → Prop) (w0 : World), g.ro = none → g.wt = none → g.mks = [] → g.B = w0.heap.size → g.w0 = w0 → g.N0 = N → (∀ b, w0.heap.size ≤ b → N b) → TB T g → AW0 P g c (bodyPostM Fence.wide 0 P fn (fun e w' => ∃ v, e = .returned v ∧ RA (pcx N) w' v r ∧ Below w0.heap.size w0 w')) (start n args)) : FnW T P f args r := by
  refine ⟨fun vals w => by simp [callFunc, hf, hb]; simpa using he, fun N w vals hTw hN hs hargs => ?_⟩
  have hle : args.length ≤ n := by simpa using hna
  have hnH : n ≤ HS := by simpa using hna'
  let g : Ghost := { B := w.heap.size, w0 := w, N0 := N, held := fun _ => undef, ro := none, mks := [], wt := none, fr := fun _ => False, w1 := w }
  have hnl : ∀ i, ¬ (start n args).live i := fun i ⟨o, h⟩ => by cases h
  refine callsIn_wide.1 (callsIn_of_wp_marks (n := 0) hf hb trivial (h g N w rfl rfl rfl rfl rfl rfl hN (fun w' hb => hst w w' hTw hb) (fun _ => none) _ w rfl ?_))
  exact
    { n := by simp [hn, start]; omega
      dfr := ⟨[], rfl, by simp [g], by simp [g]⟩
      env := fun j => by
        by_cases hj : j < args.length
        · have h1 : (start n args).get j = args[j] := look_enum args 0 j _ (Nat.zero_le _) (by simp [hj])
          have h2 : g.val { tmps := vals ++ Array.replicate (fn.ntmps - vals.size) undef, defers := [] } j = vals[j]'(by omega) := by
            unfold Ghost.val
            rw [if_pos (by omega)]
            simp [Array.getD_eq_getD_getElem?, Array.getElem?_append, hs, hj]
          rw [h1, h2]
          exact (hargs j _ _ (Array.getElem?_eq_getElem (by omega)) (List.getElem?_eq_getElem hj)).of_pcx _ fun b _ h => ⟨h, fun i hi => absurd hi (hnl i)⟩
        · have h1 : (start n args).get j = .any := look_enum_out args 0 j (by omega)
          rw [h1]; exact .any _
      obj := fun i o h => by cases h
      inj := fun i j b h => absurd h (hnl i)
      lo := fun i b h => absurd h (hnl i)
      nx := fun i h => absurd h (hnl i)
      wt := fun k hk => by cases hk
      below := Below.refl _ _
      hB := Nat.le_refl _
      N0 := fun b h _ => hN b h
      fr := fun b hb => hb.elim
      mkf := fun d hd => by cases hd }
end Go.Ab
/- Eight values laid out. -/
namespace Go.Ab
open Go Go.RowKit
variable {q : Md} {P : Program} {g : Ghost} {δ : DS} {κ : Nat → Option Nat} {a : Act} {w : World}
variable {ops : Array Oper} {rest : List Oper} {Q : Exit → DS → Prop} {dst : Option Nat} {ty : TypeId} {pos : String} {af : Array Edge}
end Go.Ab
/- Maps from whole numbers to slices: elder entries told whole, the last one over a row of the walk's own. -/
namespace Go.Ab
open Go Go.RowKit
variable {q : Md} {P : Program} {g : Ghost} {δ : DS} {κ : Nat → Option Nat} {a : Act} {w : World}
variable {gd : Option (Tmp × Bool)} {ops : Array Oper} {rest : List Oper} {Q : Exit → DS → Prop} {dst : Option Nat} {ty : TypeId} {pos : String} {af : Array Edge}
abbrev mplI (l : List (Int × AV)) (k : Int) (v : AV) : Ob := .mpl (mpI l) (.int .i64 k) v
def rowsM (D : List (Int × List Int)) : List (Int × AV) := D.map fun p => (p.1, .pv (ints p.2))
theorem rows_ids (D : List (Int × List Int)) (A B : Nat → Bool) : ∀ p ∈ mpI (rowsM D), p.2.ids A B = true := by
  intro p hp
  simp only [mpI, rowsM, List.map_map, List.mem_map] at hp
  obtain ⟨x, _, rfl⟩ := hp
  rfl
theorem WO.rows {δ δ' : DS} {i : Nat} {D : List (Int × List Int)} (h : δ.ob i = some (.mp (mpI (rowsM D)))) : WO δ δ' i (.mp (mpI (rowsM D))) := .mp h (rows_ids D _ _)
theorem WO.rowsL {δ δ' : DS} {i : Nat} {D D' : List (Int × List Int)} {k k' : Int} {v v' : AV} (h : δ.ob i = some (mplI (rowsM D) k v)) (hD : D = D') (hk : k = k') (hv : WV δ δ' v v') : WO δ δ' i (mplI (rowsM D') k' v') := .mpl h (by rw [hD]) (by rw [hk]) (rows_ids D _ _) hv
section
variable {k : Wt} {late : List Nat} {l : List Oper} {dn : List Nat} {QD : Exit → DS → Prop}
end
end Go.Ab
/- The last bit of a number turned; objects renumbered ahead of a region. -/
namespace Go.Ab
open Go Go.RowKit
variable {P : Program} {g : Ghost} {δ : DS} {q : Md}
variable {ops : Array Oper} {rest : List Oper} {Q : Exit → DS → Prop} {dst : Option Nat} {ty : TypeId} {pos : String} {af : Array Edge}
end Go.Ab
/- Any number of values of one cell laid out. -/
namespace Go.Ab
open Go Go.RowKit
variable {q : Md} {P : Program} {g : Ghost} {δ : DS} {κ : Nat → Option Nat} {a : Act} {w : World}
variable {ops : Array Oper} {rest : List Oper} {Q : Exit → DS → Prop} {dst : Option Nat} {ty : TypeId} {pos : String} {af : Array Edge}
inductive PvS (δ : DS) : Nat → List (Nat × Operand) → List PV → Prop
  | nil {i : Nat} : PvS δ i [] []
  | cons {i : Nat} {x : Operand} {p : PV} {ps : List PV} {r : List (Nat × Operand)} (h : δ.ev x = .pv p) (h1 : AV.one (.pv p) = true) (ho : okT x = true) (hr : PvS δ (i + 1) r ps) : PvS δ i ((i, x) :: r) (p :: ps)
theorem PvS.fill {δ : DS} {i : Nat} {parts : List (Nat × Operand)} {ps : List PV} (h : PvS δ i parts ps) : ∀ cells : List AV, cells.length = i + ps.length → fillA (fun i => some (i * 1, 1)) cells (parts.map fun p => (p.1, δ.ev p.2)) = some (cells.take i ++ ps.map .pv) := by
  induction h with
  | nil =>
    intro cells hc
    simp [fillA]
    rw [List.take_of_length_le]
    simp at hc; omega
  | @cons i x p ps r h h1 ho hr ih =>
    intro cells hc
    simp only [List.length_cons] at hc
    have hle : i < cells.length := by omega
    show (match some (i * 1, 1) with
      | none => none
      | some (off, size) => bif Nat.beq (δ.ev x).cellsOf.length size && Nat.ble (off + (δ.ev x).cellsOf.length) cells.length && AV.ones (δ.ev x).cellsOf then fillA _ (setsA cells off (δ.ev x).cellsOf) _ else none) = _
    rw [h]
    have hb2 : Nat.ble (i * 1 + 1) cells.length = true := by rw [Nat.ble_eq]; omega
    have hb3 : AV.ones [.pv p] = true := by simp [AV.ones]; exact h1
    simp only [AV.cellsOf, List.length_cons, List.length_nil, Nat.zero_add, show Nat.beq 1 1 = true from rfl, hb2, hb3, Bool.and_self, cond_true]
    rw [show setsA cells (i * 1) [.pv p] = cells.set i (.pv p) by rw [Nat.mul_one]; rfl, ih _ (by rw [List.length_set]; omega)]
    have e1 : (cells.set i (.pv p)).take (i + 1) = cells.take i ++ [.pv p] := by
      rw [List.take_succ_eq_append_getElem (by rw [List.length_set]; omega), List.getElem_set_self]
      congr 1
      rw [List.take_set, List.set_eq_of_length_le (by rw [List.length_take]; omega)]
    rw [e1]; simp
theorem PvS.ok {δ : DS} {i : Nat} {parts : List (Nat × Operand)} {ps : List PV} (h : PvS δ i parts ps) : parts.all (fun p => okT p.2) = true := by
  induction h with
  | nil => rfl
  | cons h h1 ho hr ih => simp [ho, ih]
theorem flat1 : ∀ ps : List PV, ps = (ps.map fun p => [p]).flatten
  | [] => rfl
  | p :: ps => by rw [List.map_cons, List.flatten_cons, ← flat1 ps]; rfl
theorem AOps.bsS {t e : TypeId} {len : Nat} {parts : List (Nat × Operand)} {ps : List PV} {z : Value} (ht : P.underlying t = some (.slice e)) (hi : (P.info? e).map (fun i => (i.size, i.zero)) = some (1, some z)) (hzk : Nat.beq z.cells.size 1 = true)
    (hlen : Nat.ble (len * 1) 16777216 = true) (h1 : z.cells.toList.all (·.oneCell') = true) (hR : PvS δ 0 parts ps) (hn : ps.length = len) (hd : okD δ.n dst = true) (hK : AOps .plain P g ops rest Q ((δ.addOb .row).putd dst (.own δ.nx e 1 (ps.map fun p => [p])))) :
    AOps .plain P g ops (⟨dst, .buildSlice t len parts.toArray, ty, pos, af, none⟩ :: rest) Q δ := by
  have hf := hR.fill (zerosA z (len * 1)) (by simp [zerosA, hn])
  rw [List.take_zero, List.nil_append] at hf
  have := Eff.buildSlice (P := P) (g := g) (δ := δ) (gd := none) (dst := dst) (ty := ty) (pos := pos) (af := af) ht hi hzk rfl hlen h1 hR.ok hf (by simp [AV.isPv]) hd
  have e2 : (ps.map AV.pv) = ((ps.map fun p => [p]).flatten.map .pv) := by
    congr 1
    exact flat1 ps
  rw [e2, show len = (ps.map fun p => [p]).length by rw [List.length_map, hn], chunk_flat 1 _ (by simp)] at this
  rw [show len = (ps.map fun p => [p]).length by rw [List.length_map, hn]]
  exact AOps.eff rfl rfl this hK
theorem AOps.neqU {x y : Operand} {t t' : TypeId} {m n : Int} {k : IntKind} (hx : δ.ev x = .pv (.lit (.int k m))) (hy : δ.ev y = .pv (.lit (.int k n))) (ho : okT x = true) (ho' : okT y = true) (hd : okD δ.n dst = true)
    (hK : AOps q P g ops rest Q (δ.putd dst (litB (decide (¬ m = n))))) : AOps q P g ops (⟨dst, .binOp .neq t x y t', ty, pos, af, none⟩ :: rest) Q δ :=
  AOps.bin hx hy ho ho' (run_int _ _ _ _ _ _ _ _ (by simp) (by simp only [Op.intCmp, bne_dec]; rfl)) hd hK
theorem WV.strE {δ' : DS} {s s' : ByteArray} (h : s = s') : WV δ δ' (.pv (.lit (.string s))) (.pv (.lit (.string s'))) := .eq (by rw [h]) rfl
end Go.Ab
