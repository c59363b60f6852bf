/- Append, make, cut and store as operations. -/
import Derived.Test.YthahkdmlcgfpcaaAbMem4
set_option linter.unusedSimpArgs false
set_option linter.unusedVariables false
namespace Go.Ab
open Go Go.RowKit
variable {q : Md} {P : Program} {g : Ghost} {δ : DS} {κ : Nat → Option Nat} {a : Act} {w : World}
variable {gd : Option (Tmp × Bool)} {ops : Array Oper} {rest : List Oper} {Q : Exit → DS → Prop} {dst : Option Nat} {ty : TypeId} {pos : String} {af : Array Edge}

theorem run_append_op {gd : Option (Tmp × Bool)} {s x : Operand} {t : TypeId} {ρ : Operand → Value} {v : Value} {w' : World} (h : (Builtin.append_ #[t, t] ty #[ρ s, ρ x]).run P w = .ok v w') :
    (execOp ρ ⟨dst, .call { callee := .builtin .append, args := #[s, x], argTypes := #[t, t] }, ty, pos, af, gd⟩).run P w = .ok (.value v) w' := by
  simp only [execOp, resolve, invoke, builtin, Sem.run_bind, Sem.run_pure, Result.andThen_ok, List.map_toArray, List.map_cons, List.map_nil, h]

/-- told what is appended: a list of elements, or a row of the walk's own. -/
inductive Srcs (δ : DS) (x : Operand) (k : Nat) : List (List PV) → Prop
  | pv {els : List (List PV)} (h : δ.ev x = .pv (.slice k els)) : Srcs δ x k els
  | own {j : Nat} {e : TypeId} {els : List (List PV)} (h : δ.ev x = .own j e k els) : Srcs δ x k els
  | nil (h : δ.ev x = .pv (.lit (.slice none 0 0))) : Srcs δ x k []
theorem Srcs.src {x : Operand} {k : Nat} {els : List (List PV)} (h : Srcs δ x k els) (r : Rel g δ κ a w) (ho : okT x = true) : Src (δ.cx g κ) w (a.eval x) k els := by
  cases h with
  | pv h => exact (r.ra h ho).pv_inv.src
  | own h => exact (r.ra h ho).own_inv.src
  | nil h => rw [r.lit h ho]; exact src_nil k

theorem Eff.append {s x : Operand} {t e : TypeId} {i k bytes : Nat} {z : Value} {els news : List (List PV)} (hs : δ.ev s = .own i e k els) (hx : Srcs δ x k news) (hr : δ.ob i = some .row) (ht : P.underlying t = some (.slice e))
    (hi : (P.info? e).map (fun i => (i.size, i.zero, i.bytes)) = some (k, some z, bytes)) (hzk : Nat.beq z.cells.size k = true) (hk0 : Nat.blt 0 k = true) (ho : okT s = true) (ho' : okT x = true) (hd : okD δ.n dst = true)
    (hb : (els.length + news.length) * bytes ≤ 140737488355328) (hl : els.length + news.length ≤ 140737488355328) :
    Eff P g ⟨dst, .call { callee := .builtin .append, args := #[s, x], argTypes := #[t, t] }, ty, pos, af, gd⟩ δ ((δ.mapV (AV.kill i)).putd dst (.own i e k (els ++ news))) := by
  intro κ a w r
  obtain ⟨v', w', κ', h1, h2, h3⟩ := append_core (ty := ty) r hr (r.ra hs ho).own_inv (hx.src r ho') ht hi (Nat.eq_of_beq_eq_true hzk) (by simpa using hk0) hb hl
  exact .inl ⟨_, _, _, _, run_append_op h1, .inl rfl, h2.putd (okD_spec hd) (.own h3)⟩
theorem AOps.append {s x : Operand} {t e : TypeId} {i k bytes : Nat} {z : Value} {els news : List (List PV)} (hs : δ.ev s = .own i e k els) (hx : Srcs δ x k news) (hr : δ.ob i = some .row) (ht : P.underlying t = some (.slice e))
    (hi : (P.info? e).map (fun i => (i.size, i.zero, i.bytes)) = some (k, some z, bytes)) (hzk : Nat.beq z.cells.size k = true) (hk0 : Nat.blt 0 k = true) (ho : okT s = true) (ho' : okT x = true) (hd : okD δ.n dst = true)
    (hb : (els.length + news.length) * bytes ≤ 140737488355328) (hl : els.length + news.length ≤ 140737488355328)
    (hK : AOps .plain P g ops rest Q ((δ.mapV (AV.kill i)).putd dst (.own i e k (els ++ news)))) : AOps .plain P g ops (⟨dst, .call { callee := .builtin .append, args := #[s, x], argTypes := #[t, t] }, ty, pos, af, none⟩ :: rest) Q δ :=
  AOps.eff rfl rfl (Eff.append hs hx hr ht hi hzk hk0 ho ho' hd hb hl) hK

/-- A told value that leans on no row i is not touched by 'kill'. -/
theorem RA.kill_id {C : Cx} {i : Nat} (hl : ¬ C.Lr i) {v : Value} {av : AV} (h : RA C w v av) : av.kill i = av := by
  have hL : ∀ {vs : Array Value} {cs : List AV}, vs.size = cs.length → (∀ (j : Nat) (u : Value) (c : AV), vs[j]? = some u → cs[j]? = some c → c.kill i = c) → cs.map (AV.mp (killF i)) = cs := by
    intro vs cs hs h
    apply List.ext_getElem?
    intro j
    rw [List.getElem?_map]
    cases hj : cs[j]? with
    | none => rfl
    | some c =>
      have hlt : j < vs.size := by rw [hs]; exact (List.getElem?_eq_some_iff.1 hj).1
      exact congrArg some (h j _ c (Array.getElem?_eq_getElem hlt) hj)
  induction h with
  | any v => rfl
  | pv h => rfl
  | @own v j e k els h =>
    have : i ≠ j := by intro e; subst e; exact hl h.live
    show AV.mp (killF i) _ = _
    simp only [AV.mp, killF, beq_ne this]; rfl
  | ptr hl hκ => rfl
  | rptr => rfl
  | @optr j e k els n b cap hn h =>
    have : i ≠ j := by intro e; subst e; exact hl h.live
    show AV.mp (killF i) _ = _
    simp only [AV.mp, killF, beq_ne this]; rfl
  | agg hs h ih => show AV.mp _ _ = _; simp only [AV.mp, AV.mpL_eq]; rw [hL hs ih]
  | tup hs h ih => show AV.mp _ _ = _; simp only [AV.mp, AV.mpL_eq]; rw [hL hs ih]
  | clo hs h ht h' ih ih' => show AV.mp _ _ = _; simp only [AV.mp, AV.mpL_eq]; rw [hL hs ih, hL ht ih']
  | mapr => rfl
  | yld => rfl

theorem Rel.unmap {f : AV → AV} (hfa : f .any = .any) (r : Rel g (δ.mapV f) κ a w) (he : ∀ j, f (δ.get j) = δ.get j) (ho : ∀ i o, δ.ob i = some o → o.mp' f = o) : Rel g δ κ a w ∧ ∀ C : Cx, C = (δ.mapV f).cx g κ → C = δ.cx g κ := by
  have hob : ∀ i, (δ.mapV f).ob i = δ.ob i := by
    intro i
    rw [ob_mapV]
    cases h : δ.ob i with
    | none => rfl
    | some o => simp [ho i o h]
  have hcx : (δ.mapV f).cx g κ = δ.cx g κ := by
    have h1 : (δ.mapV f).live = δ.live := funext fun i => by unfold DS.live; rw [hob]
    have h2 : (δ.mapV f).lr = δ.lr := funext fun i => by unfold DS.lr; rw [hob]
    have h3 : (δ.mapV f).lb = δ.lb := funext fun i => by unfold DS.lb; rw [hob]
    unfold DS.cx
    rw [h1, h2, h3]
  have hlive : ∀ i, (δ.mapV f).live i ↔ δ.live i := fun i => by unfold DS.live; rw [hob]
  refine ⟨?_, fun C h => h.trans hcx⟩
  exact
    { n := r.n, dfr := r.dfr
      env := fun j => by have := r.env j; rw [get_mapV f hfa, he j, hcx] at this; exact this
      obj := fun i o h => by have := r.obj i o (by rw [hob]; exact h); rw [hcx] at this; exact this
      inj := fun i j b h1 h2 => r.inj i j b ((hlive i).2 h1) ((hlive j).2 h2)
      lo := fun i b h1 => r.lo i b ((hlive i).2 h1)
      nx := fun i h => r.nx i ((hlive i).2 h)
      wt := fun k hk => ⟨(r.wt k hk).1, fun i b h1 h2 => (r.wt k hk).2 i b ((hlive i).2 h1) (h2.imp (fun h => (hob i).trans h) id)⟩
      below := r.below, hB := r.hB, N0 := r.N0 }

/-- append to nil. -/
theorem Eff.append_nil {s x : Operand} {t e : TypeId} {k bytes : Nat} {z : Value} {news : List (List PV)} (hs : δ.ev s = .pv (.lit (.slice none 0 0))) (hx : Srcs δ x k news) (ht : P.underlying t = some (.slice e))
    (hi : (P.info? e).map (fun i => (i.size, i.zero, i.bytes)) = some (k, some z, bytes)) (hzk : Nat.beq z.cells.size k = true) (hk0 : Nat.blt 0 k = true) (ho : okT s = true) (ho' : okT x = true) (hd : okD δ.n dst = true)
    (hb : news.length * bytes ≤ 140737488355328) (hl : news.length ≤ 140737488355328) :
    Eff P g ⟨dst, .call { callee := .builtin .append, args := #[s, x], argTypes := #[t, t] }, ty, pos, af, gd⟩ δ ((δ.addOb .row).putd dst (.own δ.nx e k news)) := by
  intro κ a w r
  obtain ⟨r1, G1⟩ := r.adopt
  have hlr : (δ.addOb .row).lr δ.nx := by show (δ.addOb .row).ob _ = _; rw [ob_addOb, if_pos rfl]
  have hv : OwnV ((δ.addOb .row).cx g (upd κ δ.nx none)) w (a.eval s) δ.nx e k [] := by
    rw [r.lit hs ho]
    exact ⟨hlr, by simp, by simp, fun b hb => by simp [Value.ownBlock] at hb, [], World.ownsRow_nil _ _ _ _, by simp, fun i' j p hp => by simp [cellAt] at hp⟩
  have hsrc : Src ((δ.addOb .row).cx g (upd κ δ.nx none)) w (a.eval x) k news := by
    obtain ⟨h1, h2, a0, c, h3, h4⟩ := hx.src r ho'
    refine ⟨h1, h2, a0, c, h3, fun he => ?_⟩
    obtain ⟨b, off, vs, h5, h6⟩ := h4 he
    exact ⟨b, off, vs, h5, fun i j p hp => ⟨(h6 i j p hp).1, (h6 i j p hp).2.1, G1.rp (h6 i j p hp).2.2⟩⟩
  obtain ⟨v', w', κ', h1, h2, h3⟩ := append_core (ty := ty) r1 hlr hv hsrc ht hi (Nat.eq_of_beq_eq_true hzk) (by simpa using hk0) (by simpa using hb) (by simpa using hl)
  have hnl : ¬ (δ.cx g κ).Lr δ.nx := fun h => Nat.lt_irrefl _ (r.nx _ (DS.lr_live h))
  obtain ⟨r2, hcx⟩ := h2.unmap rfl (fun j => (r.env j).kill_id hnl) (fun i o h => by
    rw [ob_addOb] at h
    by_cases e : δ.nx = i
    · rw [if_pos e] at h; cases h; rfl
    · rw [if_neg e] at h
      have h0 := r.obj i o h
      cases o with
      | row => rfl
      | box cs =>
        obtain ⟨b, c, e, h1, h2, h3, h4⟩ := h0
        simp only [Ob.mp', Ob.box.injEq]
        apply List.ext_getElem?
        intro j
        rw [List.getElem?_map]
        cases hj : cs[j]? with
        | none => rfl
        | some c' =>
          have hlt : j < c.size := by rw [h3]; exact (List.getElem?_eq_some_iff.1 hj).1
          exact congrArg some ((h4 j _ c' (Array.getElem?_eq_getElem hlt) hj).1.kill_id hnl)
      | loop l tm ps asg body st => rfl
      | mp l => rfl
      | it l seen => rfl)
  rw [hcx _ rfl] at h3
  exact .inl ⟨_, _, _, _, run_append_op h1, .inl rfl, r2.putd (okD_spec hd) (.own (by simpa using h3))⟩
theorem AOps.append_nil {s x : Operand} {t e : TypeId} {k bytes : Nat} {z : Value} {news : List (List PV)} (hs : δ.ev s = .pv (.lit (.slice none 0 0))) (hx : Srcs δ x k news) (ht : P.underlying t = some (.slice e))
    (hi : (P.info? e).map (fun i => (i.size, i.zero, i.bytes)) = some (k, some z, bytes)) (hzk : Nat.beq z.cells.size k = true) (hk0 : Nat.blt 0 k = true) (ho : okT s = true) (ho' : okT x = true) (hd : okD δ.n dst = true)
    (hb : news.length * bytes ≤ 140737488355328) (hl : news.length ≤ 140737488355328)
    (hK : AOps .plain P g ops rest Q ((δ.addOb .row).putd dst (.own δ.nx e k news))) : AOps .plain P g ops (⟨dst, .call { callee := .builtin .append, args := #[s, x], argTypes := #[t, t] }, ty, pos, af, none⟩ :: rest) Q δ :=
  AOps.eff rfl rfl (Eff.append_nil hs hx ht hi hzk hk0 ho ho' hd hb hl) hK

/-! ### make -/
theorem Eff.make {t e : TypeId} {x y : Operand} {kx ky : IntKind} {k bytes n : Nat} {z : Value} {c0 : List PV} (hx : δ.ev x = .pv (.lit (.int kx (n : Int)))) (hy : δ.ev y = .pv (.lit (.int ky (n : Int)))) (ht : P.underlying t = some (.slice e))
    (hi : (P.info? e).map (fun i => (i.size, i.zero, i.bytes)) = some (k, some z, bytes)) (hc0 : z.cells.toList.map PV.lit = c0) (hzk : Nat.beq z.cells.size k = true) (hk0 : Nat.blt 0 k = true) (h1 : z.cells.toList.all (·.oneCell') = true)
    (ho : okT x = true) (ho' : okT y = true) (hd : okD δ.n dst = true) (hb : bytes * n ≤ 281474976710656) (hl : n ≤ 140737488355328) :
    Eff P g ⟨dst, .makeSlice t x y, ty, pos, af, gd⟩ δ ((δ.addOb .row).putd dst (.own δ.nx e k (List.replicate n c0))) := by
  intro κ a w r
  have hk' : 0 < k := by simpa using hk0
  have hzk' : z.cells.size = k := Nat.eq_of_beq_eq_true hzk
  obtain ⟨i0, hi0, hs0, hz0, hb0⟩ : ∃ i0, P.info? e = some i0 ∧ i0.size = k ∧ i0.zero = some z ∧ i0.bytes = bytes := by
    cases h : P.info? e with
    | none => rw [h] at hi; simp at hi
    | some i0 => rw [h] at hi; simp at hi; exact ⟨i0, rfl, hi.1, hi.2.1, hi.2.2⟩
  have hbb : (i0.bytes : Int) * (n : Int) ≤ 281474976710656 := by
    rw [hb0]
    have : ((bytes * n : Nat) : Int) ≤ 281474976710656 := by omega
    rwa [Int.natCast_mul] at this
  have hrun := run_make (P := P) w t e i0 z ht hi0 hz0 kx ky (n : Int) (n : Int) (by omega) (Int.le_refl _) hbb (by omega)
  simp only [Int.toNat_natCast, hs0] at hrun
  have hrun' : (execOp a.eval ⟨dst, .makeSlice t x y, ty, pos, af, gd⟩).run P w = .ok (.value (.slice (some ⟨w.heap.size, 0, none⟩) n n)) (w.alloc (.cells (madeCells z.cells (n * k)) e)) := by
    simp only [execOp, r.lit hx ho, r.lit hy ho', Sem.run_bind, hrun, Result.andThen_ok, Sem.run_pure]
  obtain ⟨r', G⟩ := r.grow .row (.cells (madeCells z.cells (n * k)) e) (fun C G hκ b hb => by
    have : w.heap.size = b := Option.some.inj (hκ.symm.trans hb)
    subst this
    exact ⟨_, e, heap_alloc_new w _⟩)
  have hrow := World.ownsRow_lit (base := g.B) (e := e) (size := k) w (madeCells z.cells (n * k)) n r.hB (by simp only [maxLen]; omega) (size_madeCells _ _)
  have hmade : ∀ t, t < n * k → ∃ hm : t % k < z.cells.size, (madeCells z.cells (n * k)).toList[t]? = some (z.cells[t % k]) := by
    intro t ht
    have hm : t % k < z.cells.size := by rw [hzk']; exact Nat.mod_lt _ hk'
    refine ⟨hm, ?_⟩
    simp only [madeCells, Array.getElem?_toList, Array.getElem?_map, Array.getElem?_range, ht, if_true, Option.map_some, Option.some.injEq]
    rw [hzk', getElem!_pos z.cells _ hm]
  refine .inl ⟨_, _, _, _, hrun', .inl rfl, r'.putd (okD_spec hd) (.own ?_)⟩
  refine ⟨by show (δ.addOb .row).ob _ = _; rw [ob_addOb, if_pos rfl], by simpa using hl, fun c hc => ?_, fun b hb => ?_, _, by rw [List.length_replicate]; exact hrow, fun u hu => ?_, fun i' j p hp' => ?_⟩
  · rw [List.mem_replicate] at hc; rw [hc.2, ← hc0]; simp [hzk']
  · simp only [Value.ownBlock, Option.some.injEq] at hb
    subst hb
    show upd _ _ _ _ = _
    simp [upd]
  · obtain ⟨t, ht⟩ := List.getElem?_of_mem hu
    have hlt : t < n * k := by have := (List.getElem?_eq_some_iff.1 ht).1; simpa [size_madeCells] using this
    obtain ⟨hm, h2⟩ := hmade t hlt
    rw [h2] at ht
    cases ht
    exact (List.all_eq_true.1 h1) _ (by simp)
  · unfold cellAt at hp'
    rw [List.getElem?_replicate] at hp'
    split at hp'
    · rename_i hi'
      simp only [Option.bind_some] at hp'
      rw [← hc0, List.getElem?_map, Option.map_eq_some_iff] at hp'
      obtain ⟨u, hu, rfl⟩ := hp'
      have hj : j < k := by have := (List.getElem?_eq_some_iff.1 hu).1; rw [← hzk']; simpa using this
      have hlt : i' * k + j < n * k := by
        have : (i' + 1) * k ≤ n * k := Nat.mul_le_mul_right k hi'
        rw [Nat.add_mul, Nat.one_mul] at this; omega
      obtain ⟨hm, h2⟩ := hmade _ hlt
      refine ⟨u, ?_, .lit _⟩
      rw [h2]
      have : (i' * k + j) % k = j := by rw [Nat.mul_comm, Nat.mul_add_mod, Nat.mod_eq_of_lt hj]
      simp only [this]
      rw [Array.getElem?_toList] at hu
      exact (Array.getElem?_eq_getElem (by omega)).symm.trans hu
    · simp at hp'
theorem AOps.make {t e : TypeId} {x y : Operand} {kx ky : IntKind} {k bytes n : Nat} {z : Value} {c0 : List PV} (hx : δ.ev x = .pv (.lit (.int kx (n : Int)))) (hy : δ.ev y = .pv (.lit (.int ky (n : Int)))) (ht : P.underlying t = some (.slice e))
    (hi : (P.info? e).map (fun i => (i.size, i.zero, i.bytes)) = some (k, some z, bytes)) (hc0 : z.cells.toList.map PV.lit = c0) (hzk : Nat.beq z.cells.size k = true) (hk0 : Nat.blt 0 k = true) (h1 : z.cells.toList.all (·.oneCell') = true)
    (ho : okT x = true) (ho' : okT y = true) (hd : okD δ.n dst = true) (hb : bytes * n ≤ 281474976710656) (hl : n ≤ 140737488355328)
    (hK : AOps .plain P g ops rest Q ((δ.addOb .row).putd dst (.own δ.nx e k (List.replicate n c0)))) : AOps .plain P g ops (⟨dst, .makeSlice t x y, ty, pos, af, none⟩ :: rest) Q δ :=
  AOps.eff rfl rfl (Eff.make hx hy ht hi hc0 hzk hk0 h1 ho ho' hd hb hl) hK

/-- make with length nought. -/
theorem Eff.make0 {t e : TypeId} {x y : Operand} {kx ky : IntKind} {k bytes n : Nat} {z : Value} (hx : δ.ev x = .pv (.lit (.int kx 0))) (hy : δ.ev y = .pv (.lit (.int ky (n : Int)))) (ht : P.underlying t = some (.slice e))
    (hi : (P.info? e).map (fun i => (i.size, i.zero, i.bytes)) = some (k, some z, bytes)) 
    (ho : okT x = true) (ho' : okT y = true) (hd : okD δ.n dst = true) (hb : bytes * n ≤ 281474976710656) (hl : n ≤ 140737488355328) :
    Eff P g ⟨dst, .makeSlice t x y, ty, pos, af, gd⟩ δ ((δ.addOb .row).putd dst (.own δ.nx e k [])) := by
  intro κ a w r
  obtain ⟨i0, hi0, hs0, hz0, hb0⟩ : ∃ i0, P.info? e = some i0 ∧ i0.size = k ∧ i0.zero = some z ∧ i0.bytes = bytes := by
    cases h : P.info? e with
    | none => rw [h] at hi; simp at hi
    | some i0 => rw [h] at hi; simp at hi; exact ⟨i0, rfl, hi.1, hi.2.1, hi.2.2⟩
  have hbb : (i0.bytes : Int) * (n : Int) ≤ 281474976710656 := by
    rw [hb0]
    have : ((bytes * n : Nat) : Int) ≤ 281474976710656 := by omega
    rwa [Int.natCast_mul] at this
  have hrun := run_make (P := P) w t e i0 z ht hi0 hz0 kx ky 0 (n : Int) (by omega) (by omega) hbb (by omega)
  simp only [Int.toNat_natCast, Int.toNat_zero, hs0] at hrun
  have hrun' : (execOp a.eval ⟨dst, .makeSlice t x y, ty, pos, af, gd⟩).run P w = .ok (.value (.slice (some ⟨w.heap.size, 0, none⟩) 0 n)) (w.alloc (.cells (madeCells z.cells (n * k)) e)) := by
    simp only [execOp, r.lit hx ho, r.lit hy ho', Sem.run_bind, hrun, Result.andThen_ok, Sem.run_pure]
  obtain ⟨r', G⟩ := r.grow .row (.cells (madeCells z.cells (n * k)) e) (fun C G hκ b hb => by
    have : w.heap.size = b := Option.some.inj (hκ.symm.trans hb)
    subst this
    exact ⟨_, e, heap_alloc_new w _⟩)
  have hrow := World.ownsRow_made (base := g.B) (e := e) (size := k) w (madeCells z.cells (n * k)) n r.hB (by simp only [maxLen]; omega) (size_madeCells _ _)
  refine .inl ⟨_, _, _, _, hrun', .inl rfl, r'.putd (okD_spec hd) (.own ?_)⟩
  refine ⟨by show (δ.addOb .row).ob _ = _; rw [ob_addOb, if_pos rfl], by simp, by simp, fun b hb => ?_, [], hrow, by simp, fun i' j p hp' => by simp [cellAt] at hp'⟩
  simp only [Value.ownBlock, Option.some.injEq] at hb
  subst hb
  show upd _ _ _ _ = _
  simp [upd]
theorem AOps.make0 {t e : TypeId} {x y : Operand} {kx ky : IntKind} {k bytes n : Nat} {z : Value} (hx : δ.ev x = .pv (.lit (.int kx 0))) (hy : δ.ev y = .pv (.lit (.int ky (n : Int)))) (ht : P.underlying t = some (.slice e))
    (hi : (P.info? e).map (fun i => (i.size, i.zero, i.bytes)) = some (k, some z, bytes)) 
    (ho : okT x = true) (ho' : okT y = true) (hd : okD δ.n dst = true) (hb : bytes * n ≤ 281474976710656) (hl : n ≤ 140737488355328)
    (hK : AOps .plain P g ops rest Q ((δ.addOb .row).putd dst (.own δ.nx e k []))) : AOps .plain P g ops (⟨dst, .makeSlice t x y, ty, pos, af, none⟩ :: rest) Q δ :=
  AOps.eff rfl rfl (Eff.make0 hx hy ht hi ho ho' hd hb hl) hK

/-! ### a slice cut -/
theorem AOps.slice {t e : TypeId} {x : Operand} {lo hi : Option Operand} {k l h : Nat} {els : List (List PV)} (hx : δ.ev x = .pv (.slice k els)) (ht : P.underlying t = some (.slice e)) (hk : (P.info? e).map (·.size) = some k)
    (hlo : match lo with | some y => okT y = true ∧ δ.ev y = litI (l : Nat) | none => l = 0) (hhi : match hi with | some y => okT y = true ∧ δ.ev y = litI (h : Nat) | none => h = els.length) (hlh : l ≤ h) (hh : h ≤ els.length)
    (ho : okT x = true) (hd : okD δ.n dst = true) (hK : AOps q P g ops rest Q (δ.putd dst (.pv (.slice k ((els.drop l).take (h - l)))))) : AOps q P g ops (⟨dst, .slice t x lo hi none, ty, pos, af, none⟩ :: rest) Q δ :=
  AOps.valw _ hd (fun κ a w r => by
    have h1 := (r.ra hx ho).pv_inv
    generalize hv : a.eval x = v at h1
    obtain ⟨i0, hi0, hk0⟩ : ∃ i0, P.info? e = some i0 ∧ i0.size = k := by
      cases h : P.info? e with
      | none => rw [h] at hk; simp at hk
      | some i0 => rw [h] at hk; exact ⟨i0, rfl, by simpa using hk⟩
    cases h1 with
    | @slice a0 len cap _ _ b off vs hl hcap hb ha hkk hc hr =>
      have hlo' : lo.map a.eval = lo.map fun _ => Value.int .i64 l := by
        cases lo with
        | none => rfl
        | some y => simp only [Option.map_some, Option.some.injEq]; exact r.lit hlo.2 hlo.1
      have hhi' : hi.map a.eval = hi.map fun _ => Value.int .i64 h := by
        cases hi with
        | none => rfl
        | some y => simp only [Option.map_some, Option.some.injEq]; exact r.lit hhi.2 hhi.1
      have hb1 : ∀ w, (Instr.sliceBounds true len cap (lo.map a.eval) (hi.map a.eval) none).run P w = .ok (l, h, cap) w := by
        intro w
        rw [hlo', hhi']
        have e1 : (0 : Int) ≤ (h : Int) ∧ (h : Int) ≤ (cap : Int) := by omega
        have e2 : (0 : Int) ≤ (l : Int) ∧ (l : Int) ≤ (h : Int) := by omega
        cases lo with
        | none =>
          simp only at hlo
          subst hlo
          cases hi with
          | none => simp only at hhi; subst hhi; subst hl; simp [Instr.sliceBounds]
          | some y =>
            simp [Instr.sliceBounds, Instr.sliceBound, asIntOf, e1]
            intro h0; exfalso; omega
        | some y0 =>
          cases hi with
          | none => simp only at hhi; subst hhi; subst hl; simp [Instr.sliceBounds, Instr.sliceBound, asIntOf]; omega
          | some y =>
            have n1 : ¬ cap < h := by omega
            have n2 : ¬ h < l := by omega
            simp [Instr.sliceBounds, Instr.sliceBound, asIntOf, n1, n2, show h ≤ cap by omega, show l ≤ h by omega]
      have hrun : ∀ w, (execOp a.eval ⟨dst, .slice t x lo hi none, ty, pos, af, none⟩).run P w = .ok (.value (.slice (if cap = l then a0 else a0.map (·.add (l * k))) (h - l) (cap - l))) w := by
        intro w
        simp only [execOp, Instr.sliceAt, Instr.slice, run_underlying ht, hv, Sem.run_bind, Result.andThen_ok, Option.map_none, hb1, sizeOf, typeInfo, Sem.run_pure]
        simp [hi0, hk0]
      refine ⟨_, fun w' _ => hrun w', .pv ?_⟩
      have hll : ((els.drop l).take (h - l)).length = h - l := by simp; omega
      have hcell : ∀ i j, cellAt ((els.drop l).take (h - l)) i j = (if i < h - l then cellAt els (l + i) j else none) := by
        intro i j
        unfold cellAt
        rw [List.getElem?_take]
        split
        · rw [List.getElem?_drop]
        · rfl
      refine .slice b (off + l * k) (fun i j => vs (l + i) j) hll (by omega) (by omega) (fun hne => ?_) (fun c hc => hkk c (List.mem_of_mem_drop (List.mem_of_mem_take hc))) (fun i j p hp => ?_) (fun i j p hp => ?_)
      · have hels : els ≠ [] := by intro e; subst e; simp at hne
        obtain ⟨h3, h4, h5⟩ := ha hels
        have : ¬ cap = l := by intro e; apply hne; apply List.eq_nil_of_length_eq_zero; rw [hll]; omega
        rw [if_neg this, h3]
        exact ⟨by simp [addr_add], h4, h5⟩
      · rw [hcell] at hp
        split at hp
        · have h6 := hc (l + i) j p hp
          have e0 : off + l * k + i * k + j = off + (l + i) * k + j := by rw [Nat.add_mul]; omega
          rw [e0]; exact h6
        · cases hp
      · rw [hcell] at hp
        split at hp
        · exact hr (l + i) j p hp
        · cases hp) hK

end Go.Ab
