/- Slices that are written out, made, cut; rows that grow by append or are stored into. -/
import Derived.Test.YthahkdmlcgfpcaaAbMem3
set_option linter.unusedSimpArgs false
set_option linter.unusedVariables false
namespace Go.Ab
open Go Go.RowKit
variable {q : Md} {P : Program} {g : Ghost} {δ : DS} {κ : Nat → Option Nat} {a : Act} {w : World}
variable {gd : Option (Tmp × Bool)} {ops : Array Oper} {rest : List Oper} {Q : Exit → DS → Prop} {dst : Option Nat} {ty : TypeId} {pos : String} {af : Array Edge}

theorem AOps.weak {l : List Oper} {δ' : DS} (hw : Weak g δ δ') (h : AOps .plain P g ops l Q δ') : AOps .plain P g ops l Q δ := fun κ a w r => let ⟨κ', r'⟩ := hw κ a w r; h κ' a w r'

def pvOf : AV → PV | .pv p => p | _ => .lit undef
def AV.isPv : AV → Bool | .pv _ => true | _ => false
def chunk (k : Nat) : Nat → List AV → List (List PV)
  | 0, _ => []
  | n + 1, l => (l.take k).map pvOf :: chunk k n (l.drop k)
theorem chunk_len (k : Nat) : ∀ n l, (chunk k n l).length = n
  | 0, _ => rfl
  | n + 1, l => by simp [chunk, chunk_len k n]
theorem chunk_k (k : Nat) : ∀ n l, l.length = n * k → ∀ c ∈ chunk k n l, c.length = k
  | 0, _, _, c, h => by simp [chunk] at h
  | n + 1, l, hl, c, h => by
    rw [Nat.add_mul, Nat.one_mul] at hl
    simp only [chunk, List.mem_cons] at h
    rcases h with rfl | h
    · simp; omega
    · exact chunk_k k n _ (by simp; omega) c h
theorem chunk_at (k : Nat) : ∀ n l, l.all AV.isPv = true → ∀ i j p, cellAt (chunk k n l) i j = some p → l[i * k + j]? = some (.pv p) ∧ j < k
  | 0, _, _, i, j, p, h => by simp [chunk, cellAt] at h
  | n + 1, l, hl, i, j, p, h => by
    cases i with
    | zero =>
      simp only [chunk, cellAt, List.getElem?_cons_zero, Option.bind_some, List.getElem?_map, Option.map_eq_some_iff, List.getElem?_take] at h
      obtain ⟨v, h, rfl⟩ := h
      split at h
      · rename_i hj
        refine ⟨?_, hj⟩
        rw [Nat.zero_mul, Nat.zero_add, h]
        have := (List.all_eq_true.1 hl) v (List.mem_of_getElem? h)
        cases v <;> simp [AV.isPv] at this; rfl
      · cases h
    | succ i =>
      have := chunk_at k n (l.drop k) (List.all_eq_true.2 fun x hx => (List.all_eq_true.1 hl) x (List.mem_of_mem_drop hx)) i j p (by simpa [chunk, cellAt] using h)
      rw [List.getElem?_drop] at this
      rw [show (i + 1) * k + j = k + (i * k + j) by rw [Nat.add_mul]; omega]
      exact this

def zerosA (z : Value) (n : Nat) : List AV := (List.range n).map fun j => .pv (.lit (z.cells.toList[j % z.cells.toList.length]?.getD undef))

theorem Eff.buildSlice {t e : TypeId} {len k : Nat} {parts : List (Nat × Operand)} {z : Value} {cells : List AV} (ht : P.underlying t = some (.slice e)) (hi : (P.info? e).map (fun i => (i.size, i.zero)) = some (k, some z)) (hzk : Nat.beq z.cells.size k = true) (hk : Nat.blt 0 k = true)
    (hlen : Nat.ble (len * k) 16777216 = true) (h1 : z.cells.toList.all (·.oneCell') = true) (ho : parts.all (fun p => okT p.2) = true) (hf : fillA (fun i => some (i * k, k)) (zerosA z (len * k)) (parts.map fun p => (p.1, δ.ev p.2)) = some cells) (hp : cells.all AV.isPv = true) (hd : okD δ.n dst = true) :
    Eff P g ⟨dst, .buildSlice t len parts.toArray, ty, pos, af, gd⟩ δ ((δ.addOb .row).putd dst (.own δ.nx e k (chunk k len cells))) := by
  intro κ a w r
  have hzk' : z.cells.size = k := Nat.eq_of_beq_eq_true hzk
  have hk' : 0 < k := by simpa using hk
  have hlen' : len * k ≤ 16777216 := by simpa using hlen
  obtain ⟨i0, hi0, hs0, hz0⟩ : ∃ i0, P.info? e = some i0 ∧ i0.size = k ∧ i0.zero = some z := by
    cases h : P.info? e with
    | none => rw [h] at hi; simp at hi
    | some i0 => rw [h] at hi; simp at hi; exact ⟨i0, rfl, hi.1, hi.2⟩
  have hone : ∀ (j : Nat) (u : Value), z.cells.toList[j]? = some u → u.oneCell' = true := fun j u h => by simpa using (List.all_eq_true.1 h1) u (List.mem_of_getElem? h)
  obtain ⟨c', h2, h3⟩ := fill_sound (C := δ.cx g κ) (w := w) (place := fun i => some (i * k, k)) (place' := fun i => some (i * k, k)) (fun i x h => h)
      (parts.map fun p => (p.1, a.eval p.2)) (parts.map fun p => (p.1, δ.ev p.2)) ((Array.range (len * k)).map (z.cells[· % z.cells.size]!)) (zerosA z (len * k)) cells (by simp) (fun j x y h4 h5 => by
        simp only [List.getElem?_map, Option.map_eq_some_iff] at h4 h5
        obtain ⟨p, h6, rfl⟩ := h4
        obtain ⟨p', h7, rfl⟩ := h5
        rw [h6] at h7; cases h7
        exact ⟨rfl, r.evc p.2 (okT_spec (by simpa using (List.all_eq_true.1 ho) p (List.mem_of_getElem? h6)))⟩)
      ⟨by simp [zerosA], fun j u av h4 h5 => by
        have hj : j < len * k := by have := (List.getElem?_eq_some_iff.1 h5).1; simpa [zerosA] using this
        simp only [zerosA, List.getElem?_map, List.getElem?_range hj, Option.map_some, Option.some.injEq] at h5
        subst h5
        simp only [Array.getElem?_map, Array.getElem?_range, hj, if_true, Option.map_some, Option.some.injEq] at h4
        have hmod : j % z.cells.size < z.cells.size := Nat.mod_lt _ (by omega)
        have e1 : z.cells.toList[j % z.cells.toList.length]? = some u := by
          rw [← h4, Array.length_toList, Array.getElem?_toList, getElem!_pos z.cells _ hmod, Array.getElem?_eq_getElem hmod]
        rw [e1]
        exact ⟨.pv (.lit _), hone _ _ e1⟩⟩ hf
  have hcl : cells.length = len * k := by
    have : ∀ (parts : List (Nat × AV)) (l l' : List AV), fillA (fun i => some (i * k, k)) l parts = some l' → l'.length = l.length := by
      intro parts
      induction parts with
      | nil => intro l l' h; simp only [fillA, Option.some.injEq] at h; rw [h]
      | cons p parts ih =>
        intro l l' h
        obtain ⟨i, v⟩ := p
        simp only [fillA] at h
        have hset : ∀ (vs : List AV) (off : Nat) (l : List AV), (setsA l off vs).length = l.length := by
          intro vs
          induction vs with
          | nil => intros; rfl
          | cons v vs ih => intro off l; simp only [setsA]; rw [ih]; simp
        cases hc : (Nat.beq v.cellsOf.length k && Nat.ble (i * k + v.cellsOf.length) l.length && AV.ones v.cellsOf) with
        | false => rw [hc] at h; cases h
        | true => rw [hc] at h; rw [ih _ _ h, hset]
    rw [this _ _ _ hf]; simp [zerosA]
  have hrun : (execOp a.eval ⟨dst, .buildSlice t len parts.toArray, ty, pos, af, gd⟩).run P w = .ok (.value (.slice (some ⟨w.heap.size, 0, none⟩) len len)) (w.alloc (.cells c' e)) := by
    have hzr : ∀ w, (zeroValue e).run P w = .ok z w := fun w => by simp [zeroValue, typeInfo, hi0, hz0]
    have hsr : ∀ w, (sizeOf e).run P w = .ok k w := fun w => by simp [sizeOf, typeInfo, hi0, hs0]
    have hno : ¬ 16777216 < len * k := by omega
    by_cases h0 : len * k = 0
    · have : (Array.range (len * k)).map (fun x => z.cells[x % z.cells.size]!) = (Array.range (len * k)).map (fun x => (#[] : Array Value)[x % (#[] : Array Value).size]!) := by rw [h0]; simp [Array.range_zero']
      rw [this] at h2
      simp only [execOp, Instr.buildSlice, Sem.run_bind, Result.andThen_ok, run_underlying ht, hsr, List.map_toArray]
      simp only [show (2:Nat) ^ 24 = 16777216 from rfl, gt_iff_lt, if_neg hno, if_pos h0, Sem.run_pure, Result.andThen_ok, Sem.run_bind]
      simp only [h2, Sem.run_bind, newRow, Result.andThen_ok, Sem.run_pure]
      rfl
    · simp only [execOp, Instr.buildSlice, Sem.run_bind, Result.andThen_ok, run_underlying ht, hsr, List.map_toArray]
      simp only [show (2:Nat) ^ 24 = 16777216 from rfl, gt_iff_lt, if_neg hno, if_neg h0, Sem.run_pure, Result.andThen_ok, Sem.run_bind, hzr]
      simp only [h2, Sem.run_bind, newRow, Result.andThen_ok, Sem.run_pure]
      rfl
  have hcs : c'.size = len * k := h3.1.trans hcl
  have hmax : len ≤ maxLen := by
    have : len ≤ len * k := Nat.le_mul_of_pos_right _ hk'
    simp only [maxLen]; omega
  obtain ⟨r', G⟩ := r.grow .row (.cells c' e) (fun C G hκ b hb => by
    have : w.heap.size = b := Option.some.inj (hκ.symm.trans hb)
    subst this
    exact ⟨c', e, heap_alloc_new w _⟩)
  have hrow := World.ownsRow_lit (base := g.B) (e := e) (size := k) w c' len r.hB hmax hcs
  refine .inl ⟨_, _, _, _, hrun, .inl rfl, r'.putd (okD_spec hd) (.own ?_)⟩
  refine ⟨by show (δ.addOb .row).ob _ = _; rw [ob_addOb, if_pos rfl], by rw [chunk_len]; have : len ≤ len * k := Nat.le_mul_of_pos_right _ hk'; omega, chunk_k k len cells hcl, fun b hb => ?_, c'.toList, by rw [chunk_len]; exact hrow, fun u hu => ?_, fun i' j p hp' => ?_⟩
  · simp only [Value.ownBlock, Option.some.injEq] at hb
    subst hb
    show upd _ _ _ _ = _
    simp [upd]
  · obtain ⟨j, hj⟩ := List.getElem?_of_mem hu
    have hlt : j < cells.length := by have := (List.getElem?_eq_some_iff.1 hj).1; have := h3.1; simp at *; omega
    exact (h3.2 j u _ (by simpa using hj) (List.getElem?_eq_getElem hlt)).2
  · obtain ⟨h5, _⟩ := chunk_at k len cells hp i' j p hp'
    have hlt : i' * k + j < c'.size := by rw [h3.1]; exact (List.getElem?_eq_some_iff.1 h5).1
    refine ⟨c'[i' * k + j], by simp [hlt], ?_⟩
    exact G.rp (h3.2 _ _ _ (Array.getElem?_eq_getElem hlt) h5).1.pv_inv
theorem AOps.buildSlice {t e : TypeId} {len k : Nat} {parts : List (Nat × Operand)} {z : Value} {cells : List AV} (ht : P.underlying t = some (.slice e)) (hi : (P.info? e).map (fun i => (i.size, i.zero)) = some (k, some z)) (hzk : Nat.beq z.cells.size k = true) (hk : Nat.blt 0 k = true)
    (hlen : Nat.ble (len * k) 16777216 = true) (h1 : z.cells.toList.all (·.oneCell') = true) (ho : parts.all (fun p => okT p.2) = true) (hf : fillA (fun i => some (i * k, k)) (zerosA z (len * k)) (parts.map fun p => (p.1, δ.ev p.2)) = some cells) (hp : cells.all AV.isPv = true) (hd : okD δ.n dst = true)
    (hK : AOps .plain P g ops rest Q ((δ.addOb .row).putd dst (.own δ.nx e k (chunk k len cells)))) : AOps .plain P g ops (⟨dst, .buildSlice t len parts.toArray, ty, pos, af, none⟩ :: rest) Q δ :=
  AOps.eff rfl rfl (Eff.buildSlice ht hi hzk hk hlen h1 ho hf hp hd) hK

/-! ### append -/

/-- a slice whose elements are read. -/
structure Src (C : Cx) (w : World) (v : Value) (k : Nat) (els : List (List PV)) : Prop where
  lim : els.length ≤ 140737488355328
  hk : ∀ c ∈ els, c.length = k
  ex : ∃ a c, v = .slice a els.length c ∧ (els ≠ [] → ∃ (b off : Nat) (vs : Nat → Nat → Value), a = some ⟨b, off, none⟩ ∧ ∀ i j p, cellAt els i j = some p → w.cell? ⟨b, off + i * k + j, none⟩ = some (vs i j) ∧ (vs i j).oneCell' = true ∧ RP C.N w (vs i j) p)

theorem RP.src {C : Cx} {w : World} {v : Value} {k : Nat} {els : List (List PV)} (h : RP C.N w v (.slice k els)) : Src C w v k els := by
  cases h with
  | slice b off vs hl hcap hb ha hk hc hr => subst hl; exact ⟨hb, hk, _, _, rfl, fun he => ⟨b, off, vs, (ha he).1, fun i j p hp => ⟨(hc i j p hp).1, (hc i j p hp).2, hr i j p hp⟩⟩⟩
theorem OwnV.src {C : Cx} {w : World} {v : Value} {i e k els} (h : OwnV C w v i e k els) : Src C w v k els := by
  obtain ⟨hl, hlim, hk, hb, xs, ho, h1, hx⟩ := h
  have ho' := ho
  rcases ho.2 with ⟨rfl, h0⟩ | ⟨b, cap, cur, rfl, h2, h3, h4⟩
  · exact ⟨hlim, hk, none, 0, by rw [h0], fun he => absurd (List.eq_nil_of_length_eq_zero h0) he⟩
  · refine ⟨hlim, hk, _, _, rfl, fun _ => ⟨b, 0, fun i j => (xs[i * k + j]?).getD undef, rfl, fun i j p hp => ?_⟩⟩
    obtain ⟨u, hu, hr⟩ := hx i j p hp
    have hlt : i * k + j < els.length * k := by have := (List.getElem?_eq_some_iff.1 hu).1; rw [← ho.1]; exact this
    simp only [hu, Option.getD_some, Nat.zero_add]
    exact ⟨(ho'.cellAt _ hlt).trans hu, h1 u (List.mem_of_getElem? hu), hr⟩
theorem src_nil {C : Cx} {w : World} (k : Nat) : Src C w (.slice none 0 0) k [] := ⟨by simp, by simp, none, 0, rfl, fun h => absurd rfl h⟩

/-- the cells one behind the other. -/
theorem Src.flat {C : Cx} {w : World} {v : Value} {k : Nat} {els : List (List PV)} (h : Src C w v k els) (hk0 : 0 < k) :
    ∃ (a : Option Addr) (c : Nat) (news : List Value), v = .slice a els.length c ∧ news.length = els.length * k ∧ (els ≠ [] → ∃ ad, a = some ad ∧ ∀ j u, news[j]? = some u → w.cell? (ad.add j) = some u) ∧ (∀ u ∈ news, u.oneCell' = true) ∧
      ∀ i j p, cellAt els i j = some p → ∃ u, news[i * k + j]? = some u ∧ RP C.N w u p := by
  obtain ⟨hlim, hk, a, c, rfl, hex⟩ := h
  by_cases he : els = []
  · subst he
    exact ⟨a, c, [], rfl, by simp, fun h => absurd rfl h, by simp, fun i j p hp => by simp [cellAt] at hp⟩
  · obtain ⟨b, off, vs, rfl, hv⟩ := hex he
    have hcell : ∀ t, t < els.length * k → ∃ p, cellAt els (t / k) (t % k) = some p := by
      intro t ht
      have h1 : t / k < els.length := (Nat.div_lt_iff_lt_mul hk0).2 ht
      have h2 : t % k < (els[t / k]).length := by rw [hk _ (List.getElem_mem h1)]; exact Nat.mod_lt _ hk0
      exact ⟨(els[t / k])[t % k], by simp [cellAt, List.getElem?_eq_getElem h1, List.getElem?_eq_getElem h2]⟩
    refine ⟨_, c, (List.range (els.length * k)).map fun t => vs (t / k) (t % k), rfl, by simp, fun _ => ⟨_, rfl, fun j u hu => ?_⟩, fun u hu => ?_, fun i j p hp => ?_⟩
    · simp only [List.getElem?_map, Option.map_eq_some_iff] at hu
      obtain ⟨t, ht, rfl⟩ := hu
      rw [List.getElem?_eq_some_iff] at ht
      obtain ⟨ht1, ht2⟩ := ht
      have : t = j := by simpa using ht2.symm
      subst this
      obtain ⟨p, hp⟩ := hcell t (by simpa using ht1)
      rw [addr_add, ← (hv _ _ p hp).1]
      congr 2
      have := Nat.div_add_mod t k
      rw [Nat.mul_comm] at this
      omega
    · simp only [List.mem_map, List.mem_range] at hu
      obtain ⟨t, ht, rfl⟩ := hu
      obtain ⟨p, hp⟩ := hcell t ht
      exact (hv _ _ p hp).2.1
    · have hj : j < k := by
        unfold cellAt at hp
        cases h : els[i]? with
        | none => rw [h] at hp; simp at hp
        | some e0 => rw [h] at hp; simp at hp; rw [← hk e0 (List.mem_of_getElem? h)]; exact (List.getElem?_eq_some_iff.1 hp).1
      have hi : i < els.length := by
        unfold cellAt at hp
        cases h : els[i]? with
        | none => rw [h] at hp; simp at hp
        | some e0 => exact (List.getElem?_eq_some_iff.1 h).1
      have hlt : i * k + j < els.length * k := by
        have : (i + 1) * k ≤ els.length * k := Nat.mul_le_mul_right k hi
        rw [Nat.add_mul, Nat.one_mul] at this; omega
      refine ⟨vs i j, ?_, (hv i j p hp).2.2⟩
      rw [List.getElem?_map, List.getElem?_range hlt]
      simp only [Option.map_some, Option.some.injEq]
      rw [Nat.mul_comm i k, Nat.mul_add_div hk0, Nat.div_eq_of_lt hj, Nat.mul_add_mod, Nat.mod_eq_of_lt hj, Nat.add_zero]

theorem run_append_none {t ty e : TypeId} {i : TypeInfo} (ht : P.underlying t = some (.slice e)) (hi : P.info? e = some i) {B k : Nat} {v : Value} {n c : Nat} {xs : List Value} (hown : w.ownsRow B e k v n xs) :
    (Builtin.append_ #[t, t] ty #[v, .slice none 0 c]).run P w = .ok v w := by
  rcases hown.2 with ⟨rfl, rfl⟩ | ⟨g, cap, cur, rfl, _, _, hnc, _⟩
  · simp [Builtin.append_, run_underlying ht, sizeOf, typeInfo, hi, Builtin.lenOf, Builtin.firstCells]
  · simp [Builtin.append_, run_underlying ht, sizeOf, typeInfo, hi, Builtin.lenOf, Builtin.firstCells, hnc, storeCells]

theorem cellAt_append {xs ys : List (List PV)} {i j : Nat} {p : PV} (h : cellAt (xs ++ ys) i j = some p) : (i < xs.length ∧ cellAt xs i j = some p) ∨ (xs.length ≤ i ∧ cellAt ys (i - xs.length) j = some p) := by
  unfold cellAt at *
  by_cases hi : i < xs.length
  · left; rw [List.getElem?_append_left hi] at h; exact ⟨hi, h⟩
  · right; rw [List.getElem?_append_right (by omega)] at h; exact ⟨by omega, h⟩

/-- the law of append over a row of the walk's own. -/
theorem append_core (r : Rel g δ κ a w) {i : Nat} {e t : TypeId} {k bytes : Nat} {els news : List (List PV)} {v x z : Value} (ho : δ.ob i = some .row) (hv : OwnV (δ.cx g κ) w v i e k els) (hx : Src (δ.cx g κ) w x k news)
    (ht : P.underlying t = some (.slice e)) (hi : (P.info? e).map (fun i => (i.size, i.zero, i.bytes)) = some (k, some z, bytes)) (hzk : z.cells.size = k) (hk0 : 0 < k) (hb : (els.length + news.length) * bytes ≤ 140737488355328) (hl : els.length + news.length ≤ 140737488355328) :
    ∃ v' w' κ', (Builtin.append_ #[t, t] ty #[v, x]).run P w = .ok v' w' ∧ Rel g (δ.mapV (AV.kill i)) κ' a w' ∧ OwnV ((δ.mapV (AV.kill i)).cx g κ') w' v' i e k (els ++ news) := by
  obtain ⟨i0, hi0, hs0, hz0, hb0⟩ : ∃ i0, P.info? e = some i0 ∧ i0.size = k ∧ i0.zero = some z ∧ i0.bytes = bytes := by
    cases h : P.info? e with
    | none => rw [h] at hi; simp at hi
    | some i0 => rw [h] at hi; simp at hi; exact ⟨i0, rfl, hi.1, hi.2.1, hi.2.2⟩
  obtain ⟨hlr, hlim, hk, hblk, xs, hown, h1, hxs⟩ := hv
  obtain ⟨xa, xc, nws, rfl, hnl, hne, hn1, hncell⟩ := hx.flat hk0
  have hml : els.length + news.length ≤ maxLen := by simp only [maxLen]; omega
  have hB : g.B ≤ w.heap.size := r.hB
  -- the run
  obtain ⟨v', w', hrun, hown', hgrow⟩ : ∃ v' w', (Builtin.append_ #[t, t] ty #[v, .slice xa news.length xc]).run P w = .ok v' w' ∧ w'.ownsRow g.B e k v' (els.length + news.length) (xs ++ nws) ∧ w.grownBy w' v.ownBlock := by
    by_cases hemp : news = []
    · subst hemp
      have hnw : nws = [] := List.eq_nil_of_length_eq_zero (by simpa using hnl)
      subst hnw
      cases xa with
      | none => exact ⟨v, w, run_append_none ht hi0 hown, by simp only [List.length_nil, Nat.add_zero, List.append_nil]; exact hown, ⟨rfl, rfl, rfl, Nat.le_refl _, fun _ _ _ => rfl⟩⟩
      | some ad =>
        obtain ⟨v', w', h2, h3, h4, _⟩ := run_append_own (P := P) w g.B t ty e i0 z k bytes ht hi0 hz0 hs0 hb0 hzk hk0 v els.length xs hown ad 0 xc [] (by simp) (by simp) (by simp) (by simpa using hml) (by simpa using hb) hB
        exact ⟨v', w', h2, by simpa using h3, h4⟩
    · obtain ⟨ad, rfl, hc⟩ := hne hemp
      obtain ⟨v', w', h2, h3, h4, _⟩ := run_append_own (P := P) w g.B t ty e i0 z k bytes ht hi0 hz0 hs0 hb0 hzk hk0 v els.length xs hown ad news.length xc nws hnl hc hn1 hml hb hB
      exact ⟨v', w', h2, h3, h4⟩
  have hκi : ∀ b, v.ownBlock = some b → κ i = some b := hblk
  have hT : Turns w w' (κ i) := by
    cases hob : v.ownBlock with
    | none => rw [hob] at hgrow; exact ⟨hgrow.os, hgrow.tape, hgrow.output, hgrow.size, fun k' hk' _ => hgrow.block k' hk' (by simp)⟩
    | some b => rw [hob] at hgrow; rw [hκi b hob]; exact Turns.grownBy hgrow
  -- the new block
  let κ' : Nat → Option Nat := upd κ i v'.ownBlock
  have hκo : ∀ j, j ≠ i → κ' j = κ j := fun j hj => by show upd _ _ _ _ = _; simp [upd, Ne.symm hj]
  have hκ'i : κ' i = v'.ownBlock := by show upd _ _ _ _ = _; simp [upd]
  have hnew : ∀ b, κ' i = some b → (κ i = some b ∨ w.heap.size ≤ b) ∧ b < w'.heap.size ∧ ∃ c e, w'.heap[b]? = some (.cells c e (0, 0)) := by
    intro b hb'
    rw [hκ'i] at hb'
    rcases hown'.2 with ⟨rfl, _⟩ | ⟨b', cap, cur, rfl, h2, h3, _⟩
    · simp [Value.ownBlock] at hb'
    · simp only [Value.ownBlock, Option.some.injEq] at hb'
      subst hb'
      refine ⟨?_, (Array.getElem?_eq_some_iff.1 h3).1, cur, e, h3⟩
      by_cases hlt : w.heap.size ≤ b'
      · exact .inr hlt
      · left
        -- an old block: it is the row's own
        have hlt' : b' < w.heap.size := by omega
        rcases hown.2 with ⟨rfl, h0⟩ | ⟨b0, cap0, cur0, rfl, h4, h5, h6⟩
        · exfalso
          -- v nil: the run made a new block or gave nil back
          by_cases hemp : news = []
          · subst hemp
            have hnw : nws = [] := List.eq_nil_of_length_eq_zero (by simpa using hnl)
            have hr2 : (Builtin.append_ #[t, t] ty #[.slice none 0 0, .slice xa 0 xc]).run P w = .ok (.slice none 0 0) w := by
              cases xa with
              | none => exact run_append_none ht hi0 hown
              | some ad => simp [Builtin.append_, run_underlying ht, sizeOf, typeInfo, hi0, Builtin.lenOf, Builtin.firstCells, loadCells, loadCellsFrom]
            simp only [List.length_nil] at hrun
            rw [hr2] at hrun
            simp at hrun
          · obtain ⟨ad, rfl, hc⟩ := hne hemp
            have hpos : 0 < news.length := List.length_pos_iff.2 hemp
            have hr2 := run_append_nil (P := P) w t ty e i0 z ht hi0 hz0 ad news.length xc nws (by rw [hs0]; exact hnl) hc hpos (by simp only [maxLen] at hml; omega) (by rw [hb0]; have : news.length * bytes ≤ (els.length + news.length) * bytes := Nat.mul_le_mul_right _ (by omega); omega)
            rw [hr2] at hrun
            simp only [Result.ok.injEq, Value.slice.injEq, Option.some.injEq, Addr.mk.injEq] at hrun
            omega
        · rw [hκi b0 rfl]
          by_cases hbb : b' = b0
          · rw [hbb]
          · exfalso
            -- the run gave back the old block or a new one
            by_cases hroom : els.length + news.length ≤ cap0
            · by_cases hemp : news = []
              · subst hemp
                have hnw : nws = [] := List.eq_nil_of_length_eq_zero (by simpa using hnl)
                cases xa with
                | none =>
                  have hr2 := run_append_none (P := P) (c := xc) (ty := ty) ht hi0 hown
                  simp only [List.length_nil] at hrun
                  rw [hr2] at hrun
                  simp only [Result.ok.injEq, Value.slice.injEq, Option.some.injEq, Addr.mk.injEq] at hrun
                  exact hbb hrun.1.1.1.symm
                | some ad =>
                  have hr2 := run_append_room (P := P) w t ty e i0 ht hi0 b0 els.length cap0 cur0 h5 ad 0 xc [] (by simp) (by simp) (by simp) (by omega) (by rw [hs0]; simp [h6.2.2.1]; exact Nat.mul_le_mul_right _ h6.1)
                  simp only [List.length_nil] at hrun
                  rw [hr2] at hrun
                  simp only [Result.ok.injEq, Value.slice.injEq, Option.some.injEq, Addr.mk.injEq] at hrun
                  exact hbb hrun.1.1.1.symm
              · obtain ⟨ad, rfl, hc⟩ := hne hemp
                have hr2 := run_append_room (P := P) w t ty e i0 ht hi0 b0 els.length cap0 cur0 h5 ad news.length xc nws (by rw [hs0]; exact hnl) hc hn1 hroom (by rw [hs0, hnl, h6.2.2.1, ← Nat.add_mul]; exact Nat.mul_le_mul_right _ hroom)
                rw [hr2] at hrun
                simp only [Result.ok.injEq, Value.slice.injEq, Option.some.injEq, Addr.mk.injEq] at hrun
                exact hbb hrun.1.1.1.symm
            · have hemp : news ≠ [] := by intro h; subst h; simp at hroom; have := h6.1; omega
              obtain ⟨ad, rfl, hc⟩ := hne hemp
              have hr2 := run_append_grow (P := P) w t ty e i0 z ht hi0 hz0 ⟨b0, 0, none⟩ els.length cap0 xs (by rw [hs0]; exact hown.1) (hown.cells (g := b0) rfl) ad news.length xc nws (by rw [hs0]; exact hnl) hc (by omega) (by simp only [maxLen] at hml; omega) (by rw [hb0]; exact growslice_fits (by omega) hb)
              rw [hr2] at hrun
              simp only [Result.ok.injEq, Value.slice.injEq, Option.some.injEq, Addr.mk.injEq] at hrun
              omega
  obtain ⟨r', G⟩ := r.row ho hκo hT hnew (AV.kill i) rfl (fun G v av h => h.kill G)
  refine ⟨v', w', κ', hrun, r', ?_⟩
  refine ⟨?_, by rw [List.length_append]; exact hl, fun c hc => (List.mem_append.1 hc).elim (hk c) (hx.hk c), fun b hb' => hκ'i.trans hb', xs ++ nws, by rw [List.length_append]; exact hown', fun u hu => (List.mem_append.1 hu).elim (h1 u) (hn1 u), fun i' j p hp => ?_⟩
  · show (δ.mapV _).ob i = _
    rw [ob_mapV, ho]; rfl
  · rcases cellAt_append hp with ⟨hlt, h2⟩ | ⟨hle, h2⟩
    · obtain ⟨u, h3, h4⟩ := hxs i' j p h2
      refine ⟨u, ?_, G.rp (C := (δ.cx g κ).less i) h4⟩
      rw [List.getElem?_append_left (List.getElem?_eq_some_iff.1 h3).1]; exact h3
    · obtain ⟨u, h3, h4⟩ := hncell (i' - els.length) j p h2
      refine ⟨u, ?_, G.rp (C := (δ.cx g κ).less i) h4⟩
      have hxl : xs.length = els.length * k := hown.1
      have he : i' * k + j = xs.length + ((i' - els.length) * k + j) := by
        rw [hxl, ← Nat.add_assoc, ← Nat.add_mul]
        congr 2
        omega
      rw [he, List.getElem?_append_right (by omega), Nat.add_sub_cancel_left]
      exact h3

end Go.Ab
