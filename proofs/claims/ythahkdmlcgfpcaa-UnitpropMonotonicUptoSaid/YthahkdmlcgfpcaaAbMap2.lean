/- Maps: written, counted, ranged over; told as sets and frozen. -/
import Derived.Test.YthahkdmlcgfpcaaAbNorm2
import Derived.Maps.RangeRun
set_option linter.unusedSimpArgs false
set_option linter.unusedVariables false
namespace Go.Ab
open Go Go.RowKit
variable {q : Md} {P : Program} {g : Ghost} {δ : DS} {κ : Nat → Option Nat} {a : Act} {w : World}
variable {gd : Option (Tmp × Bool)} {ops : Array Oper} {rest : List Oper} {Q : Exit → DS → Prop} {dst : Option Nat} {ty : TypeId} {pos : String} {af : Array Edge}

/-- a map with a key set. -/
def updI : List (Int × AV) → Int → AV → List (Int × AV)
  | [], m, v => [(m, v)]
  | (k, u) :: l, m, v => if m = k then (k, v) :: l else (k, u) :: updI l m v
theorem updI_none : ∀ {l : List (Int × AV)} {m : Int} {v : AV}, lookI l m = none → updI l m v = l ++ [(m, v)]
  | [], _, _, _ => rfl
  | (k, u) :: l, m, v, h => by
    unfold lookI at h
    split at h
    · cases h
    · rename_i hk
      simp [updI, hk, updI_none h]
theorem updI_at : ∀ {l : List (Int × AV)} {m : Int} {v : AV} {j : Nat} {u : AV}, l[j]? = some (m, u) → (∀ i, i < j → ∀ p, l[i]? = some p → p.1 ≠ m) → updI l m v = l.set j (m, v)
  | [], _, _, _, _, h, _ => by simp at h
  | (k, u') :: l, m, v, 0, u, h, _ => by
    simp at h; obtain ⟨rfl, rfl⟩ := h
    simp [updI]
  | (k, u') :: l, m, v, j + 1, u, h, hl => by
    have hk : m ≠ k := fun e => hl 0 (by omega) (k, u') rfl e.symm
    simp only [updI, if_neg hk, List.set_cons_succ]
    rw [updI_at (j := j) (u := u) (by simpa using h) (fun i hi p hp => hl (i + 1) (by omega) p (by simpa using hp))]
/-- which entry is found: the first. -/
theorem findNow_first {C : Cx} {w : World} (m : Int) : ∀ (es : List MapEntry) (l : List (Int × AV)) (i : Nat), es.length = l.length →
    (∀ (j : Nat) (e : MapEntry) (p : Int × AV), es[j]? = some e → l[j]? = some p → e.key = .int .i64 p.1 ∧ RA C w e.val p.2) →
    (lookI l m = none ∧ Instr.findNow (.int .i64) (.int .i64 m) es i = some none) ∨
    (∃ (j : Nat) (e : MapEntry) (v : AV), Instr.findNow (.int .i64) (.int .i64 m) es i = some (some (i + j, e.val)) ∧ es[j]? = some e ∧ l[j]? = some (m, v) ∧ e.key = .int .i64 m ∧ ∀ i, i < j → ∀ p, l[i]? = some p → p.1 ≠ m) := by
  intro es
  induction es with
  | nil => intro l i hs _; have : l = [] := List.eq_nil_of_length_eq_zero hs.symm; subst this; exact .inl ⟨rfl, rfl⟩
  | cons e es ih =>
    intro l i hs h
    cases l with
    | nil => simp at hs
    | cons p l =>
      obtain ⟨k, v⟩ := p
      have h0 := h 0 e (k, v) rfl rfl
      by_cases hk : m = k
      · subst hk
        refine .inr ⟨0, e, v, ?_, rfl, rfl, h0.1, fun i hi => by omega⟩
        simp [Instr.findNow, h0.1, Instr.sameNow]
      · have hf : Instr.findNow (.int .i64) (.int .i64 m) (e :: es) i = Instr.findNow (.int .i64) (.int .i64 m) es (i + 1) := by
          have hb : (m == k) = false := by simp [hk]
          simp [Instr.findNow, h0.1, Instr.sameNow, hb]
        rcases ih l (i + 1) (by simpa using hs) (fun j e p h1 h2 => h (j + 1) e p (by simpa using h1) (by simpa using h2)) with ⟨h1, h2⟩ | ⟨j, e', v', h2, h3, h4, h5, h6⟩
        · exact .inl ⟨by simp [lookI, hk, h1], hf.trans h2⟩
        · refine .inr ⟨j + 1, e', v', by rw [hf, h2]; simp; omega, by simpa using h3, by simpa using h4, h5, fun i' hi' p hp => ?_⟩
          cases i' with
          | zero => simp at hp; subst hp; exact fun e => hk e.symm
          | succ i' => exact h6 i' (by omega) p (by simpa using hp)

/-- m[k] = v -/
theorem Eff.mapUpdate {x y z : Operand} {t kt et : TypeId} {i : Nat} {l : List (Int × AV)} {m : Int} {v : AV} (hx : δ.ev x = .mapr i) (hob : δ.ob i = some (.mp (mpI l))) (hy : δ.ev y = litI m) (hz : δ.ev z = v) (hvn : v.noOwn = true) (ht : P.underlying t = some (.map kt et)) (hk : P.underlying kt = some (.int .i64))
    (ho : okT x = true) (ho' : okT y = true) (hoz : okT z = true) (hd : okD δ.n dst = true) (hwk : g.wtOk i) :
    Eff P g ⟨dst, .mapUpdate t x y z, ty, pos, af, gd⟩ δ ((δ.setOb i (some (.mp (mpI (updI l m v))))).putd dst .any) := by
  intro κ a w r
  obtain ⟨b, es, clock, h1, h2, h3, h4, h5, hnoo⟩ := r.mpo (r.ra hx ho) hob
  obtain ⟨h6, h7⟩ := h4.mpI
  have hzv := r.ra hz hoz
  have hik : MapKept.IsKey (.int .i64) (.int .i64 m) := by simp [MapKept.IsKey]
  have hck : ∀ e, (Instr.checkKey e (9999 + 1) kt (.int .i64 m)).run P w = .ok () w := fun e => MapKept.run_checkKey hk hik e 9999
  rcases findNow_first m es.toList l 0 h6 h7 with ⟨h8, h9⟩ | ⟨j, e, u, h9, h10, h11, h12, h13⟩
  · have hrun : (execOp a.eval ⟨dst, .mapUpdate t x y z, ty, pos, af, gd⟩).run P w = .ok .skip { w with heap := w.heap.setIfInBounds b (.map (es.push { key := .int .i64 m, val := a.eval z, born := clock }) (clock + 1)) } := by
      simp [execOp, r.lit hy ho', h1, Instr.mapUpdate, run_underlying ht, MapKept.run_getObj_map h3, hck, run_findMap hk h9, MapKept.run_setObj_map _ h3]
    obtain ⟨r', G⟩ := r.modify (o' := .mp (mpI (updI l m v))) hob rfl rfl h2 hwk (Turns.setHeap w b (.map (es.push { key := .int .i64 m, val := a.eval z, born := clock }) (clock + 1))) (by simp) (fun C hC G => by
      have h14 : MapIs C { w with heap := w.heap.setIfInBounds b (.map (es.push { key := .int .i64 m, val := a.eval z, born := clock }) (clock + 1)) } es (mpI l) := h4.goes G
      obtain ⟨h15, h16⟩ := h14.push h5 m (G.ra hzv)
      rw [updI_none h8]
      exact ⟨b, _, _, by rw [hC]; exact h2, setHeap_same h3, h15, h16, fun p hp => by
        rw [mpI_append] at hp
        rcases List.mem_append.1 hp with hp | hp
        · exact hnoo p hp
        · simp [mpI] at hp; subst hp; exact hvn⟩)
    exact .inl ⟨_, _, _, _, hrun, .inr ⟨rfl, rfl⟩, r'.putd (okD_spec hd) (.any _)⟩
  · rw [Nat.zero_add] at h9
    have hej : es[j]? = some e := by simpa using h10
    have hrun : (execOp a.eval ⟨dst, .mapUpdate t x y z, ty, pos, af, gd⟩).run P w = .ok .skip { w with heap := w.heap.setIfInBounds b (.map (es.modify j fun e => { e with key := .int .i64 m, val := a.eval z }) clock) } := by
      simp [execOp, r.lit hy ho', h1, Instr.mapUpdate, run_underlying ht, MapKept.run_getObj_map h3, hck, run_findMap hk h9, hej, h12, MapKept.run_keyThatStays hik, MapKept.run_setObj_map _ h3]
    obtain ⟨r', G⟩ := r.modify (o' := .mp (mpI (updI l m v))) hob rfl rfl h2 hwk (Turns.setHeap w b (.map (es.modify j fun e => { e with key := .int .i64 m, val := a.eval z }) clock)) (by simp) (fun C hC G => by
      rw [updI_at h11 h13]
      refine ⟨b, _, _, by rw [hC]; exact h2, setHeap_same h3, ⟨by have := h4.1; simp [mpI] at this ⊢; exact this, fun k e' p h14 h15 => ?_⟩, ⟨by simp [h5.1], fun k e' h14 => ?_⟩, fun p hp => ?_⟩
      · rw [Array.getElem?_modify] at h14
        simp only [mpI, List.map_set] at h15
        rw [List.getElem?_set] at h15
        by_cases hjk : j = k
        · subst hjk
          rw [if_pos rfl, Option.map_eq_some_iff] at h14
          obtain ⟨e0, h14, rfl⟩ := h14
          rw [if_pos rfl] at h15
          split at h15
          · cases h15; exact ⟨rfl, G.ra hzv⟩
          · cases h15
        · rw [if_neg hjk] at h14 h15
          obtain ⟨h16, h17⟩ := h4.2 k e' p h14 h15
          exact ⟨h16, G.ra h17⟩
      · rw [Array.getElem?_modify] at h14
        by_cases hjk : j = k
        · rw [if_pos hjk, Option.map_eq_some_iff] at h14
          obtain ⟨e0, h14, rfl⟩ := h14
          exact h5.2 k e0 h14
        · rw [if_neg hjk] at h14; exact h5.2 k e' h14
      · simp only [mpI, List.map_set] at hp
        rcases List.mem_or_eq_of_mem_set hp with hp | rfl
        · exact hnoo p hp
        · exact hvn)
    exact .inl ⟨_, _, _, _, hrun, .inr ⟨rfl, rfl⟩, r'.putd (okD_spec hd) (.any _)⟩
/-- an element of a set, once. -/
def insU (xs : List Int) (m : Int) : List Int := if m ∈ xs then xs else xs ++ [m]
theorem updI_set : ∀ (xs : List Int) (m : Int), updI (setI xs) m (litB true) = setI (insU xs m)
  | [], m => rfl
  | x :: xs, m => by
    have ih := updI_set xs m
    show updI ((x, litB true) :: setI xs) m (litB true) = _
    by_cases h : m = x
    · subst h; simp [updI, insU, setI]
    · rw [updI, if_neg h, ih]
      by_cases h2 : m ∈ xs
      · simp [insU, h2, setI]
      · simp [insU, h2, h, setI]
theorem AOps.mapUpdate_set {x y z : Operand} {t kt et : TypeId} {i : Nat} {xs : List Int} {m : Int} (hx : δ.ev x = .mapr i) (hob : δ.ob i = some (.mp (mpI (setI xs)))) (hy : δ.ev y = litI m) (hz : δ.ev z = litB true) (ht : P.underlying t = some (.map kt et)) (hk : P.underlying kt = some (.int .i64))
    (ho : okT x = true) (ho' : okT y = true) (hoz : okT z = true) (hd : okD δ.n dst = true) (hwt : g.wt = none)
    (hK : AOps .plain P g ops rest Q ((δ.setOb i (some (.mp (mpI (setI (insU xs m)))))).putd dst .any)) : AOps .plain P g ops (⟨dst, .mapUpdate t x y z, ty, pos, af, none⟩ :: rest) Q δ :=
  AOps.eff rfl rfl (Eff.mapUpdate hx hob hy hz rfl ht hk ho ho' hoz hd (wtOk_none hwt i)) (by rw [updI_set]; exact hK)
theorem AOps.mapUpdate_new {x y z : Operand} {t kt et : TypeId} {i : Nat} {l : List (Int × AV)} {m : Int} {v : AV} (hx : δ.ev x = .mapr i) (hob : δ.ob i = some (.mp (mpI l))) (hy : δ.ev y = litI m) (hz : δ.ev z = v) (hvn : v.noOwn = true) (ht : P.underlying t = some (.map kt et)) (hk : P.underlying kt = some (.int .i64))
    (ho : okT x = true) (ho' : okT y = true) (hoz : okT z = true) (hd : okD δ.n dst = true) (hwt : g.wt = none) (hn : lookI l m = none)
    (hK : AOps .plain P g ops rest Q ((δ.setOb i (some (.mp (mpI (l ++ [(m, v)]))))).putd dst .any)) : AOps .plain P g ops (⟨dst, .mapUpdate t x y z, ty, pos, af, none⟩ :: rest) Q δ :=
  AOps.eff rfl rfl (Eff.mapUpdate hx hob hy hz hvn ht hk ho ho' hoz hd (wtOk_none hwt i)) (by rw [updI_none hn]; exact hK)

/-- len of a map. -/
theorem AOps.len_mp {x : Operand} {t kt et : TypeId} {i : Nat} {l : List (Int × AV)} (hx : δ.ev x = .mapr i) (hob : δ.ob i = some (.mp (mpI l))) (ht : P.underlying t = some (.map kt et)) (ho : okT x = true) (hd : okD δ.n dst = true)
    (hK : AOps q P g ops rest Q (δ.putd dst (litI (l.length : Nat)))) : AOps q P g ops (⟨dst, .call { callee := .builtin .len, args := #[x], argTypes := #[t] }, ty, pos, af, none⟩ :: rest) Q δ :=
  AOps.valw _ hd (fun κ a w r => by
    obtain ⟨b, es, clock, h1, h2, h3, h4, h5, hnoo⟩ := r.mpo (r.ra hx ho) hob
    have hb : ∀ w', Held δ κ w w' → w'.heap[b]? = some (.map es clock) := fun w' hw' => (hw' b (heap_lt h3) (r.notrow ⟨_, hob, rfl⟩ h2)).trans h3
    have hs : es.size = l.length := by have := h4.1; simpa [mpI] using this
    refine ⟨.int .i64 (l.length : Nat), fun w' hw' => ?_, .pv (.lit _)⟩
    simp [execOp, resolve, invoke, builtin, Builtin.len_, run_underlying ht, h1, MapKept.run_getObj_map (hb w' hw'), goInt, hs]) hK
theorem AOps.len_set {x : Operand} {t kt et : TypeId} {i : Nat} {xs : List Int} (hx : δ.ev x = .mapr i) (hob : δ.ob i = some (.mp (mpI (setI xs)))) (ht : P.underlying t = some (.map kt et)) (ho : okT x = true) (hd : okD δ.n dst = true)
    (hK : AOps q P g ops rest Q (δ.putd dst (litI (xs.length : Nat)))) : AOps q P g ops (⟨dst, .call { callee := .builtin .len, args := #[x], argTypes := #[t] }, ty, pos, af, none⟩ :: rest) Q δ :=
  AOps.len_mp hx hob ht ho hd (by simpa [setI] using hK)

/-! ranging over a map that is told -/
theorem Eff.range_mp {x : Operand} {t kt et : TypeId} {l : List (Value × PV)} (hx : δ.ev x = .pv (.mp l)) (ht : P.underlying t = some (.map kt et)) (ho : okT x = true) (hd : okD δ.n dst = true) :
    Eff P g ⟨dst, .range t x, ty, pos, af, gd⟩ δ ((δ.addOb (.it l [])).putd dst (.ptr δ.nx 0)) := by
  intro κ a w r
  have h1 := r.ra hx ho
  generalize hu : a.eval x = u at h1
  cases h1 with
  | pv h1 =>
    cases h1 with
    | mp m clock es hN hb hh hs hst hk hr =>
      have hrun : (execOp a.eval ⟨dst, .range t x, ty, pos, af, gd⟩).run P w = .ok (.value (.pointer (some ⟨w.heap.size, 0, none⟩))) (w.alloc (.mapIter (some m) clock #[] clock)) := by
        simp [execOp, hu, run_range_map w t kt et m es clock ht hh]
      obtain ⟨r', G⟩ := r.grow (.it l []) (.mapIter (some m) clock #[] clock) (fun C G hκ => ⟨w.heap.size, hκ, .inr ⟨m, es, clock, (G.N m hb hN).1, Nat.lt_of_lt_of_le hb G.size, (G.N m hb hN).2.trans hh, hs, hst,
        fun j e p h2 h3 => ⟨hk j e p h2 h3, G.rp (hr j e p h2 h3)⟩, heap_alloc_new w _, by simp⟩⟩)
      exact .inl ⟨_, _, _, _, hrun, .inl rfl, r'.putd (okD_spec hd) (.ptr ⟨_, by show (δ.addOb _).ob _ = _; rw [ob_addOb, if_pos rfl], rfl⟩ (by show upd _ _ _ _ = _; simp [upd]))⟩
theorem AOps.range_mp {x : Operand} {t kt et : TypeId} {l : List (Value × PV)} (hx : δ.ev x = .pv (.mp l)) (ht : P.underlying t = some (.map kt et)) (ho : okT x = true) (hd : okD δ.n dst = true)
    (hK : AOps .plain P g ops rest Q ((δ.addOb (.it l [])).putd dst (.ptr δ.nx 0))) : AOps .plain P g ops (⟨dst, .range t x, ty, pos, af, none⟩ :: rest) Q δ := AOps.eff rfl rfl (Eff.range_mp hx ht ho hd) hK
theorem AOps.range_nil {x : Operand} {t kt et : TypeId} (hx : δ.ev x = .pv (.lit (.map none))) (ht : P.underlying t = some (.map kt et)) (ho : okT x = true) (hd : okD δ.n dst = true)
    (hK : AOps .plain P g ops rest Q ((δ.addOb (.it [] [])).putd dst (.ptr δ.nx 0))) : AOps .plain P g ops (⟨dst, .range t x, ty, pos, af, none⟩ :: rest) Q δ := by
  refine AOps.eff rfl rfl ?_ hK
  intro κ a w r
  have hrun : (execOp a.eval ⟨dst, .range t x, ty, pos, af, none⟩).run P w = .ok (.value (.pointer (some ⟨w.heap.size, 0, none⟩))) (w.alloc (.mapIter none 0 #[] 0)) := by
    simp [execOp, r.lit hx ho, run_range_nilMap w t kt et ht]
  obtain ⟨r', G⟩ := r.grow (.it [] []) (.mapIter none 0 #[] 0) (fun C G hκ => ⟨w.heap.size, hκ, .inl ⟨rfl, heap_alloc_new w _⟩⟩)
  exact .inl ⟨_, _, _, _, hrun, .inl rfl, r'.putd (okD_spec hd) (.ptr ⟨_, by show (δ.addOb _).ob _ = _; rw [ob_addOb, if_pos rfl], rfl⟩ (by show upd _ _ _ _ = _; simp [upd]))⟩

theorem Rel.ito (r : Rel g δ κ a w) {u : Value} {i : Nat} {l : List (Value × PV)} {seen : List Nat} (h : RA (δ.cx g κ) w u (.ptr i 0)) (ho : δ.ob i = some (.it l seen)) :
    ∃ b, u = .pointer (some ⟨b, 0, none⟩) ∧ κ i = some b ∧ ItIs (δ.cx g κ).N w b l seen := by
  cases h with
  | @ptr _ _ b hl hκ =>
    obtain ⟨b', h1, h2⟩ := r.obj i _ ho
    have : b' = b := Option.some.inj (h1.symm.trans hκ)
    subst this
    exact ⟨b', rfl, h1, h2⟩
theorem ra_tup3 {C : Cx} {w : World} {u1 u2 u3 : Value} {v1 v2 v3 : AV} (h1 : RA C w u1 v1) (h2 : RA C w u2 v2) (h3 : RA C w u3 v3) : RA C w (.tuple #[u1, u2, u3]) (.tup [v1, v2, v3]) := ra_three h1 h2 h3
theorem stamps_nodup {es : Array MapEntry} {clock : Nat} (h : Stamps es clock) : (es.toList.map (·.born)).Nodup := by
  have : es.toList.map (·.born) = List.range es.size := by
    apply List.ext_getElem?
    intro j
    rw [List.getElem?_map, Array.getElem?_toList]
    by_cases hj : j < es.size
    · rw [Array.getElem?_eq_getElem hj, Option.map_some, h.2 j _ (Array.getElem?_eq_getElem hj), List.getElem?_range hj]
    · rw [Array.getElem?_eq_none (by omega), List.getElem?_eq_none (by simpa using hj)]; rfl
  rw [this]; exact List.nodup_range

/-- the next entry: whichever is left. -/
theorem AOps.next {x : Operand} {i : Nat} {l : List (Value × PV)} {seen : List Nat} (hx : δ.ev x = .ptr i 0) (hob : δ.ob i = some (.it l seen)) (ho : okT x = true) (hd : okD δ.n dst = true) (hwt : g.wt = none)
    (hK0 : (∀ j, j < l.length → j ∈ seen) → AOps .plain P g ops rest Q (δ.putd dst (.tup [litB false])))
    (hK1 : ∀ j (hj : j < l.length), j ∉ seen → AOps .plain P g ops rest Q ((δ.setOb i (some (.it l (seen ++ [j])))).putd dst (.tup [litB true, .pv (.lit l[j].1), .pv l[j].2]))) :
    AOps .plain P g ops (⟨dst, .next x false, ty, pos, af, none⟩ :: rest) Q δ := by
  intro κ a w r
  obtain ⟨b, hv, h2, h3⟩ := r.ito (r.ra hx ho) hob
  show wpListIn _ _ P ops _ (_ :: rest) a w
  refine wpl_plain rfl rfl fun K hK' => ?_
  unfold Oper.wpF
  rcases h3 with ⟨rfl, h3⟩ | ⟨m, es, clock, hN, hm, hh, hs, hst, hkv, hit, hsl⟩
  · have hrun : (execOp a.eval ⟨dst, .next x false, ty, pos, af, none⟩).run P w = .ok (.value (.tuple #[.bool false])) w := by
      have : (Instr.next (.pointer (some ⟨b, 0, none⟩)) false ty).run P w = .ok (.tuple #[.bool false]) w := by
        simp only [Instr.next, getObj, Sem.run_bind, Sem.run, h3, Result.andThen]
        rfl
      simp [execOp, hv, this]
    rw [hrun, Oper.uponIn_value]
    exact hK' _ _ (hK0 (by simp) κ _ _ (r.putd (okD_spec hd) (.tup rfl fun j u c h4 h5 => by
      cases j with
      | zero => simp at h4 h5; subst h4; subst h5; exact .pv (.lit _)
      | succ j => simp at h5)))
  · have hold : ∀ e ∈ es.toList, e.born < clock := by
      intro e he
      obtain ⟨j, hj⟩ := List.getElem?_of_mem he
      have hj' : es[j]? = some e := by simpa using hj
      rw [hst.2 j e hj', hst.1]
      exact (Array.getElem?_eq_some_iff.1 hj').1
    rcases run_next_at (P := P) w ty b m clock clock seen.toArray es clock hit hh hold (Nat.le_refl _) with ⟨h4, h5⟩ | ⟨e, he, w1, hw1, h5⟩
    · have hrun : (execOp a.eval ⟨dst, .next x false, ty, pos, af, none⟩).run P w = .ok (.value (.tuple #[.bool false])) w := by simp [execOp, hv, h5]
      rw [hrun, Oper.uponIn_value]
      have hall := all_seen es seen.toArray h4
      exact hK' _ _ (hK0 (fun j hj => by
        have hj2 : j < es.size := by omega
        have := hall es[j] (by simp)
        rw [hst.2 j _ (Array.getElem?_eq_getElem hj2)] at this
        simpa using this) κ _ _ (r.putd (okD_spec hd) (.tup rfl fun j u c h4 h5 => by
        cases j with
        | zero => simp at h4 h5; subst h4; subst h5; exact .pv (.lit _)
        | succ j => simp at h5)))
    · obtain ⟨he1, he2⟩ := mem_left he
      obtain ⟨j, hj⟩ := List.getElem?_of_mem he1
      have hj' : es[j]? = some e := by simpa using hj
      have hb := hst.2 j e hj'
      have hjl : j < l.length := by rw [← hs]; exact (Array.getElem?_eq_some_iff.1 hj').1
      have hns : j ∉ seen := by rw [hb] at he2; simpa using he2
      obtain ⟨hke, hre⟩ := hkv j e _ hj' (List.getElem?_eq_getElem hjl)
      have hrun : (execOp a.eval ⟨dst, .next x false, ty, pos, af, none⟩).run P w = .ok (.value (.tuple #[.bool true, e.key, e.val])) (ChangeMaps.setBlock w1 b (.mapIter (some m) clock (seen.toArray.push e.born) clock)) := by simp [execOp, hv, h5]
      rw [hrun, Oper.uponIn_value]
      have hbel : Below w.heap.size w w1 := by
        rcases hw1 with rfl | rfl
        · exact Below.refl _ _
        · exact Below.drew (Below.refl _ _)
      have r1 := r.ext hbel
      have hh1 : w1.heap = w.heap := by rcases hw1 with rfl | rfl <;> rfl
      have hlt : b < w1.heap.size := by rw [hh1]; exact heap_lt hit
      obtain ⟨r2, G⟩ := r1.modify (o' := .it l (seen ++ [j])) hob rfl rfl h2 (wtOk_none hwt i) (Turns.setHeap w1 b (.mapIter (some m) clock (seen.toArray.push e.born) clock)) (by simp) (fun C hC G => by
        have hN1 := G.N m (by rw [hh1]; exact hm) hN
        refine ⟨b, by rw [hC]; exact h2, .inr ⟨m, es, clock, hN1.1, by simp [hh1]; exact hm, by rw [hN1.2, hh1]; exact hh, hs, hst, fun j e p h6 h7 => ⟨(hkv j e p h6 h7).1, ?_⟩, ?_, fun k hk => ?_⟩⟩
        · have h8 := (hkv j e p h6 h7).2
          refine h8.mono (by simp [hh1]) fun b' hb' hN' => ?_
          have := G.N b' (by rw [hh1]; exact hb') hN'
          exact ⟨this.1, by rw [this.2, hh1]⟩
        · rw [setHeap_same (o := .mapIter (some m) clock seen.toArray clock) (by rw [hh1]; exact hit)]
          rw [hb]; simp
        · rcases List.mem_append.1 hk with hk | hk
          · exact hsl k hk
          · simp at hk; subst hk; exact hjl)
      refine hK' _ _ (hK1 j hjl hns κ _ _ (r2.putd (okD_spec hd) (ra_tup3 (.pv (.lit _)) ?_ ?_)))
      · rw [hke]; exact .pv (.lit _)
      · refine .pv (hre.mono (by simp [hh1]) fun b' hb' hN' => ?_)
        have := G.N b' (by rw [hh1]; exact hb') hN'
        exact ⟨this.1, by rw [this.2, hh1]⟩

/-- the round's entry. -/
theorem AOps.entry {x : Operand} {i j : Nat} {l : List (Value × PV)} {seen : List Nat} (hx : δ.ev x = .ptr i 0) (hob : δ.ob i = some (.it l (seen ++ [j]))) (ho : okT x = true) (hd : okD δ.n dst = true) (hq : q ≠ .held) (hj : j < l.length)
    (hK : AOps q P g ops rest Q (δ.putd dst (.tup [.pv (.lit l[j].1), .pv l[j].2]))) :
    AOps q P g ops (⟨dst, .entry x, ty, pos, af, none⟩ :: rest) Q δ :=
  AOps.valB _ hq rfl rfl hd (fun κ a w r => by
    obtain ⟨b, hv, h2, h3⟩ := r.ito (r.ra hx ho) hob
    rcases h3 with ⟨rfl, h3⟩ | ⟨m, es, clock, hN, hm, hh, hs, hst, hkv, hit, hsl⟩
    · simp at hj
    · have hje : j < es.size := by omega
      have hge := Array.getElem?_eq_getElem hje
      obtain ⟨h4, h5⟩ := hkv j _ _ hge (List.getElem?_eq_getElem hj)
      have hb := hst.2 j _ hge
      refine ⟨.tuple #[es[j].key, es[j].val], fun w' hw' => ?_, ra_two (by rw [h4]; exact .pv (.lit _)) (.pv h5)⟩
      have h6 : w'.heap[b]? = some (.mapIter (some m) clock (seen.toArray.push es[j].born) clock) := by
        rw [hw'.block b (heap_lt hit), hit, hb]; simp
      have h7 : w'.heap[m]? = some (.map es clock) := (hw'.block m hm).trans hh
      have := run_entry_at (P := P) w' b m clock seen.toArray es clock es[j] h6 h7 (by simp) (stamps_nodup hst)
      simp [execOp, hv, this]) hK

/-! weakening -/
def setP (xs : List Int) : List (Value × PV) := xs.map fun x => (.int .i64 x, .lit (.bool true))
theorem WV.fset {δ δ' : DS} {i : Nat} {xs : List Int} (hb : δ.ob i = some (.mp (mpI (setI xs)))) (hd : δ'.ob i = none) : WV δ δ' (.mapr i) (.pv (.mp (setP xs))) := by
  refine .fmap hb hd (by simp [mpI, setI, setP]) fun j p p' h1 h2 => ?_
  simp only [mpI, setI, setP, List.map_map, List.getElem?_map, Option.map_eq_some_iff] at h1 h2
  obtain ⟨x, hx, rfl⟩ := h1
  obtain ⟨y, hy, rfl⟩ := h2
  rw [hx] at hy; cases hy
  exact ⟨rfl, .pv _⟩
theorem setP_at {xs : List Int} {j : Nat} (h : j < (setP xs).length) (h' : j < xs.length) : (setP xs)[j] = (.int .i64 xs[j], .lit (.bool true)) := by simp [setP]
theorem AOps.nextSet {x : Operand} {i : Nat} {xs : List Int} {seen : List Nat} (hx : δ.ev x = .ptr i 0) (hob : δ.ob i = some (.it (setP xs) seen)) (ho : okT x = true) (hd : okD δ.n dst = true) (hwt : g.wt = none)
    (hK0 : (∀ j, j < xs.length → j ∈ seen) → AOps .plain P g ops rest Q (δ.putd dst (.tup [litB false])))
    (hK1 : ∀ jj : { j : Nat // j < xs.length ∧ j ∉ seen }, AOps .plain P g ops rest Q ((δ.setOb i (some (.it (setP xs) (seen ++ [jj.1])))).putd dst (.tup [litB true, litI (xs[jj.1]'jj.2.1), litB true]))) :
    AOps .plain P g ops (⟨dst, .next x false, ty, pos, af, none⟩ :: rest) Q δ :=
  AOps.next hx hob ho hd hwt (fun h => hK0 fun j hj => h j (by simpa [setP] using hj)) (fun j hj hn => by
    have hj' : j < xs.length := by simpa [setP] using hj
    rw [setP_at hj hj']
    exact hK1 ⟨j, hj', hn⟩)
theorem AOps.entrySet {x : Operand} {i j : Nat} {xs : List Int} {seen : List Nat} (hx : δ.ev x = .ptr i 0) (hob : δ.ob i = some (.it (setP xs) (seen ++ [j]))) (ho : okT x = true) (hd : okD δ.n dst = true) (hq : q ≠ .held) (hj : j < xs.length)
    (hK : AOps q P g ops rest Q (δ.putd dst (.tup [litI xs[j], litB true]))) :
    AOps q P g ops (⟨dst, .entry x, ty, pos, af, none⟩ :: rest) Q δ :=
  AOps.entry hx hob ho hd hq (by simpa [setP] using hj) (by
    have hj2 : j < (setP xs).length := by simpa [setP] using hj
    have h1 := setP_at hj2 hj
    rw [h1]
    exact hK)
theorem AOps.makeSet {t : TypeId} (hd : okD δ.n dst = true) (hK : AOps .plain P g ops rest Q ((δ.addOb (.mp (mpI (setI [])))).putd dst (.mapr δ.nx))) : AOps .plain P g ops (⟨dst, .makeMap t none, ty, pos, af, none⟩ :: rest) Q δ := AOps.makeMap hd hK
theorem Nf.mOi (f : AV → AV) (i : Nat) (l : List (Value × PV)) (seen : List Nat) (r : List (Nat × Option Ob)) : Nf.mapO f ((i, some (.it l seen)) :: r) = (i, some (.it l seen)) :: Nf.mapO f r := rfl
theorem WV.nilownE {δ δ' : DS} {i e k} {els : List (List PV)} (he : els = []) (h : δ'.lrB i = true) (hn : δ.ob i = none) : WV δ δ' (.pv (.lit (.slice none 0 0))) (.own i e k els) := by rw [he]; exact .nilown i e k h hn
end Go.Ab
