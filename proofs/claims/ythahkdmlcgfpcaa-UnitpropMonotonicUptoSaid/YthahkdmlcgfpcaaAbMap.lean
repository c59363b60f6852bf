/- Maps with whole numbers as keys: read, grown, written. -/
import Derived.Test.YthahkdmlcgfpcaaAbInline
import Derived.Test.YthahkdmlcgfpcaaAbDraw
import Derived.MapKept
set_option linter.unusedSimpArgs false
set_option linter.unusedVariables false
namespace Go.Ab
open Go Go.RowKit
variable {q : Md} {P : Program} {g : Ghost} {δ : DS} {κ : Nat → Option Nat} {a : Act} {w : World}
variable {gd : Option (Tmp × Bool)} {ops : Array Oper} {rest : List Oper} {Q : Exit → DS → Prop} {dst : Option Nat} {ty : TypeId} {pos : String} {af : Array Edge}

/-- what stands at a key. -/
def lookI : List (Int × AV) → Int → Option AV
  | [], _ => none
  | (k, v) :: l, m => if m = k then some v else lookI l m
def mpI (l : List (Int × AV)) : List (Value × AV) := l.map fun p => (.int .i64 p.1, p.2)
def setI (xs : List Int) : List (Int × AV) := xs.map fun x => (x, litB true)

theorem lookI_set (xs : List Int) (m : Int) : lookI (setI xs) m = if m ∈ xs then some (litB true) else none := by
  induction xs with
  | nil => rfl
  | cons x xs ih =>
    show (if m = x then some (litB true) else lookI (setI xs) m) = _
    by_cases h : m = x
    · simp [h]
    · simp [h, ih]

theorem findNow_mp {C : Cx} {w : World} (m : Int) : ∀ (es : List MapEntry) (l : List (Int × AV)) (i : Nat), es.length = l.length →
    (∀ (j : Nat) (e : MapEntry) (p : Int × AV), es[j]? = some e → l[j]? = some p → e.key = .int .i64 p.1 ∧ RA C w e.val p.2) →
    (lookI l m = none ∧ Instr.findNow (.int .i64) (.int .i64 m) es i = some none) ∨
    (∃ (j : Nat) (e : MapEntry) (v : AV), lookI l m = some v ∧ Instr.findNow (.int .i64) (.int .i64 m) es i = some (some (i + j, e.val)) ∧ es[j]? = some e ∧ l[j]? = some (m, v) ∧ RA C w e.val v) := by
  intro es
  induction es with
  | nil => intro l i hs _; have : l = [] := List.eq_nil_of_length_eq_zero hs.symm; subst this; exact .inl ⟨rfl, rfl⟩
  | cons e es ih =>
    intro l i hs h
    cases l with
    | nil => simp at hs
    | cons p l =>
      obtain ⟨k, v⟩ := p
      have h0 := h 0 e (k, v) rfl rfl
      by_cases hk : m = k
      · subst hk
        refine .inr ⟨0, e, v, by simp [lookI], ?_, rfl, rfl, h0.2⟩
        simp [Instr.findNow, h0.1, Instr.sameNow]
      · have hf : Instr.findNow (.int .i64) (.int .i64 m) (e :: es) i = Instr.findNow (.int .i64) (.int .i64 m) es (i + 1) := by
          have hb : (m == k) = false := by simp [hk]
          simp [Instr.findNow, h0.1, Instr.sameNow, hb]
        rcases ih l (i + 1) (by simpa using hs) (fun j e p h1 h2 => h (j + 1) e p (by simpa using h1) (by simpa using h2)) with ⟨h1, h2⟩ | ⟨j, e', v', h1, h2, h3, h4, h5⟩
        · exact .inl ⟨by simp [lookI, hk, h1], hf.trans h2⟩
        · exact .inr ⟨j + 1, e', v', by simp [lookI, hk, h1], by rw [hf, h2]; simp; omega, by simpa using h3, by simpa using h4, h5⟩

theorem Rel.mpo (r : Rel g δ κ a w) {u : Value} {i : Nat} {l : List (Value × AV)} (h : RA (δ.cx g κ) w u (.mapr i)) (ho : δ.ob i = some (.mp l)) :
    ∃ b es clock, u = .map (some b) ∧ κ i = some b ∧ w.heap[b]? = some (.map es clock) ∧ MapIs (δ.cx g κ) w es l ∧ Stamps es clock ∧ ∀ p ∈ l, p.2.noOwn = true := by
  cases h with
  | @mapr _ b hl hκ =>
    obtain ⟨b', es, clock, h1, h2, h3, h4⟩ := r.obj i _ ho
    have : b' = b := Option.some.inj (h1.symm.trans hκ)
    subst this
    exact ⟨b', es, clock, rfl, h1, h2, h3, h4⟩

theorem MapIs.mpI {C : Cx} {w : World} {es : Array MapEntry} {l : List (Int × AV)} (h : MapIs C w es (mpI l)) :
    es.toList.length = l.length ∧ ∀ (j : Nat) (e : MapEntry) (p : Int × AV), es.toList[j]? = some e → l[j]? = some p → e.key = .int .i64 p.1 ∧ RA C w e.val p.2 := by
  refine ⟨by simpa [Ab.mpI] using h.1, fun j e p h1 h2 => ?_⟩
  exact h.2 j e (.int .i64 p.1, p.2) (by simpa using h1) (by simp [Ab.mpI, h2])

theorem run_findMap {kt : TypeId} {es : Array MapEntry} {m : Int} {x : Option (Nat × Value)} (hk : P.underlying kt = some (.int .i64)) (h : Instr.findNow (.int .i64) (.int .i64 m) es.toList 0 = some x) (w : World) : (Instr.findKey kt (.int .i64 m) es.toList).run P w = .ok x w := MapKept.run_findKey hk h

theorem run_lookup {t kt et : TypeId} {b : Nat} {es : Array MapEntry} {clock : Nat} {m : Int} {z : Value} {x : Option (Nat × Value)} {w : World} (ht : P.underlying t = some (.map kt et)) (hk : P.underlying kt = some (.int .i64)) (hz : (P.info? et).bind (·.zero) = some z)
    (hb : w.heap[b]? = some (.map es clock)) (h : Instr.findNow (.int .i64) (.int .i64 m) es.toList 0 = some x) (ok : Bool) :
    (Instr.lookup t (.map (some b)) (.int .i64 m) ok).run P w = .ok (if ok then .tuple #[(x.map (·.2)).getD z, .bool x.isSome] else (x.map (·.2)).getD z) w := by
  have hzr : ∀ w, (zeroValue et).run P w = .ok z w := fun w => by
    cases hi : P.info? et with
    | none => rw [hi] at hz; simp at hz
    | some i => rw [hi] at hz; simp at hz; simp [zeroValue, typeInfo, hi, hz]
  have hck : ∀ e, (Instr.checkKey e (9999 + 1) kt (.int .i64 m)).run P w = .ok () w := fun e => MapKept.run_checkKey hk (by simp [MapKept.IsKey]) e 9999
  cases x with
  | none => simp [Instr.lookup, run_underlying ht, MapKept.run_getObj_map hb, hck, run_findMap hk h, hzr]
  | some p => simp [Instr.lookup, run_underlying ht, MapKept.run_getObj_map hb, hck, run_findMap hk h]

/-- m[k] -/
theorem AOps.lookup {x y : Operand} {t kt et : TypeId} {i : Nat} {l : List (Int × AV)} {m : Int} {z : Value} {v : AV} (hx : δ.ev x = .mapr i) (hob : δ.ob i = some (.mp (mpI l))) (hy : δ.ev y = litI m) (ht : P.underlying t = some (.map kt et)) (hk : P.underlying kt = some (.int .i64)) (hz : (P.info? et).bind (·.zero) = some z)
    (hv : (lookI l m).getD (.pv (.lit z)) = v) (ho : okT x = true) (ho' : okT y = true) (hd : okD δ.n dst = true) (hK : AOps q P g ops rest Q (δ.putd dst v)) : AOps q P g ops (⟨dst, .lookup t x y false, ty, pos, af, none⟩ :: rest) Q δ :=
  AOps.valw _ hd (fun κ a w r => by
    obtain ⟨b, es, clock, h1, h2, h3, h4, h5, hnoo⟩ := r.mpo (r.ra hx ho) hob
    obtain ⟨h6, h7⟩ := h4.mpI
    have hb : ∀ w', Held δ κ w w' → w'.heap[b]? = some (.map es clock) := fun w' hw' => (hw' b (heap_lt h3) (r.notrow ⟨_, hob, rfl⟩ h2)).trans h3
    subst hv
    rcases findNow_mp m es.toList l 0 h6 h7 with ⟨h8, h9⟩ | ⟨j, e, v', h8, h9, h10, h11, h12⟩
    · refine ⟨z, fun w' hw' => ?_, by rw [h8]; exact .pv (.lit _)⟩
      have := run_lookup ht hk hz (hb w' hw') h9 false
      simp [execOp, r.lit hy ho', h1, this]
    · refine ⟨e.val, fun w' hw' => ?_, by rw [h8]; exact h12⟩
      have := run_lookup ht hk hz (hb w' hw') h9 false
      simp [execOp, r.lit hy ho', h1, this]) hK
theorem AOps.lookup_set {x y : Operand} {t kt et : TypeId} {i : Nat} {xs : List Int} {m : Int} (hx : δ.ev x = .mapr i) (hob : δ.ob i = some (.mp (mpI (setI xs)))) (hy : δ.ev y = litI m) (ht : P.underlying t = some (.map kt et)) (hk : P.underlying kt = some (.int .i64)) (hz : (P.info? et).bind (·.zero) = some (.bool false))
    (ho : okT x = true) (ho' : okT y = true) (hd : okD δ.n dst = true) (hK : AOps q P g ops rest Q (δ.putd dst (litB (decide (m ∈ xs))))) : AOps q P g ops (⟨dst, .lookup t x y false, ty, pos, af, none⟩ :: rest) Q δ :=
  AOps.lookup hx hob hy ht hk hz (by rw [lookI_set]; by_cases h : m ∈ xs <;> simp [h]) ho ho' hd hK

/-- map[K]V{} -/
theorem Eff.makeMap {t : TypeId} (hd : okD δ.n dst = true) : Eff P g ⟨dst, .makeMap t none, ty, pos, af, gd⟩ δ ((δ.addOb (.mp (mpI []))).putd dst (.mapr δ.nx)) := by
  intro κ a w r
  have hrun : (execOp a.eval ⟨dst, .makeMap t none, ty, pos, af, gd⟩).run P w = .ok (.value (.map (some w.heap.size))) (w.alloc (.map #[] 0)) := by
    have h0 : (Instr.makeMap t none).run P w = .ok (.map (some w.heap.size)) (w.alloc (.map #[] 0)) := rfl
    simp [execOp, h0]
  obtain ⟨r', G⟩ := r.grow (.mp (mpI [])) (.map #[] 0) (fun C G hκ => ⟨w.heap.size, #[], 0, hκ, heap_alloc_new w _, ⟨rfl, fun j e p h => by simp at h⟩, ⟨rfl, fun j e h => by simp at h⟩, fun p h => by simp [mpI] at h⟩)
  refine .inl ⟨_, _, _, _, hrun, .inl rfl, r'.putd (okD_spec hd) ?_⟩
  exact .mapr ⟨_, by show (δ.addOb _).ob _ = _; rw [ob_addOb, if_pos rfl], rfl⟩ (by show upd _ _ _ _ = _; simp [upd])
theorem AOps.makeMap {t : TypeId} (hd : okD δ.n dst = true) (hK : AOps .plain P g ops rest Q ((δ.addOb (.mp (mpI []))).putd dst (.mapr δ.nx))) : AOps .plain P g ops (⟨dst, .makeMap t none, ty, pos, af, none⟩ :: rest) Q δ := AOps.eff rfl rfl (Eff.makeMap hd) hK

theorem Turns.setHeap (w : World) (b : Nat) (o : Obj) : Turns w { w with heap := w.heap.setIfInBounds b o } (some b) :=
  ⟨rfl, rfl, rfl, by simp, fun k _ h => by
    show (w.heap.setIfInBounds b o)[k]? = _
    rw [Array.getElem?_setIfInBounds, if_neg (fun e => h (by rw [e]))]⟩
theorem setHeap_same {w : World} {b : Nat} {o o' : Obj} (h : w.heap[b]? = some o) : ({ w with heap := w.heap.setIfInBounds b o' } : World).heap[b]? = some o' := (MapKept.heap_set h).1

theorem mpI_append (l l' : List (Int × AV)) : mpI (l ++ l') = mpI l ++ mpI l' := by simp [mpI]

/-- an entry that is new. -/
theorem MapIs.push {C : Cx} {w : World} {es : Array MapEntry} {l : List (Int × AV)} {clock : Nat} (h : MapIs C w es (Ab.mpI l)) (hs : Stamps es clock) (m : Int) {u : Value} {v : AV} (hu : RA C w u v) :
    MapIs C w (es.push { key := .int .i64 m, val := u, born := clock }) (Ab.mpI (l ++ [(m, v)])) ∧ Stamps (es.push { key := .int .i64 m, val := u, born := clock }) (clock + 1) := by
  have hsz : es.size = (Ab.mpI l).length := h.1
  refine ⟨⟨by rw [mpI_append]; simp [hsz, Ab.mpI], fun j e p h1 h2 => ?_⟩, by simp [hs.1], fun j e h1 => ?_⟩
  · rw [mpI_append] at h2
    rw [Array.getElem?_push] at h1
    by_cases hj : j = es.size
    · rw [if_pos hj] at h1
      cases h1
      rw [List.getElem?_append_right (by omega), hj, hsz] at h2
      simp [Ab.mpI] at h2
      subst h2
      exact ⟨rfl, hu⟩
    · rw [if_neg hj] at h1
      have hlt : j < es.size := (Array.getElem?_eq_some_iff.1 h1).1
      rw [List.getElem?_append_left (by omega)] at h2
      exact h.2 j e p h1 h2
  · rw [Array.getElem?_push] at h1
    by_cases hj : j = es.size
    · rw [if_pos hj] at h1; cases h1; rw [hs.1, hj]
    · rw [if_neg hj] at h1; exact hs.2 j e h1

/-- m[k] = .., the entry first: a key that is new. -/
theorem Eff.mapEntry_new {x y : Operand} {t kt et : TypeId} {i : Nat} {l : List (Int × AV)} {m : Int} {z : Value} (hx : δ.ev x = .mapr i) (hob : δ.ob i = some (.mp (mpI l))) (hy : δ.ev y = litI m) (hn : lookI l m = none) (ht : P.underlying t = some (.map kt et)) (hk : P.underlying kt = some (.int .i64)) (hz : (P.info? et).bind (·.zero) = some z)
    (ho : okT x = true) (ho' : okT y = true) (hd : okD δ.n dst = true) (hwk : g.wtOk i) :
    Eff P g ⟨dst, .mapEntry t x y, ty, pos, af, gd⟩ δ ((δ.setOb i (some (.mp (mpI (l ++ [(m, .pv (.lit z))]))))).putd dst (.tup [.pv (.lit z), litI l.length])) := by
  intro κ a w r
  obtain ⟨b, es, clock, h1, h2, h3, h4, h5, hnoo⟩ := r.mpo (r.ra hx ho) hob
  obtain ⟨h6, h7⟩ := h4.mpI
  have hzr : ∀ w, (zeroValue et).run P w = .ok z w := fun w => by
    cases hi : P.info? et with
    | none => rw [hi] at hz; simp at hz
    | some i => rw [hi] at hz; simp at hz; simp [zeroValue, typeInfo, hi, hz]
  have hck : ∀ e, (Instr.checkKey e (9999 + 1) kt (.int .i64 m)).run P w = .ok () w := fun e => MapKept.run_checkKey hk (by simp [MapKept.IsKey]) e 9999
  have hf : Instr.findNow (.int .i64) (.int .i64 m) es.toList 0 = some none := by
    rcases findNow_mp m es.toList l 0 h6 h7 with ⟨h8, h9⟩ | ⟨j, e, v', h8, h9, h10, h11, h12⟩
    · exact h9
    · rw [hn] at h8; cases h8
  have hrun : (execOp a.eval ⟨dst, .mapEntry t x y, ty, pos, af, gd⟩).run P w = .ok (.value (.tuple #[z, .int .i64 clock])) { w with heap := w.heap.setIfInBounds b (.map (es.push { key := .int .i64 m, val := z, born := clock }) (clock + 1)) } := by
    simp [execOp, r.lit hy ho', h1, Instr.mapEntry, run_underlying ht, MapKept.run_getObj_map h3, hck, run_findMap hk hf, hzr, MapKept.run_setObj_map _ h3, goInt]
  have hcl : (clock : Int) = (l.length : Int) := by
    have : es.size = l.length := by simpa using h6
    rw [h5.1, this]
  obtain ⟨r', G⟩ := r.modify (o' := .mp (mpI (l ++ [(m, .pv (.lit z))]))) hob rfl rfl h2 hwk (Turns.setHeap w b (.map (es.push { key := .int .i64 m, val := z, born := clock }) (clock + 1))) (by simp) (fun C hC G => by
    have h8 : MapIs C { w with heap := w.heap.setIfInBounds b (.map (es.push { key := .int .i64 m, val := z, born := clock }) (clock + 1)) } es (mpI l) := h4.goes G
    obtain ⟨h9, h10⟩ := h8.push h5 m (u := z) (v := .pv (.lit z)) (.pv (.lit _))
    exact ⟨b, _, _, by rw [hC]; exact h2, setHeap_same h3, h9, h10, fun p hp => by
      rw [mpI_append] at hp
      rcases List.mem_append.1 hp with hp | hp
      · exact hnoo p hp
      · simp [mpI] at hp; subst hp; rfl⟩)
  refine .inl ⟨_, _, _, _, hrun, .inl rfl, r'.putd (okD_spec hd) ?_⟩
  exact ra_two (.pv (.lit _)) (by rw [hcl]; exact .pv (.lit _))

/-- .., the value behind it. -/
theorem Eff.entryStore_last {x y s : Operand} {t : TypeId} {i n : Nat} {l : List (Int × AV)} {m : Int} {v0 v : AV} (hx : δ.ev x = .mapr i) (hob : δ.ob i = some (.mp (mpI (l ++ [(m, v0)])))) (hs : δ.ev s = litI n) (hn : n = l.length) (hy : δ.ev y = v) (hvn : v.noOwn = true)
    (ho : okT x = true) (hos : okT s = true) (ho' : okT y = true) (hd : okD δ.n dst = true) (hwk : g.wtOk i) :
    Eff P g ⟨dst, .entryStore t x s y, ty, pos, af, gd⟩ δ ((δ.setOb i (some (.mp (mpI (l ++ [(m, v)]))))).putd dst .any) := by
  intro κ a w r
  subst hn
  obtain ⟨b, es, clock, h1, h2, h3, h4, h5, hnoo⟩ := r.mpo (r.ra hx ho) hob
  have hyv := r.ra hy ho'
  have hsz : es.size = l.length + 1 := by have := h4.1; simpa [mpI] using this
  have hfi : es.findIdx? (fun e => (e.born : Int) == (l.length : Int)) = some l.length := by
    rw [Array.findIdx?_eq_some_iff_getElem]
    refine ⟨by omega, ?_, fun j hj => ?_⟩
    · have := h5.2 l.length es[l.length] (Array.getElem?_eq_getElem (by omega))
      simp [this]
    · have := h5.2 j es[j] (Array.getElem?_eq_getElem (by omega))
      simp only [this]
      simp
      omega
  have hrun : (execOp a.eval ⟨dst, .entryStore t x s y, ty, pos, af, gd⟩).run P w = .ok .skip { w with heap := w.heap.setIfInBounds b (.map (es.modify l.length fun e => { e with val := a.eval y }) clock) } := by
    have hai : ∀ w, (asInt (.int .i64 (l.length : Int))).run P w = .ok (l.length : Int) w := fun _ => rfl
    simp only [execOp, r.lit hs hos, h1, Instr.entryStore, Sem.run_bind, MapKept.run_getObj_map h3, Result.andThen_ok, hai, hfi, MapKept.run_setObj_map _ h3, Sem.run_pure]
  obtain ⟨r', G⟩ := r.modify (o' := .mp (mpI (l ++ [(m, v)]))) hob rfl rfl h2 hwk (Turns.setHeap w b (.map (es.modify l.length fun e => { e with val := a.eval y }) clock)) (by simp) (fun C hC G => by
    refine ⟨b, _, _, by rw [hC]; exact h2, setHeap_same h3, ⟨by simp [mpI, hsz], fun j e p h8 h9 => ?_⟩, ⟨by simp [h5.1], fun j e h8 => ?_⟩, fun p hp => ?_⟩
    · rw [Array.getElem?_modify] at h8
      rw [mpI_append] at h9
      by_cases hj : l.length = j
      · rw [if_pos hj] at h8
        subst hj
        rw [Option.map_eq_some_iff] at h8
        obtain ⟨e0, h8, rfl⟩ := h8
        rw [List.getElem?_append_right (by simp [mpI])] at h9
        simp [mpI] at h9
        subst h9
        refine ⟨?_, G.ra hyv⟩
        exact (h4.2 l.length e0 (.int .i64 m, v0) h8 (by rw [mpI_append, List.getElem?_append_right (by simp [mpI])]; simp [mpI])).1
      · rw [if_neg hj] at h8
        have hlt : j < l.length := by have := (Array.getElem?_eq_some_iff.1 h8).1; omega
        rw [List.getElem?_append_left (by simpa [mpI] using hlt)] at h9
        obtain ⟨h10, h11⟩ := h4.2 j e p h8 (by rw [mpI_append, List.getElem?_append_left (by simpa [mpI] using hlt)]; exact h9)
        exact ⟨h10, G.ra h11⟩
    · rw [Array.getElem?_modify] at h8
      by_cases hj : l.length = j
      · rw [if_pos hj] at h8
        rw [Option.map_eq_some_iff] at h8
        obtain ⟨e0, h8, rfl⟩ := h8
        exact h5.2 j e0 h8
      · rw [if_neg hj] at h8; exact h5.2 j e h8
    · rw [mpI_append] at hp
      rcases List.mem_append.1 hp with hp | hp
      · exact hnoo p (by rw [mpI_append]; exact List.mem_append.2 (.inl hp))
      · simp [mpI] at hp; subst hp; exact hvn)
  exact .inl ⟨_, _, _, _, hrun, .inr ⟨rfl, rfl⟩, r'.putd (okD_spec hd) (.any _)⟩

theorem setI_append (xs : List Int) (m : Int) : setI (xs ++ [m]) = setI xs ++ [(m, litB true)] := by simp [setI]

end Go.Ab
namespace Go.Ab
section
variable {q : Md} {P : Program} {g : Ghost} {δ : DS} {ops : Array Oper} {rest : List Oper} {Q : Exit → DS → Prop} {dst : Option Nat} {ty : TypeId} {pos : String} {af : Array Edge}
/-- a function literal with one captured variable. -/
theorem AOps.makeFunc_c {fn : Go.Fn} {x : Operand} {i o : Nat} (hx : δ.ev x = .ptr i o) (ho : okT x = true) (hd : okD δ.n dst = true) (hK : AOps q P g ops rest Q (δ.putd dst (.clo fn [] [.ptr i o]))) : AOps q P g ops (⟨dst, .makeFunc fn #[] #[x], ty, pos, af, none⟩ :: rest) Q δ :=
  AOps.valw _ hd (fun κ a w r => ⟨.func fn #[] #[a.eval x], fun w' _ => by simp [execOp, Instr.makeFunc], .clo rfl (fun j u c h => by simp at h) rfl (fun j u c h1 h2 => by
    match j with
    | 0 => simp at h1 h2; subst h1; subst h2; exact r.ra hx ho
    | j + 1 => simp at h2)⟩) hK
/-- a method value. -/
theorem AOps.makeFunc_f {fn : Go.Fn} {x : Operand} {i o : Nat} (hx : δ.ev x = .ptr i o) (ho : okT x = true) (hd : okD δ.n dst = true) (hK : AOps q P g ops rest Q (δ.putd dst (.clo fn [.ptr i o] []))) : AOps q P g ops (⟨dst, .makeFunc fn #[x] #[], ty, pos, af, none⟩ :: rest) Q δ :=
  AOps.valw _ hd (fun κ a w r => ⟨.func fn #[a.eval x] #[], fun w' _ => by simp [execOp, Instr.makeFunc], .clo rfl (fun j u c h1 h2 => by
    match j with
    | 0 => simp at h1 h2; subst h1; subst h2; exact r.ra hx ho
    | j + 1 => simp at h2) rfl (fun j u c h => by simp at h)⟩) hK
theorem AOps.move_clo {x : Operand} {fn : Go.Fn} {a b : List AV} (hx : δ.ev x = .clo fn a b) (ho : okT x = true) (hd : okD δ.n dst = true) (hK : AOps q P g ops rest Q (δ.putd dst (.clo fn a b))) : AOps q P g ops (⟨dst, .move x, ty, pos, af, none⟩ :: rest) Q δ := AOps.move hx ho hd hK
end
end Go.Ab
namespace Go.Ab
section
variable {P : Program} {δ : DS} {dst : Option Nat} {ty : TypeId} {pos : String} {af : Array Edge} {gd : Option (Tmp × Bool)}
theorem Frees.move_pv {x : Operand} {p : PV} (hx : δ.ev x = .pv p) (ho : okT x = true) : Frees P ⟨dst, .move x, ty, pos, af, gd⟩ δ (.pv p) := fun _ _ a _ r => ⟨a.eval x, fun _ => rfl, hx ▸ r.evc x (okT_spec ho)⟩
theorem Frees.move_ptr {x : Operand} {i o : Nat} (hx : δ.ev x = .ptr i o) (ho : okT x = true) : Frees P ⟨dst, .move x, ty, pos, af, gd⟩ δ (.ptr i o) := fun _ _ a _ r => ⟨a.eval x, fun _ => rfl, hx ▸ r.evc x (okT_spec ho)⟩
theorem Frees.nilCheck {x : Operand} {i o : Nat} (hx : δ.ev x = .ptr i o) (ho : okT x = true) : Frees P ⟨dst, .nilCheck x, ty, pos, af, gd⟩ δ (.ptr i o) := fun _ _ a _ r => by
  have h1 := r.ra hx ho
  generalize hu : a.eval x = u at h1
  cases h1 with
  | ptr hl hκ => exact ⟨_, fun w' => by simp [execOp, hu], .ptr hl hκ⟩
end
section
variable {P : Program} {g : Ghost} {δ : DS} {ops : Array Oper} {rest : List Oper} {Q : Exit → DS → Prop} {dst : Option Nat} {ty : TypeId} {pos : String} {af : Array Edge}
theorem AOps.mapEntry_new {x y : Operand} {t kt et : TypeId} {i : Nat} {xs : List Int} {m : Int} (hx : δ.ev x = .mapr i) (hob : δ.ob i = some (.mp (mpI (setI xs)))) (hy : δ.ev y = litI m) (ht : P.underlying t = some (.map kt et)) (hk : P.underlying kt = some (.int .i64)) (hz : (P.info? et).bind (·.zero) = some (.bool false))
    (ho : okT x = true) (ho' : okT y = true) (hd : okD δ.n dst = true) (hwt : g.wt = none) (hn : m ∉ xs)
    (hK : AOps .plain P g ops rest Q ((δ.setOb i (some (.mp (mpI (setI xs ++ [(m, litB false)]))))).putd dst (.tup [litB false, litI xs.length]))) : AOps .plain P g ops (⟨dst, .mapEntry t x y, ty, pos, af, none⟩ :: rest) Q δ :=
  AOps.eff rfl rfl (Eff.mapEntry_new hx hob hy (by rw [lookI_set, if_neg hn]) ht hk hz ho ho' hd (wtOk_none hwt i)) (by simpa [setI] using hK)
theorem AOps.entryStore_set {x y s : Operand} {t : TypeId} {i : Nat} {xs : List Int} {m : Int} (hx : δ.ev x = .mapr i) (hob : δ.ob i = some (.mp (mpI (setI xs ++ [(m, litB false)])))) (hs : δ.ev s = litI xs.length) (hy : δ.ev y = litB true)
    (ho : okT x = true) (hos : okT s = true) (ho' : okT y = true) (hd : okD δ.n dst = true) (hwt : g.wt = none)
    (hK : AOps .plain P g ops rest Q ((δ.setOb i (some (.mp (mpI (setI (xs ++ [m])))))).putd dst .any)) : AOps .plain P g ops (⟨dst, .entryStore t x s y, ty, pos, af, none⟩ :: rest) Q δ :=
  AOps.eff rfl rfl (Eff.entryStore_last (l := setI xs) hx hob hs (by simp [setI]) hy rfl ho hos ho' hd (wtOk_none hwt i)) (by rw [setI_append] at hK; exact hK)
end
end Go.Ab
