/- Maps from structs of three whole numbers to whole numbers. -/
import Derived.Test.YtcklfjkaadfjjaaGreatAbL3
import Derived.WideKeyRuns
set_option linter.unusedSimpArgs false
set_option linter.unusedVariables false
namespace Go.Ab
open Go Go.RowKit
variable {q : Md} {P : Program} {g : Ghost} {δ : DS} {κ : Nat → Option Nat} {a : Act} {w : World}
variable {gd : Option (Tmp × Bool)} {ops : Array Oper} {rest : List Oper} {Q : Exit → DS → Prop} {dst : Option Nat} {ty : TypeId} {pos : String} {af : Array Edge}
abbrev Key3 := Int × Int × Int
def keyV (k : Key3) : Value := .agg #[.int .i64 k.1, .int .i64 k.2.1, .int .i64 k.2.2]
theorem st3_spec {t : TypeId} (h : st3 P t = true) : ∃ f0 f1 f2, P.underlying t = some (.struct #[f0, f1, f2]) ∧ fld3 P f0 0 = true ∧ fld3 P f1 1 = true ∧ fld3 P f2 2 = true ∧ P.stoodInHeld t = false := by
  unfold st3 at h
  simp only [Bool.and_eq_true, Bool.not_eq_true'] at h
  obtain ⟨⟨h, hs⟩, hg⟩ := h
  cases hu : P.underlying t with
  | none => rw [hu] at h; cases h
  | some u =>
    rw [hu] at h
    cases u with
    | struct fs =>
      simp only at h
      match hl : fs.toList, h with
      | [f0, f1, f2], h =>
        simp only [Bool.and_eq_true] at h
        obtain ⟨⟨h0, h1⟩, h2⟩ := h
        have hfs : fs = #[f0, f1, f2] := by apply Array.toList_inj.1; rw [hl]
        subst hfs
        exact ⟨f0, f1, f2, rfl, h0, h1, h2, hs⟩
      | [], h => cases h
      | [_], h => cases h
      | [_, _], h => cases h
      | _ :: _ :: _ :: _ :: _, h => cases h
    | _ => cases h
theorem run_equal3 {t : TypeId} (h : st3 P t = true) (k k' : Key3) (w : World) : (Op.equal t (keyV k) (keyV k')).run P w = .ok (decide (k = k')) w := by
  obtain ⟨f0, f1, f2, hu, h0, h1, h2, hs⟩ := st3_spec h
  have hfo : P.fieldsOf t = #[f0, f1, f2] := by unfold Program.fieldsOf; rw [hu]
  obtain ⟨a1, a2, a3, a4⟩ := fld3_spec h0
  obtain ⟨b1, b2, b3, b4⟩ := fld3_spec h1
  obtain ⟨c1, c2, c3, c4⟩ := fld3_spec h2
  obtain ⟨m, n, k⟩ := k
  obtain ⟨m', n', k'⟩ := k'
  have p0 : ∀ m n k w, (part f0.type #[.int .i64 m, .int .i64 n, .int .i64 k] f0.offset).run P w = .ok (.int .i64 m) w := fun m n k w => run_part1 a3 (by rw [a2]; rfl) w
  have p1 : ∀ m n k w, (part f1.type #[.int .i64 m, .int .i64 n, .int .i64 k] f1.offset).run P w = .ok (.int .i64 n) w := fun m n k w => run_part1 b3 (by rw [b2]; rfl) w
  have p2 : ∀ m n k w, (part f2.type #[.int .i64 m, .int .i64 n, .int .i64 k] f2.offset).run P w = .ok (.int .i64 k) w := fun m n k w => run_part1 c3 (by rw [c2]; rfl) w
  have q0 := fun (a b : Int) w => run_equalIn_int (P := P) w 9998 f0.type .i64 .i64 a b a4
  have q1 := fun (a b : Int) w => run_equalIn_int (P := P) w 9998 f1.type .i64 .i64 a b b4
  have q2 := fun (a b : Int) w => run_equalIn_int (P := P) w 9998 f2.type .i64 .i64 a b c4
  show (Op.equalIn 10000 t (.agg #[.int .i64 m, .int .i64 n, .int .i64 k]) (.agg #[.int .i64 m', .int .i64 n', .int .i64 k'])).run P w = _
  rw [run_equalIn_struct w 9999 t _ _ (by rw [hfo]; exact hu) hs, hfo]
  simp only [Op.eqFields, a1, b1, c1, ne_eq, not_false_eq_true, if_true, Sem.run_bind, p0, p1, p2, q0, q1, q2, Result.andThen_ok]
  by_cases e0 : m = m'
  · by_cases e1 : n = n'
    · by_cases e2 : k = k'
      · simp [e0, e1, e2, p0, p1, p2, q0, q1, q2]
      · simp [e0, e1, e2, p0, p1, p2, q0, q1, q2]
    · simp [e0, e1, p0, p1, p2, q0, q1, q2]
  · simp [e0]
theorem run_check3 {t : TypeId} (h : st3 P t = true) (k : Key3) (e : Bool) (w : World) : (Instr.checkKey e 10000 t (keyV k)).run P w = .ok () w := by
  obtain ⟨f0, f1, f2, hu, h0, h1, h2, hs⟩ := st3_spec h
  obtain ⟨a1, a2, a3, a4⟩ := fld3_spec h0
  obtain ⟨b1, b2, b3, b4⟩ := fld3_spec h1
  obtain ⟨c1, c2, c3, c4⟩ := fld3_spec h2
  obtain ⟨m, n, k⟩ := k
  have p0 : ∀ m n k w, (part f0.type #[.int .i64 m, .int .i64 n, .int .i64 k] f0.offset).run P w = .ok (.int .i64 m) w := fun m n k w => run_part1 a3 (by rw [a2]; rfl) w
  have p1 : ∀ m n k w, (part f1.type #[.int .i64 m, .int .i64 n, .int .i64 k] f1.offset).run P w = .ok (.int .i64 n) w := fun m n k w => run_part1 b3 (by rw [b2]; rfl) w
  have p2 : ∀ m n k w, (part f2.type #[.int .i64 m, .int .i64 n, .int .i64 k] f2.offset).run P w = .ok (.int .i64 k) w := fun m n k w => run_part1 c3 (by rw [c2]; rfl) w
  have q0 : ∀ (d : Nat) v w, (Instr.checkKey e (d + 1) f0.type (.int .i64 v)).run P w = .ok () w := fun d v w => by rw [Instr.checkKey]; simp [run_underlying a4]
  have q1 : ∀ (d : Nat) v w, (Instr.checkKey e (d + 1) f1.type (.int .i64 v)).run P w = .ok () w := fun d v w => by rw [Instr.checkKey]; simp [run_underlying b4]
  have q2 : ∀ (d : Nat) v w, (Instr.checkKey e (d + 1) f2.type (.int .i64 v)).run P w = .ok () w := fun d v w => by rw [Instr.checkKey]; simp [run_underlying c4]
  show (Instr.checkKey e (9999 + 1) t (.agg #[.int .i64 m, .int .i64 n, .int .i64 k])).run P w = _
  rw [Instr.checkKey]
  generalize hd : (9999 : Nat) = d
  obtain ⟨d', rfl⟩ : ∃ d', d = d' + 1 := ⟨9998, hd.symm⟩
  clear hd
  simp [run_underlying hu, a1, b1, c1, p0, p1, p2, q0, q1, q2, Sem.run_bind]
def lookV : List (Key3 × Int) → Key3 → Int
  | [], _ => 0
  | (k, v) :: l, m => if m = k then v else lookV l m
def mpV (l : List (Key3 × Int)) : List (Value × AV) := l.map fun p => (keyV p.1, litI p.2)
theorem mpV_app (l : List (Key3 × Int)) (k : Key3) (v : Int) : mpV (l ++ [(k, v)]) = mpV l ++ [(keyV k, litI v)] := by simp [mpV]
theorem MapIs.mpV_at {C : Cx} {w : World} {es : Array MapEntry} {l : List (Key3 × Int)} (h : MapIs C w es (mpV l)) : es.size = l.length ∧ ∀ (j : Nat) (e : MapEntry) (p : Key3 × Int), es[j]? = some e → l[j]? = some p → e.key = keyV p.1 ∧ e.val = .int .i64 p.2 := by
  refine ⟨by simpa [mpV] using h.1, fun j e p h1 h2 => ?_⟩
  obtain ⟨h3, h4⟩ := h.2 j e (keyV p.1, litI p.2) h1 (by simp [mpV, h2])
  exact ⟨h3, h4.lit⟩
theorem run_asking {kt : TypeId} (ht : st3 P kt = true) (m : Key3) (w : World) : ∀ (es : List MapEntry) (l : List (Key3 × Int)) (i : Nat), es.length = l.length → (∀ (j : Nat) (e : MapEntry) (p : Key3 × Int), es[j]? = some e → l[j]? = some p → e.key = keyV p.1 ∧ e.val = .int .i64 p.2) →
    ((Instr.findAsking kt (keyV m) es i).run P w = .ok none w ∧ lookV l m = 0 ∧ ∀ p ∈ l, p.1 ≠ m) ∨ (∃ i', (Instr.findAsking kt (keyV m) es i).run P w = .ok (some (i', .int .i64 (lookV l m))) w ∧ ∃ p ∈ l, p.1 = m)
  | [], [], i, _, _ => .inl ⟨by simp [Instr.findAsking], rfl, by intro p h; cases h⟩
  | [], _ :: _, _, h, _ => by simp at h
  | _ :: _, [], _, h, _ => by simp at h
  | e :: es, (k, v) :: l, i, h, hs => by
    obtain ⟨h1, h2⟩ := hs 0 e (k, v) rfl rfl
    have ih := run_asking ht m w es l (i + 1) (by simpa using h) fun j e p h3 h4 => hs (j + 1) e p (by simpa using h3) (by simpa using h4)
    have hq := run_equal3 ht m k w
    by_cases hk : m = k
    · subst hk
      refine .inr ⟨i, ?_, (m, v), by simp, rfl⟩
      rw [decide_eq_true rfl] at hq
      simp [Instr.findAsking, Sem.run_bind, h1, h2, hq, lookV]
    · have hl : lookV ((k, v) :: l) m = lookV l m := by simp [lookV, hk]
      rw [hl]
      rw [decide_eq_false hk] at hq
      have hf : (Instr.findAsking kt (keyV m) (e :: es) i).run P w = (Instr.findAsking kt (keyV m) es (i + 1)).run P w := by simp [Instr.findAsking, Sem.run_bind, h1, hq]
      rw [hf]
      rcases ih with ⟨h3, h4, h5⟩ | ⟨i', h3, p, h4, h5⟩
      · refine .inl ⟨h3, h4, fun p hp => ?_⟩
        rcases List.mem_cons.1 hp with rfl | hp
        · exact fun e => hk e.symm
        · exact h5 p hp
      · exact .inr ⟨i', h3, p, by simp [h4], h5⟩
theorem wide3 {kt : TypeId} (ht : st3 P kt = true) : (match P.underlying kt with | some (.array _ _) | some (.struct _) => true | _ => false) = true := by
  obtain ⟨f0, f1, f2, hu, _⟩ := st3_spec ht
  rw [hu]
theorem AOps.lookup_v {x y : Operand} {t kt et : TypeId} {i : Nat} {l : List (Key3 × Int)} {a b c : Int} (hx : δ.ev x = .mapr i) (hob : δ.ob i = some (.mp (mpV l))) (hy : δ.ev y = .agg [litI a, litI b, litI c]) (ht : P.underlying t = some (.map kt et)) (hk : st3 P kt = true) (hz : (P.info? et).bind (·.zero) = some (.int .i64 0))
    (ho : okT x = true) (ho' : okT y = true) (hd : okD δ.n dst = true) (hK : AOps q P g ops rest Q (δ.putd dst (litI (lookV l (a, b, c))))) : AOps q P g ops (⟨dst, .lookup t x y false, ty, pos, af, none⟩ :: rest) Q δ :=
  AOps.valw _ hd (fun κ ac w r => by
    obtain ⟨bl, es, clock, h1, h2, h3, h4, h5, hnoo⟩ := r.mpo (r.ra hx ho) hob
    obtain ⟨h6, h7⟩ := h4.mpV_at
    have hb : ∀ w', Held δ κ w w' → w'.heap[bl]? = some (.map es clock) := fun w' hw' => (hw' bl (heap_lt h3) (r.notrow ⟨_, hob, rfl⟩ h2)).trans h3
    have hzr : ∀ w, (zeroValue et).run P w = .ok (.int .i64 0) w := fun w => by
      cases hi : P.info? et with
      | none => rw [hi] at hz; simp at hz
      | some i => rw [hi] at hz; simp at hz; simp [zeroValue, typeInfo, hi, hz]
    refine ⟨.int .i64 (lookV l (a, b, c)), fun w' hw' => ?_, .pv (.lit _)⟩
    have hbw := hb w' hw'
    have hy' : ac.eval y = keyV (a, b, c) := r.agg3 hy ho'
    have hck := fun e => run_check3 hk (a, b, c) e w'
    have hfa := run_findKey_eq (P := P) w' (wide3 hk) (keyV (a, b, c)) es.toList
    rcases run_asking hk (a, b, c) w' es.toList l 0 (by simpa using h6) (fun j e p h8 h9 => h7 j e p (by simpa using h8) h9) with ⟨h8, h9, _⟩ | ⟨i', h8, _⟩
    · rw [h8] at hfa
      simp [execOp, hy', h1, Instr.lookup, run_underlying ht, MapKept.run_getObj_map hbw, hck, hfa, hzr, h9]
    · rw [h8] at hfa
      simp [execOp, hy', h1, Instr.lookup, run_underlying ht, MapKept.run_getObj_map hbw, hck, hfa]) hK
theorem Eff.mapUpdate_v {x y z : Operand} {t kt et : TypeId} {i : Nat} {l : List (Key3 × Int)} {a b c v : Int} (hx : δ.ev x = .mapr i) (hob : δ.ob i = some (.mp (mpV l))) (hy : δ.ev y = .agg [litI a, litI b, litI c]) (hz : δ.ev z = litI v) (ht : P.underlying t = some (.map kt et)) (hk : st3 P kt = true)
    (ho : okT x = true) (ho' : okT y = true) (hoz : okT z = true) (hd : okD δ.n dst = true) (hwk : g.wtOk i) (hn : (a, b, c) ∉ l.map (·.1)) :
    Eff P g ⟨dst, .mapUpdate t x y z, ty, pos, af, gd⟩ δ ((δ.setOb i (some (.mp (mpV (l ++ [((a, b, c), v)]))))).putd dst .any) := by
  intro κ ac w r
  obtain ⟨bl, es, clock, h1, h2, h3, h4, h5, hnoo⟩ := r.mpo (r.ra hx ho) hob
  obtain ⟨h6, h7⟩ := h4.mpV_at
  have hy' : ac.eval y = keyV (a, b, c) := r.agg3 hy ho'
  have hck := fun e => run_check3 hk (a, b, c) e w
  have hfa := run_findKey_eq (P := P) w (wide3 hk) (keyV (a, b, c)) es.toList
  rcases run_asking hk (a, b, c) w es.toList l 0 (by simpa using h6) (fun j e p h8 h9 => h7 j e p (by simpa using h8) h9) with ⟨h8, h9, h10⟩ | ⟨i', h8, p, h9, h10⟩
  · rw [h8] at hfa
    have hrun : (execOp ac.eval ⟨dst, .mapUpdate t x y z, ty, pos, af, gd⟩).run P w = .ok .skip { w with heap := w.heap.setIfInBounds bl (.map (es.push { key := keyV (a, b, c), val := .int .i64 v, born := clock }) (clock + 1)) } := by
      simp [execOp, hy', r.lit hz hoz, h1, Instr.mapUpdate, run_underlying ht, MapKept.run_getObj_map h3, hck, hfa, MapKept.run_setObj_map _ h3]
    obtain ⟨r', G⟩ := r.modify (o' := .mp (mpV (l ++ [((a, b, c), v)]))) hob rfl rfl h2 hwk (Turns.setHeap w bl (.map (es.push { key := keyV (a, b, c), val := .int .i64 v, born := clock }) (clock + 1))) (by simp) (fun C hC G => by
      refine ⟨bl, _, _, by rw [hC]; exact h2, setHeap_same h3, ⟨by rw [mpV_app]; simp [h6, mpV], fun j e p h11 h12 => ?_⟩, ⟨by simp [h5.1], fun j e h11 => ?_⟩, fun p hp => ?_⟩
      · rw [mpV_app] at h12
        rw [Array.getElem?_push] at h11
        by_cases hj : j = es.size
        · rw [if_pos hj] at h11
          cases h11
          rw [List.getElem?_append_right (by simp [mpV]; omega)] at h12
          have e0 : j - (mpV l).length = 0 := by simp [mpV]; omega
          rw [e0] at h12
          simp at h12
          subst h12
          exact ⟨rfl, .pv (.lit _)⟩
        · rw [if_neg hj] at h11
          have hlt : j < es.size := (Array.getElem?_eq_some_iff.1 h11).1
          rw [List.getElem?_append_left (by simp [mpV]; omega)] at h12
          obtain ⟨h13, h14⟩ := h4.2 j e p h11 h12
          exact ⟨h13, G.ra h14⟩
      · rw [Array.getElem?_push] at h11
        by_cases hj : j = es.size
        · rw [if_pos hj] at h11; cases h11; rw [hj]; exact h5.1
        · rw [if_neg hj] at h11; exact h5.2 j e h11
      · rw [mpV_app] at hp
        rcases List.mem_append.1 hp with hp | hp
        · exact hnoo p hp
        · simp at hp; subst hp; rfl)
    exact .inl ⟨_, _, _, _, hrun, .inr ⟨rfl, rfl⟩, r'.putd (okD_spec hd) (.any _)⟩
  · exact absurd (List.mem_map.2 ⟨p, h9, h10⟩) hn
theorem AOps.mapUpdate_v {x y z : Operand} {t kt et : TypeId} {i : Nat} {l : List (Key3 × Int)} {a b c v : Int} (hx : δ.ev x = .mapr i) (hob : δ.ob i = some (.mp (mpV l))) (hy : δ.ev y = .agg [litI a, litI b, litI c]) (hz : δ.ev z = litI v) (ht : P.underlying t = some (.map kt et)) (hk : st3 P kt = true)
    (ho : okT x = true) (ho' : okT y = true) (hoz : okT z = true) (hd : okD δ.n dst = true) (hwt : g.wt = none) (hn : (a, b, c) ∉ l.map (·.1))
    (hK : AOps .plain P g ops rest Q ((δ.setOb i (some (.mp (mpV (l ++ [((a, b, c), v)]))))).putd dst .any)) : AOps .plain P g ops (⟨dst, .mapUpdate t x y z, ty, pos, af, none⟩ :: rest) Q δ :=
  AOps.eff rfl rfl (Eff.mapUpdate_v hx hob hy hz ht hk ho ho' hoz hd (wtOk_none hwt i) hn) hK
theorem WO.vals {δ δ' : DS} {i : Nat} {l : List (Key3 × Int)} (h : δ.ob i = some (.mp (mpV l))) : WO δ δ' i (.mp (mpV l)) := .mp h fun p hp => by
  obtain ⟨x, _, rfl⟩ := List.mem_map.1 hp
  rfl
theorem WO.valsE {δ δ' : DS} {i : Nat} {l l' : List (Key3 × Int)} (h : δ.ob i = some (.mp (mpV l))) (he : l = l') : WO δ δ' i (.mp (mpV l')) := he ▸ .vals h
theorem WO.vals0 {δ δ' : DS} {i : Nat} {l : List (Key3 × Int)} (h : δ.ob i = some (.mp (mpI []))) (he : l = []) : WO δ δ' i (.mp (mpV l)) := by
  subst he
  exact .mp h fun p hp => by cases hp
theorem swV (a b : Nat) (l : List (Key3 × Int)) : Ob.sw a b (.mp (mpV l)) = .mp (mpV l) := by
  show Ob.mp ((l.map fun p => (keyV p.1, litI p.2)).map fun p => (p.1, p.2.sw a b)) = Ob.mp (l.map fun p => (keyV p.1, litI p.2))
  rw [List.map_map]
  rfl
theorem WO.valsS {δ δ' : DS} {i : Nat} {l : List (Key3 × Int)} (a b : Nat) (h : δ.ob i = some (Ob.sw a b (.mp (mpV l)))) : WO δ δ' i (.mp (mpV l)) := WO.vals (by rw [h, swV])
end Go.Ab
/- Eight values laid out. -/
namespace Go.Ab
open Go Go.RowKit
variable {q : Md} {P : Program} {g : Ghost} {δ : DS} {κ : Nat → Option Nat} {a : Act} {w : World}
variable {ops : Array Oper} {rest : List Oper} {Q : Exit → DS → Prop} {dst : Option Nat} {ty : TypeId} {pos : String} {af : Array Edge}
theorem Eff.bs8 {gd : Option (Tmp × Bool)} {t e : TypeId} {z : Value} {x0 x1 x2 x3 x4 x5 x6 x7 : Operand} {p0 p1 p2 p3 p4 p5 p6 p7 : PV} (ht : P.underlying t = some (.slice e)) (h0 : δ.ev x0 = .pv p0) (h1 : δ.ev x1 = .pv p1) (h2 : δ.ev x2 = .pv p2) (h3 : δ.ev x3 = .pv p3) (h4 : δ.ev x4 = .pv p4) (h5 : δ.ev x5 = .pv p5) (h6 : δ.ev x6 = .pv p6) (h7 : δ.ev x7 = .pv p7) (hi : (P.info? e).map (fun i => (i.size, i.zero)) = some (1, some z)) (hz : z.cells.toList.all (·.oneCell') = true) (hzk : Nat.beq z.cells.size 1 = true) (k0 : AV.one (.pv p0) = true) (k1 : AV.one (.pv p1) = true) (k2 : AV.one (.pv p2) = true) (k3 : AV.one (.pv p3) = true) (k4 : AV.one (.pv p4) = true) (k5 : AV.one (.pv p5) = true) (k6 : AV.one (.pv p6) = true) (k7 : AV.one (.pv p7) = true) (o0 : okT x0 = true) (o1 : okT x1 = true) (o2 : okT x2 = true) (o3 : okT x3 = true) (o4 : okT x4 = true) (o5 : okT x5 = true) (o6 : okT x6 = true) (o7 : okT x7 = true) (hd : okD δ.n dst = true) : Eff P g ⟨dst, .buildSlice t 8 [(0, x0), (1, x1), (2, x2), (3, x3), (4, x4), (5, x5), (6, x6), (7, x7)].toArray, ty, pos, af, gd⟩ δ ((δ.addOb .row).putd dst (.own δ.nx e 1 [[p0], [p1], [p2], [p3], [p4], [p5], [p6], [p7]])) := by
  have hf : fillA (fun i => some (i * 1, 1)) (zerosA z (8 * 1)) (([(0, x0), (1, x1), (2, x2), (3, x3), (4, x4), (5, x5), (6, x6), (7, x7)] : List (Nat × Operand)).map fun p => (p.1, δ.ev p.2)) = some [.pv p0, .pv p1, .pv p2, .pv p3, .pv p4, .pv p5, .pv p6, .pv p7] := by
    simp [fillA, setsA, AV.cellsOf, AV.ones, zerosA, h0, h1, h2, h3, h4, h5, h6, h7, k0, k1, k2, k3, k4, k5, k6, k7, List.map_cons, List.map_nil] <;> rfl
  exact Eff.buildSlice (len := 8) (k := 1) (parts := [(0, x0), (1, x1), (2, x2), (3, x3), (4, x4), (5, x5), (6, x6), (7, x7)]) (cells := [.pv p0, .pv p1, .pv p2, .pv p3, .pv p4, .pv p5, .pv p6, .pv p7]) ht hi hzk rfl rfl hz (by simp [o0, o1, o2, o3, o4, o5, o6, o7]) hf (by simp [AV.isPv]) hd
theorem AOps.bs8 {t e : TypeId} {z : Value} {x0 x1 x2 x3 x4 x5 x6 x7 : Operand} {p0 p1 p2 p3 p4 p5 p6 p7 : PV} (ht : P.underlying t = some (.slice e)) (h0 : δ.ev x0 = .pv p0) (h1 : δ.ev x1 = .pv p1) (h2 : δ.ev x2 = .pv p2) (h3 : δ.ev x3 = .pv p3) (h4 : δ.ev x4 = .pv p4) (h5 : δ.ev x5 = .pv p5) (h6 : δ.ev x6 = .pv p6) (h7 : δ.ev x7 = .pv p7) (hi : (P.info? e).map (fun i => (i.size, i.zero)) = some (1, some z)) (hz : z.cells.toList.all (·.oneCell') = true) (hzk : Nat.beq z.cells.size 1 = true) (k0 : AV.one (.pv p0) = true) (k1 : AV.one (.pv p1) = true) (k2 : AV.one (.pv p2) = true) (k3 : AV.one (.pv p3) = true) (k4 : AV.one (.pv p4) = true) (k5 : AV.one (.pv p5) = true) (k6 : AV.one (.pv p6) = true) (k7 : AV.one (.pv p7) = true) (o0 : okT x0 = true) (o1 : okT x1 = true) (o2 : okT x2 = true) (o3 : okT x3 = true) (o4 : okT x4 = true) (o5 : okT x5 = true) (o6 : okT x6 = true) (o7 : okT x7 = true) (hd : okD δ.n dst = true) (hK : AOps .plain P g ops rest Q ((δ.addOb .row).putd dst (.own δ.nx e 1 [[p0], [p1], [p2], [p3], [p4], [p5], [p6], [p7]]))) : AOps .plain P g ops (⟨dst, .buildSlice t 8 [(0, x0), (1, x1), (2, x2), (3, x3), (4, x4), (5, x5), (6, x6), (7, x7)].toArray, ty, pos, af, none⟩ :: rest) Q δ := AOps.eff rfl rfl (Eff.bs8 ht h0 h1 h2 h3 h4 h5 h6 h7 hi hz hzk k0 k1 k2 k3 k4 k5 k6 k7 o0 o1 o2 o3 o4 o5 o6 o7 hd) hK
end Go.Ab
/- v, is := m[k] over a map whose entries are told one by one. -/
namespace Go.Ab
open Go Go.RowKit
variable {q : Md} {P : Program} {g : Ghost} {δ : DS} {ops : Array Oper} {rest : List Oper} {Q : Exit → DS → Prop} {dst : Option Nat} {ty : TypeId} {pos : String} {af : Array Edge}
theorem AW.condYb {c : Operand} {x y : Code} {b : Bool} (ho : okT c = true) (hc : δ.ev c = litB b) (hb : b = true) (h1 : AW P g x Q δ) : AW P g (.cond c x y) Q δ := AW.condT hb ho hc h1
theorem AW.condNb {c : Operand} {x y : Code} {b : Bool} (ho : okT c = true) (hc : δ.ev c = litB b) (hb : b = false) (h1 : AW P g y Q δ) : AW P g (.cond c x y) Q δ := AW.condF hb ho hc h1
end Go.Ab
