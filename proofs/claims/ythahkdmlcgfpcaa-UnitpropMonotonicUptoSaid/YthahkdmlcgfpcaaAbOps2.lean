/- The operations' laws, more: lengths, addresses, loads, boxes, stores, aggregates, guards. -/
import Derived.Test.YthahkdmlcgfpcaaAbOps
set_option linter.unusedSimpArgs false
set_option linter.unusedVariables false
namespace Go.Ab
open Go Go.RowKit
variable {q : Md} {P : Program} {g : Ghost} {δ : DS} {κ : Nat → Option Nat} {a : Act} {w : World}
variable {ops : Array Oper} {rest : List Oper} {Q : Exit → DS → Prop} {dst : Option Nat} {ty : TypeId} {pos : String} {af : Array Edge}

theorem RA.pv_inv {C : Cx} {w : World} {v : Value} {p : PV} (h : RA C w v (.pv p)) : RP C.N w v p := by cases h with | pv h => exact h
theorem RA.own_inv {C : Cx} {w : World} {v : Value} {i e k els} (h : RA C w v (.own i e k els)) : OwnV C w v i e k els := by cases h with | own h => exact h
theorem Rel.ra (r : Rel g δ κ a w) {x : Operand} {v : AV} (hx : δ.ev x = v) (ho : okT x = true) : RA (δ.cx g κ) w (a.eval x) v := hx ▸ r.evc x (okT_spec ho)

/-! lengths -/
theorem run_len_slice {t e : TypeId} (ht : P.underlying t = some (.slice e)) (x : Operand) (ρ : Operand → Value) (a0 : Option Addr) (n c : Nat) (hx : ρ x = .slice a0 n c) (w : World) :
    (execOp ρ ⟨dst, .call { callee := .builtin .len, args := #[x], argTypes := #[t] }, ty, pos, af, none⟩).run P w = .ok (.value (.int .i64 n)) w := by
  simp [execOp, resolve, invoke, builtin, Builtin.len_, run_underlying ht, hx, goInt]

theorem RP.slice_inv {N : Nat → Prop} {w : World} {v : Value} {k : Nat} {els : List (List PV)} (h : RP N w v (.slice k els)) : ∃ a c, v = .slice a els.length c ∧ els.length ≤ 140737488355328 := by
  cases h with | slice b off vs hl hcap hb => subst hl; exact ⟨_, _, rfl, hb⟩

theorem OwnV.inv {C : Cx} {w : World} {v : Value} {i e k els} (h : OwnV C w v i e k els) : ∃ a c, v = .slice a els.length c := by
  obtain ⟨_, _, _, _, xs, ho, _⟩ := h
  rcases ho.2 with ⟨rfl, h0⟩ | ⟨b, cap, cur, rfl, _⟩
  · exact ⟨none, 0, by rw [h0]⟩
  · exact ⟨_, _, rfl⟩

theorem AOps.len {x : Operand} {t e : TypeId} {k : Nat} {els : List (List PV)} (hx : δ.ev x = .pv (.slice k els)) (ht : P.underlying t = some (.slice e)) (ho : okT x = true) (hd : okD δ.n dst = true)
    (hK : AOps q P g ops rest Q (δ.putd dst (litI (els.length : Nat)))) : AOps q P g ops (⟨dst, .call { callee := .builtin .len, args := #[x], argTypes := #[t] }, ty, pos, af, none⟩ :: rest) Q δ :=
  AOps.valw _ hd (fun κ a w r => by
    obtain ⟨a0, c, hv, _⟩ := (r.ra hx ho).pv_inv.slice_inv
    exact ⟨_, fun w' _ => run_len_slice ht x a.eval a0 _ c hv w', .pv (.lit _)⟩) hK
theorem AOps.len_map {α : Type} {x : Operand} {t e : TypeId} {k : Nat} {f : α → List PV} {l : List α} (hx : δ.ev x = .pv (.slice k (l.map f))) (ht : P.underlying t = some (.slice e)) (ho : okT x = true) (hd : okD δ.n dst = true)
    (hK : AOps q P g ops rest Q (δ.putd dst (litI (l.length : Nat)))) : AOps q P g ops (⟨dst, .call { callee := .builtin .len, args := #[x], argTypes := #[t] }, ty, pos, af, none⟩ :: rest) Q δ :=
  AOps.len hx ht ho hd (by rw [List.length_map]; exact hK)
theorem AOps.len_own {x : Operand} {t e e' : TypeId} {i k : Nat} {els : List (List PV)} (hx : δ.ev x = .own i e' k els) (ht : P.underlying t = some (.slice e)) (ho : okT x = true) (hd : okD δ.n dst = true)
    (hK : AOps q P g ops rest Q (δ.putd dst (litI (els.length : Nat)))) : AOps q P g ops (⟨dst, .call { callee := .builtin .len, args := #[x], argTypes := #[t] }, ty, pos, af, none⟩ :: rest) Q δ :=
  AOps.valw _ hd (fun κ a w r => by
    obtain ⟨a0, c, hv⟩ := (r.ra hx ho).own_inv.inv
    exact ⟨_, fun w' _ => run_len_slice ht x a.eval a0 _ c hv w', .pv (.lit _)⟩) hK
theorem AOps.len_own_map {α : Type} {x : Operand} {t e e' : TypeId} {i k : Nat} {f : α → List PV} {l : List α} (hx : δ.ev x = .own i e' k (l.map f)) (ht : P.underlying t = some (.slice e)) (ho : okT x = true) (hd : okD δ.n dst = true)
    (hK : AOps q P g ops rest Q (δ.putd dst (litI (l.length : Nat)))) : AOps q P g ops (⟨dst, .call { callee := .builtin .len, args := #[x], argTypes := #[t] }, ty, pos, af, none⟩ :: rest) Q δ :=
  AOps.len_own hx ht ho hd (by rw [List.length_map]; exact hK)
theorem AOps.len_nil {x : Operand} {t e : TypeId} (hx : δ.ev x = .pv (.lit (.slice none 0 0))) (ht : P.underlying t = some (.slice e)) (ho : okT x = true) (hd : okD δ.n dst = true)
    (hK : AOps q P g ops rest Q (δ.putd dst (litI 0))) : AOps q P g ops (⟨dst, .call { callee := .builtin .len, args := #[x], argTypes := #[t] }, ty, pos, af, none⟩ :: rest) Q δ :=
  AOps.valw _ hd (fun κ a w r => ⟨_, fun w' _ => run_len_slice ht x a.eval none 0 0 (r.lit hx ho) w', .pv (.lit _)⟩) hK

/-! the bound of a slice's length -/
theorem AOps.fact {l : List Oper} {φ : Prop} (h : ∀ κ a w, Rel g δ κ a w → φ) (hK : φ → AOps q P g ops l Q δ) : AOps q P g ops l Q δ := fun κ a w r => hK (h κ a w r) κ a w r
theorem AW.fact {c : Code} {φ : Prop} (h : ∀ κ a w, Rel g δ κ a w → φ) (hK : φ → AW P g c Q δ) : AW P g c Q δ := fun κ a w r => hK (h κ a w r) κ a w r
theorem Rel.len (r : Rel g δ κ a w) {j k : Nat} {els : List (List PV)} (h : δ.get j = .pv (.slice k els)) : els.length ≤ 140737488355328 := by
  have := r.env j
  rw [h] at this
  obtain ⟨_, _, _, h⟩ := this.pv_inv.slice_inv
  exact h
theorem AW.len {c : Code} (j : Nat) {k : Nat} {els : List (List PV)} (h : δ.get j = .pv (.slice k els)) (hK : els.length ≤ 140737488355328 → AW P g c Q δ) : AW P g c Q δ := AW.fact (fun _ _ _ r => r.len h) hK
theorem AW.len_map {α : Type} {c : Code} (j : Nat) {k : Nat} {f : α → List PV} {l : List α} (h : δ.get j = .pv (.slice k (l.map f))) (hK : l.length ≤ 140737488355328 → AW P g c Q δ) : AW P g c Q δ :=
  AW.fact (fun _ _ _ r => by have := r.len h; simpa using this) hK

/-! the address of an element -/
theorem run_indexAddr_slice {t e : TypeId} {k : Nat} (ht : P.underlying t = some (.slice e)) (hk : (P.info? e).map (·.size) = some k) {x y : Operand} {ρ : Operand → Value} {b off len c n : Nat} {ik : IntKind}
    (hx : ρ x = .slice (some ⟨b, off, none⟩) len c) (hy : ρ y = .int ik (n : Int)) (hn : n < len) (w : World) :
    (execOp ρ ⟨dst, .indexAddr t x y, ty, pos, af, none⟩).run P w = .ok (.value (.pointer (some ⟨b, off + n * k, none⟩))) w := by
  obtain ⟨i0, hi0, hk0⟩ : ∃ i0, P.info? e = some i0 ∧ i0.size = k := by
    cases h : P.info? e with
    | none => rw [h] at hk; simp at hk
    | some i0 => rw [h] at hk; exact ⟨i0, rfl, by simpa using hk⟩
  have h1 : (0 : Int) ≤ n ∧ (n : Int) < len := by omega
  have hadd : (⟨b, off, none⟩ : Addr).add (n * k) = ⟨b, off + n * k, none⟩ := by unfold Addr.add; split <;> simp_all
  simp [execOp, Instr.indexAt, asIntOf, run_underlying ht, hx, hy, h1, sizeOf, typeInfo, hi0, hk0, hadd]
  intro h; omega

theorem AOps.index_pv {x y : Operand} {t e : TypeId} {k n : Nat} {ik : IntKind} {els : List (List PV)} {cs : List PV} (hx : δ.ev x = .pv (.slice k els)) (hy : δ.ev y = .pv (.lit (.int ik (n : Int)))) (hn : els[n]? = some cs)
    (ht : P.underlying t = some (.slice e)) (hk : (P.info? e).map (·.size) = some k) (ho : okT x = true) (ho' : okT y = true) (hd : okD δ.n dst = true)
    (hK : AOps q P g ops rest Q (δ.putd dst (.rptr cs))) : AOps q P g ops (⟨dst, .indexAddr t x y, ty, pos, af, none⟩ :: rest) Q δ :=
  AOps.valw _ hd (fun κ a w r => by
    have h1 := (r.ra hx ho).pv_inv
    generalize hv : a.eval x = v at h1
    cases h1 with
    | slice b off vs hl hcap hb ha hkk hc hr =>
      have hlt : n < els.length := (List.getElem?_eq_some_iff.1 hn).1
      obtain ⟨h1, h2, h3⟩ := ha (by intro e; subst e; simp at hn)
      subst h1
      refine ⟨_, fun w' _ => run_indexAddr_slice ht hk hv (r.lit hy ho') (by omega) w', .rptr b (off + n * k) (fun j => vs n j) h2 h3 (fun j p hp => ?_) (fun j p hp => ?_)⟩
      · exact hc n j p (by simp [cellAt, hn, hp])
      · exact hr n j p (by simp [cellAt, hn, hp])) hK

theorem AOps.index_map {α : Type} {x y : Operand} {t e : TypeId} {k n : Nat} {ik : IntKind} {f : α → List PV} {l : List α} (hx : δ.ev x = .pv (.slice k (l.map f))) (hy : δ.ev y = .pv (.lit (.int ik (n : Int)))) (hn : n < l.length)
    (ht : P.underlying t = some (.slice e)) (hk : (P.info? e).map (·.size) = some k) (ho : okT x = true) (ho' : okT y = true) (hd : okD δ.n dst = true)
    (hK : AOps q P g ops rest Q (δ.putd dst (.rptr (f l[n])))) : AOps q P g ops (⟨dst, .indexAddr t x y, ty, pos, af, none⟩ :: rest) Q δ :=
  AOps.index_pv hx hy (by rw [List.getElem?_map, List.getElem?_eq_getElem hn]; rfl) ht hk ho ho' hd hK

/-- into a row of the walk's own -/
theorem AOps.index_own {x y : Operand} {t e e' : TypeId} {i k n : Nat} {ik : IntKind} {els : List (List PV)} (hx : δ.ev x = .own i e' k els) (hy : δ.ev y = .pv (.lit (.int ik (n : Int)))) (hn : n < els.length)
    (ht : P.underlying t = some (.slice e)) (hk : (P.info? e).map (·.size) = some k) (ho : okT x = true) (ho' : okT y = true) (hd : okD δ.n dst = true)
    (hK : AOps q P g ops rest Q (δ.putd dst (.optr i e' k els n))) : AOps q P g ops (⟨dst, .indexAddr t x y, ty, pos, af, none⟩ :: rest) Q δ :=
  AOps.valw _ hd (fun κ a w r => by
    have h1 := (r.ra hx ho).own_inv
    have h0 := h1
    obtain ⟨_, _, _, _, xs, hown, _⟩ := h1
    rcases hown.2 with ⟨_, h⟩ | ⟨b, cap, cur, hv, _⟩
    · omega
    · refine ⟨.pointer (some ⟨b, n * k, none⟩), fun w' _ => ?_, ?_⟩
      · have := run_indexAddr_slice (dst := dst) (ty := ty) (pos := pos) (af := af) ht hk hv (r.lit hy ho') hn w'; rw [Nat.zero_add] at this; exact this
      exact .optr hn (hv ▸ h0)) hK

/-! loads -/
def scalarT (P : Program) (t : TypeId) : Bool := match P.underlying t with | some (.struct _) | some (.array _ _) | none => false | _ => true
def aggT (P : Program) (t : TypeId) (n : Nat) : Bool := (match P.underlying t with | some (.struct _) | some (.array _ _) => true | _ => false) && ((P.info? t).map (·.size) == some n)

theorem run_isAgg_scalar {t : TypeId} (h : scalarT P t = true) (w : World) : (isAgg t).run P w = .ok false w := by
  unfold scalarT at h
  cases hu : P.underlying t with
  | none => rw [hu] at h; simp at h
  | some d =>
    rw [hu] at h
    simp only [isAgg, Sem.run_bind, run_underlying hu, Result.andThen_ok]
    cases d <;> first | rfl | (simp at h)
theorem run_isAgg_agg {t : TypeId} {n : Nat} (h : aggT P t n = true) (w : World) : (isAgg t).run P w = .ok true w ∧ (sizeOf t).run P w = .ok n w := by
  unfold aggT at h
  simp only [Bool.and_eq_true, beq_iff_eq] at h
  obtain ⟨h1, h2⟩ := h
  constructor
  · cases hu : P.underlying t with
    | none => rw [hu] at h1; simp at h1
    | some d =>
      rw [hu] at h1
      simp only [isAgg, Sem.run_bind, run_underlying hu, Result.andThen_ok]
      cases d <;> first | rfl | (simp at h1)
  · cases hi : P.info? t with
    | none => rw [hi] at h2; simp at h2
    | some i => rw [hi] at h2; simp [sizeOf, typeInfo, hi]; simpa using h2

theorem run_load_scalar {t : TypeId} (h : scalarT P t = true) {x : Operand} {ρ : Operand → Value} {ad : Addr} {v : Value} {w : World} (hx : ρ x = .pointer (some ad)) (hc : w.cell? ad = some v) :
    (execOp ρ ⟨dst, .load t x, ty, pos, af, none⟩).run P w = .ok (.value v) w := by
  simp [execOp, Instr.loadAt, Instr.sureAddr, loadVar, run_isAgg_scalar h, hx, load, Sem.run, hc]

theorem run_load_agg {t : TypeId} {n : Nat} (h : aggT P t n = true) {x : Operand} {ρ : Operand → Value} {ad : Addr} {f : Nat → Value} {w : World} (hx : ρ x = .pointer (some ad)) (hc : ∀ j, j < n → w.cell? (ad.add j) = some (f j)) :
    (execOp ρ ⟨dst, .load t x, ty, pos, af, none⟩).run P w = .ok (.value (.agg ((List.range n).map f).toArray)) w := by
  have h1 := run_loadCells (P := P) (w := w) ad n f hc
  simp [execOp, Instr.loadAt, Instr.sureAddr, loadVar, run_isAgg_agg h, hx, h1]

theorem addr_add (b off j : Nat) : (⟨b, off, none⟩ : Addr).add j = ⟨b, off + j, none⟩ := by unfold Addr.add; split <;> simp_all

theorem AOps.load_r1 {x : Operand} {t : TypeId} {p : PV} (hx : δ.ev x = .rptr [p]) (ht : scalarT P t = true) (ho : okT x = true) (hd : okD δ.n dst = true)
    (hK : AOps q P g ops rest Q (δ.putd dst (.pv p))) : AOps q P g ops (⟨dst, .load t x, ty, pos, af, none⟩ :: rest) Q δ :=
  AOps.valw _ hd (fun κ a w r => by
    have h1 := r.ra hx ho
    generalize hv : a.eval x = v at h1
    cases h1 with
    | rptr b off vs hN hb hc hr =>
      have h2 := (hc 0 p rfl).1
      rw [Nat.add_zero] at h2
      exact ⟨_, fun w' hw' => run_load_scalar ht hv ((hw'.cell (ad := ⟨b, off, none⟩) hb (fun i hi => hN.2 i (DS.lr_live hi))).trans h2), .pv (hr 0 p rfl)⟩) hK

theorem AOps.load_rn {x : Operand} {t : TypeId} {cs : List PV} (hx : δ.ev x = .rptr cs) (ht : aggT P t cs.length = true) (ho : okT x = true) (hd : okD δ.n dst = true)
    (hK : AOps q P g ops rest Q (δ.putd dst (.agg (cs.map .pv)))) : AOps q P g ops (⟨dst, .load t x, ty, pos, af, none⟩ :: rest) Q δ :=
  AOps.valw _ hd (fun κ a w r => by
    have h1 := r.ra hx ho
    generalize hv : a.eval x = v at h1
    cases h1 with
    | rptr b off vs hN hb hc hr =>
      refine ⟨_, fun w' hw' => run_load_agg ht hv (f := vs) (fun j hj => ?_), .agg (by simp) (fun j u c h1 h2 => ?_)⟩
      · rw [addr_add]; exact (hw'.cell (ad := ⟨b, off + j, none⟩) hb (fun i hi => hN.2 i (DS.lr_live hi))).trans (hc j _ (List.getElem?_eq_getElem hj)).1
      · simp only [List.getElem?_toArray, List.getElem?_map, Option.map_eq_some_iff, List.getElem?_range] at h1 h2
        obtain ⟨p, hp, rfl⟩ := h2
        obtain ⟨j', hj', rfl⟩ := h1
        have : j' = j := by
          rw [List.getElem?_eq_some_iff] at hj'
          obtain ⟨_, h⟩ := hj'
          simpa using h.symm
        subst this
        exact .pv (hr _ p hp)) hK

theorem AOps.load_o1 (hq : q ≠ .held) {x : Operand} {t e : TypeId} {i n : Nat} {els : List (List PV)} {p : PV} (hx : δ.ev x = .optr i e 1 els n) (hp : els[n]? = some [p]) (ht : scalarT P t = true) (ho : okT x = true) (hd : okD δ.n dst = true)
    (hK : AOps q P g ops rest Q (δ.putd dst (.pv p))) : AOps q P g ops (⟨dst, .load t x, ty, pos, af, none⟩ :: rest) Q δ :=
  AOps.valB _ hq rfl rfl hd (fun κ a w r => by
    have h1 := r.ra hx ho
    generalize hv : a.eval x = v at h1
    cases h1 with
    | @optr _ _ _ _ _ b cap hi h =>
      obtain ⟨_, _, _, _, xs, hown, _, hxs⟩ := h
      obtain ⟨u, h1, h2⟩ := hxs n 0 p (by simp [cellAt, hp])
      have h3 := hown.cellAt (n * 1) (by omega)
      have hlt : b < w.heap.size := (hown.lt b rfl).2
      exact ⟨u, fun w' hw' => run_load_scalar ht hv ((hw'.cell (p := ⟨b, n * 1, none⟩) hlt).trans (h3.trans h1)), .pv h2⟩) hK

theorem AOps.load_o1_map (hq : q ≠ .held) {α : Type} {x : Operand} {t e : TypeId} {i n : Nat} {f : α → PV} {l : List α} (hx : δ.ev x = .optr i e 1 (l.map fun z => [f z]) n) (hn : n < l.length) (ht : scalarT P t = true) (ho : okT x = true) (hd : okD δ.n dst = true)
    (hK : AOps q P g ops rest Q (δ.putd dst (.pv (f l[n])))) : AOps q P g ops (⟨dst, .load t x, ty, pos, af, none⟩ :: rest) Q δ :=
  AOps.load_o1 hq hx (by rw [List.getElem?_map, List.getElem?_eq_getElem hn]; rfl) ht ho hd hK

/-! guards and choices -/
theorem AOps.guard {op : Op} {gj : Nat} {want b : Bool} {d : Nat} {o' : Oper} (ho : ops[gj]? = some o') (hd : o'.dst = some d) (hd0 : Nat.blt d HS = true) (hdn : Nat.blt d δ.n = true) (hb : δ.get d = litB b) (hdd : okD δ.n dst = true)
    (hy : b = want → AOps q P g ops (⟨dst, op, ty, pos, af, none⟩ :: rest) Q δ) (hn : b = !want → AOps q P g ops rest Q (δ.putd dst (.pv (.lit undef)))) : AOps q P g ops (⟨dst, op, ty, pos, af, some (gj, want)⟩ :: rest) Q δ := by
  intro κ a w r
  have hlt : d < HS := by simpa using hd0
  have hln : d < δ.n := by simpa using hdn
  have hv : a.tmps.getD d undef = .bool b := by
    have := r.env d
    rw [hb] at this
    unfold Ghost.val at this
    rw [if_pos hlt] at this
    exact this.lit
  have hv' : a.tmps[d]? = some (.bool b) := by
    rw [← r.n] at hln
    rw [Array.getD_eq_getD_getElem?, Array.getElem?_eq_getElem hln] at hv
    rw [Array.getElem?_eq_getElem hln]
    exact congrArg some hv
  have hyi : yielded ops a.tmps gj = some b := by
    simp [yielded, ho, hd, hv']
  cases q with
  | quiet =>
    by_cases hbw : b = want
    · have h1 := hy hbw κ a w r
      simp only at h1 ⊢
      unfold wpQuiet at h1 ⊢
      simp only [Region.wanted, if_true] at h1
      rw [if_pos (by simp [Region.wanted, hyi, hbw])]
      exact h1
    · have h1 := hn (by cases b <;> cases want <;> simp_all) κ _ w (r.putd (v := undef) (okD_spec hdd) (.pv (.lit _)))
      simp only at h1 ⊢
      unfold wpQuiet
      rw [if_neg (by simp [Region.wanted, hyi]; exact hbw)]
      exact h1
  | held =>
    by_cases hbw : b = want
    · have h1 := hy hbw κ a w r
      simp only at h1 ⊢
      obtain ⟨v, h1, h2⟩ := h1
      refine ⟨v, .inl ⟨by simp [Region.wanted, hyi, hbw], ?_⟩, h2⟩
      rcases h1 with ⟨_, h1⟩ | ⟨h1, _⟩
      · exact h1
      · simp [Region.wanted] at h1
    · have h1 := hn (by cases b <;> cases want <;> simp_all) κ _ w (r.putd (v := undef) (okD_spec hdd) (.pv (.lit _)))
      have hH : Held (δ.putd dst (.pv (.lit undef))) κ w = Held δ κ w := by unfold Held; rw [putd_lr]
      simp only [hH, putd_objs] at h1 ⊢
      exact ⟨undef, .inr ⟨by simp [Region.wanted, hyi]; exact hbw, rfl⟩, h1⟩
  | plain =>
  by_cases hbw : b = want
  · have h1 := hy hbw κ a w r
    simp only at h1 ⊢
    unfold wpListIn at h1 ⊢
    simp only [Region.wanted, if_true] at h1
    rw [if_pos (by simp [Region.wanted, hyi, hbw])]
    exact h1
  · have h1 := hn (by cases b <;> cases want <;> simp_all) κ _ w (r.putd (v := undef) (okD_spec hdd) (.pv (.lit _)))
    simp only at h1 ⊢
    unfold wpListIn
    rw [if_neg (by simp [Region.wanted, hyi]; exact hbw)]
    exact ⟨fun _ _ => trivial, h1⟩

/-- behind an operation that was not wanted. -/
theorem AOps.guard_u {op : Op} {gj d : Nat} {want : Bool} {o' : Oper} (ho : ops[gj]? = some o') (hd : o'.dst = some d) (hd0 : Nat.blt d HS = true) (hdn : Nat.blt d δ.n = true) (hb : δ.get d = .pv (.lit undef)) (hdd : okD δ.n dst = true)
    (hn : AOps q P g ops rest Q (δ.putd dst (.pv (.lit undef)))) : AOps q P g ops (⟨dst, op, ty, pos, af, some (gj, want)⟩ :: rest) Q δ := by
  intro κ a w r
  have hlt : d < HS := by simpa using hd0
  have hln : d < δ.n := by simpa using hdn
  have hv : a.tmps.getD d undef = undef := by
    have := r.env d
    rw [hb] at this
    unfold Ghost.val at this
    rw [if_pos hlt] at this
    exact this.lit
  have hyi : yielded ops a.tmps gj = none := by
    have hv' : a.tmps[d]? = some undef := by
      rw [← r.n] at hln
      rw [Array.getD_eq_getD_getElem?, Array.getElem?_eq_getElem hln] at hv
      rw [Array.getElem?_eq_getElem hln]
      exact congrArg some hv
    simp [yielded, ho, hd, hv', undef]
  have h1 := hn κ _ w (r.putd (v := undef) (okD_spec hdd) (.pv (.lit _)))
  cases q with
  | quiet =>
    simp only at h1 ⊢
    unfold wpQuiet
    rw [if_neg (by simp [Region.wanted, hyi])]
    exact h1
  | held =>
    have hH : Held (δ.putd dst (.pv (.lit undef))) κ w = Held δ κ w := by unfold Held; rw [putd_lr]
    simp only [hH, putd_objs] at h1 ⊢
    exact ⟨undef, .inr ⟨by simp [Region.wanted, hyi], rfl⟩, h1⟩
  | plain =>
    simp only at h1 ⊢
    unfold wpListIn
    rw [if_neg (by simp [Region.wanted, hyi])]
    exact ⟨fun _ _ => trivial, h1⟩

theorem AOps.pick {x y z : Operand} {b : Bool} {v : AV} (hx : δ.ev x = litB b) (ho : okT x = true) (hoy : okT y = true) (hoz : okT z = true) (hy : b = true → δ.ev y = v) (hz : b = false → δ.ev z = v) (hd : okD δ.n dst = true)
    (hK : AOps q P g ops rest Q (δ.putd dst v)) : AOps q P g ops (⟨dst, .pick x y z, ty, pos, af, none⟩ :: rest) Q δ :=
  AOps.valw _ hd (fun κ a w r => by
    have h1 := r.lit hx ho
    cases b with
    | true => exact ⟨a.eval y, fun w' _ => by simp [execOp, h1, asBool], r.ra (hy rfl) hoy⟩
    | false => exact ⟨a.eval z, fun w' _ => by simp [execOp, h1, asBool], r.ra (hz rfl) hoz⟩) hK

theorem AOps.not {x : Operand} {t : TypeId} {b : Bool} (hx : δ.ev x = litB b) (ho : okT x = true) (hd : okD δ.n dst = true) (hK : AOps q P g ops rest Q (δ.putd dst (litB (!b)))) :
    AOps q P g ops (⟨dst, .unOp .not t x, ty, pos, af, none⟩ :: rest) Q δ :=
  AOps.valw _ hd (fun κ a w r => ⟨.bool !b, fun w' _ => by simp [execOp, r.lit hx ho, Op.unary], .pv (.lit _)⟩) hK
theorem AOps.negw {x : Operand} {t : TypeId} {m : Int} (hx : δ.ev x = litI m) (ho : okT x = true) (hd : okD δ.n dst = true) (hK : AOps q P g ops rest Q (δ.putd dst (litI (IntKind.i64.wrap (0 - m))))) :
    AOps q P g ops (⟨dst, .unOp .neg t x, ty, pos, af, none⟩ :: rest) Q δ :=
  AOps.valw _ hd (fun κ a w r => ⟨.int .i64 (IntKind.i64.wrap (0 - m)), fun w' _ => by simp [execOp, r.lit hx ho, Op.unary, Op.intArith], .pv (.lit _)⟩) hK
theorem AOps.neg {x : Operand} {t : TypeId} {m : Int} (hx : δ.ev x = litI m) (ho : okT x = true) (hd : okD δ.n dst = true) (hb : -9223372036854775808 ≤ 0 - m ∧ 0 - m ≤ 9223372036854775807) (hK : AOps q P g ops rest Q (δ.putd dst (litI (-m)))) :
    AOps q P g ops (⟨dst, .unOp .neg t x, ty, pos, af, none⟩ :: rest) Q δ :=
  AOps.negw hx ho hd (by rw [IntWalk.i64_in _ hb, Int.zero_sub]; exact hK)
theorem AOps.conv {x : Operand} {s t : TypeId} {ks kt : IntKind} {d : TypeDesc} {m : Int} (hx : δ.ev x = .pv (.lit (.int ks m))) (hs : P.underlying s = some d) (ht : P.underlying t = some (.int kt)) (ho : okT x = true) (hd : okD δ.n dst = true)
    (hK : AOps q P g ops rest Q (δ.putd dst (.pv (.lit (.int kt (kt.wrap m)))))) : AOps q P g ops (⟨dst, .convert s t x, ty, pos, af, none⟩ :: rest) Q δ :=
  AOps.valw _ hd (fun κ a w r => ⟨.int kt (kt.wrap m), fun w' _ => by simp [execOp, r.lit hx ho, convert, run_underlying hs, run_underlying ht, Conv.intToInt], .pv (.lit _)⟩) hK
theorem AOps.extract {x : Operand} {i : Nat} {vs : List AV} {v : AV} (hx : δ.ev x = .tup vs) (hv : vs[i]? = some v) (ho : okT x = true) (hd : okD δ.n dst = true) (hK : AOps q P g ops rest Q (δ.putd dst v)) :
    AOps q P g ops (⟨dst, .extract x i, ty, pos, af, none⟩ :: rest) Q δ :=
  AOps.valw _ hd (fun κ a w r => by
    have h1 := r.ra hx ho
    generalize hu : a.eval x = u at h1
    cases h1 with
    | @tup us _ hs h =>
      have hlt : i < us.size := by rw [hs]; exact (List.getElem?_eq_some_iff.1 hv).1
      refine ⟨us[i], fun w' _ => by simp [execOp, hu, Instr.extract, Array.getElem?_eq_getElem hlt], h i _ _ (Array.getElem?_eq_getElem hlt) hv⟩) hK
theorem AOps.nilCheck_ptr {x : Operand} {i off : Nat} (hx : δ.ev x = .ptr i off) (ho : okT x = true) (hd : okD δ.n dst = true) (hK : AOps q P g ops rest Q (δ.putd dst (.ptr i off))) :
    AOps q P g ops (⟨dst, .nilCheck x, ty, pos, af, none⟩ :: rest) Q δ :=
  AOps.valw _ hd (fun κ a w r => by
    have h1 := r.ra hx ho
    generalize hu : a.eval x = u at h1
    cases h1 with
    | ptr hl hκ => exact ⟨_, fun w' _ => by simp [execOp, hu], .ptr hl hκ⟩) hK

end Go.Ab
