/- Equality of pairs; bools compared. -/
import Derived.Test.YthahkdmlcgfpcaaAbRead
import Derived.ChangeKeysEq
import Derived.Laws.StructEq
set_option linter.unusedSimpArgs false
set_option linter.unusedVariables false
namespace Go.Ab
open Go Go.RowKit
variable {q : Md} {P : Program} {g : Ghost} {δ : DS} {κ : Nat → Option Nat} {a : Act} {w : World}
variable {ops : Array Oper} {rest : List Oper} {Q : Exit → DS → Prop} {dst : Option Nat} {ty : TypeId} {pos : String} {af : Array Edge}

theorem run_part1 {e : TypeId} {xs : Array Value} {j : Nat} {v : Value} (hs : scalarT P e = true) (h : xs[j]? = some v) (w : World) : (part e xs j).run P w = .ok v w := by
  have := run_isAgg_scalar hs w
  simp [part, this, h]
theorem run_eqarr2 {t e : TypeId} {i : TypeInfo} {op : BinOp} (hop : op = .eql ∨ op = .neq) {x y : Operand} {m n m' n' : Int} (hu : P.underlying t = some (.array 2 e)) (hi : P.info? e = some i) (hs : i.size = 1) (he : P.underlying e = some (.int .i64)) (hg : P.eqGuardType P.depth t = false) (w : World) :
    (do eqGuard op t x y (.agg #[.int .i64 m, .int .i64 n]) (.agg #[.int .i64 m', .int .i64 n']); Go.binOp op t (.agg #[.int .i64 m, .int .i64 n]) (.agg #[.int .i64 m', .int .i64 n']) : Sem Value).run P w
      = .ok (.bool (if op = .eql then decide (m = m' ∧ n = n') else decide (¬ (m = m' ∧ n = n')))) w := by
  have hsc : scalarT P e = true := by unfold scalarT; rw [he]
  have hc : P.cellsOf e = 1 := by simp [Program.cellsOf, hi, hs]
  have h1 : ∀ w, (Op.equalIn 10000 t (.agg #[.int .i64 m, .int .i64 n]) (.agg #[.int .i64 m', .int .i64 n'])).run P w = .ok (decide (m = m' ∧ n = n')) w := by
    intro w
    rw [run_equalIn_array w 9999 _ _ hu hi, hc]
    have e1 : List.range 2 = [0, 1] := rfl
    rw [e1]
    simp only [Op.eqItems, Sem.run_bind, run_part1 hsc (show (#[Value.int .i64 m, Value.int .i64 n] : Array Value)[0 * 1]? = some (.int .i64 m) from rfl), run_part1 hsc (show (#[Value.int .i64 m', Value.int .i64 n'] : Array Value)[0 * 1]? = some (.int .i64 m') from rfl),
      run_part1 hsc (show (#[Value.int .i64 m, Value.int .i64 n] : Array Value)[1 * 1]? = some (.int .i64 n) from rfl), run_part1 hsc (show (#[Value.int .i64 m', Value.int .i64 n'] : Array Value)[1 * 1]? = some (.int .i64 n') from rfl), Result.andThen_ok, run_equalIn_int w 9998 e .i64 .i64 _ _ he]
    have p1 : ∀ w, (part e #[.int .i64 m, .int .i64 n] 1).run P w = .ok (.int .i64 n) w := fun w => run_part1 hsc rfl w
    have p2 : ∀ w, (part e #[.int .i64 m', .int .i64 n'] 1).run P w = .ok (.int .i64 n') w := fun w => run_part1 hsc rfl w
    have p3 := fun (a b : Int) w => run_equalIn_int (P := P) w 9998 e .i64 .i64 a b he
    by_cases h2 : m = m'
    · by_cases h3 : n = n'
      · subst h2; subst h3; simp [p1, p3]
      · subst h2; simp [p1, p2, p3, h3]
    · simp [h2]
  rw [Sem.run_bind, run_eqGuard_agg w op t x y _ _ hg, Result.andThen_ok]
  rcases hop with rfl | rfl
  · rw [run_eql_struct, h1]; rfl
  · rw [run_neq_struct, h1, Result.andThen_ok]; simp
theorem AOps.binAgg {op : BinOp} {x y : Operand} {t t' : TypeId} {m n m' n' : Int} {c : Value} (hx : δ.ev x = .agg [litI m, litI n]) (hy : δ.ev y = .agg [litI m', litI n']) (ho : okT x = true) (ho' : okT y = true)
    (hr : ∀ w, (do eqGuard op t x y (.agg #[.int .i64 m, .int .i64 n]) (.agg #[.int .i64 m', .int .i64 n']); Go.binOp op t (.agg #[.int .i64 m, .int .i64 n]) (.agg #[.int .i64 m', .int .i64 n']) : Sem Value).run P w = .ok c w) (hd : okD δ.n dst = true) (hK : AOps q P g ops rest Q (δ.putd dst (.pv (.lit c)))) :
    AOps q P g ops (⟨dst, .binOp op t x y t', ty, pos, af, none⟩ :: rest) Q δ :=
  AOps.valw _ hd (fun κ a w r => ⟨c, fun w' _ => by
    have two : ∀ {z : Operand} {m n : Int}, δ.ev z = .agg [litI m, litI n] → okT z = true → a.eval z = .agg #[.int .i64 m, .int .i64 n] := by
      intro z m n hz hoz
      have h := r.ra hz hoz
      generalize a.eval z = u at h
      cases h with
      | @agg vs _ hs h =>
        have h0 := h 0 _ _ (Array.getElem?_eq_getElem (by simp [hs])) rfl
        have h1 := h 1 _ _ (Array.getElem?_eq_getElem (by simp [hs])) rfl
        have e0 := h0.lit
        have e1 := h1.lit
        congr 1
        apply Array.ext (by simp [hs])
        intro j h2 h3
        match j, h3 with
        | 0, _ => exact e0
        | 1, _ => exact e1
    have h1 := two hx ho
    have h2 := two hy ho'
    have := hr w'
    simp only [execOp, h1, h2]
    simp only [Sem.run_bind, this, Result.andThen_ok] at *
    first | rfl | simp [this], .pv (.lit c)⟩) hK
theorem AOps.eql2 {x y : Operand} {t e t' : TypeId} {i : TypeInfo} {m n m' n' : Int} (hx : δ.ev x = .agg [litI m, litI n]) (hy : δ.ev y = .agg [litI m', litI n']) (hu : P.underlying t = some (.array 2 e)) (hi : P.info? e = some i) (hs : i.size = 1) (he : P.underlying e = some (.int .i64)) (hg : P.eqGuardType P.depth t = false)
    (ho : okT x = true) (ho' : okT y = true) (hd : okD δ.n dst = true) (hK : AOps q P g ops rest Q (δ.putd dst (litB (decide (m = m' ∧ n = n'))))) : AOps q P g ops (⟨dst, .binOp .eql t x y t', ty, pos, af, none⟩ :: rest) Q δ :=
  AOps.binAgg hx hy ho ho' (fun w => run_eqarr2 (.inl rfl) hu hi hs he hg w) hd (by simpa using hK)
theorem AOps.neq2 {x y : Operand} {t e t' : TypeId} {i : TypeInfo} {m n m' n' : Int} (hx : δ.ev x = .agg [litI m, litI n]) (hy : δ.ev y = .agg [litI m', litI n']) (hu : P.underlying t = some (.array 2 e)) (hi : P.info? e = some i) (hs : i.size = 1) (he : P.underlying e = some (.int .i64)) (hg : P.eqGuardType P.depth t = false)
    (ho : okT x = true) (ho' : okT y = true) (hd : okD δ.n dst = true) (hK : AOps q P g ops rest Q (δ.putd dst (litB (decide (¬ (m = m' ∧ n = n')))))) : AOps q P g ops (⟨dst, .binOp .neq t x y t', ty, pos, af, none⟩ :: rest) Q δ :=
  AOps.binAgg hx hy ho ho' (fun w => run_eqarr2 (.inr rfl) hu hi hs he hg w) hd (by simpa using hK)
/-- bools compared. -/
theorem run_eqb (op : BinOp) (hop : op = .eql ∨ op = .neq) (t : TypeId) (x y : Operand) (ht : P.underlying t = some .bool) (m n : Bool) (w : World) :
    (do eqGuard op t x y (.bool m) (.bool n); Go.binOp op t (.bool m) (.bool n) : Sem Value).run P w = .ok (.bool (if op = .eql then decide (m = n) else decide (¬ m = n))) w := by
  have h1 : (eqGuard op t x y (.bool m) (.bool n)).run P w = .ok () w := by
    unfold eqGuard
    cases op <;> simp [Sem.run, pure, Sem.bind, bind]
  rw [Sem.run_bind, h1, Result.andThen_ok]
  have h2 := run_equalIn_bool' (P := P) w 9999 t m n ht
  rcases hop with rfl | rfl
  · simp [Go.binOp, Op.equal, Op.maxDepth, h2]; cases m <;> cases n <;> rfl
  · simp [Go.binOp, Op.equal, Op.maxDepth, h2]; cases m <;> cases n <;> rfl
theorem AOps.eqlB {x y : Operand} {t t' : TypeId} {m n : Bool} (hx : δ.ev x = litB m) (hy : δ.ev y = litB n) (ht : P.underlying t = some .bool) (ho : okT x = true) (ho' : okT y = true) (hd : okD δ.n dst = true)
    (hK : AOps q P g ops rest Q (δ.putd dst (litB (decide (m = n))))) : AOps q P g ops (⟨dst, .binOp .eql t x y t', ty, pos, af, none⟩ :: rest) Q δ :=
  AOps.bin hx hy ho ho' (fun w => run_eqb _ (.inl rfl) t x y ht m n w) hd (by simpa using hK)
theorem AOps.neqB {x y : Operand} {t t' : TypeId} {m n : Bool} (hx : δ.ev x = litB m) (hy : δ.ev y = litB n) (ht : P.underlying t = some .bool) (ho : okT x = true) (ho' : okT y = true) (hd : okD δ.n dst = true)
    (hK : AOps q P g ops rest Q (δ.putd dst (litB (decide (¬ m = n))))) : AOps q P g ops (⟨dst, .binOp .neq t x y t', ty, pos, af, none⟩ :: rest) Q δ :=
  AOps.bin hx hy ho ho' (fun w => run_eqb _ (.inr rfl) t x y ht m n w) hd (by simpa using hK)
def pvL : List PV → List AV
  | [] => []
  | p :: r => .pv p :: pvL r
theorem pvL_eq : ∀ l : List PV, l.map AV.pv = pvL l
  | [] => rfl
  | p :: r => by rw [List.map_cons, pvL_eq r]; rfl
theorem Nf.pl0 : pvL [] = [] := rfl
theorem Nf.pl1 (p : PV) (r : List PV) : pvL (p :: r) = .pv p :: pvL r := rfl
theorem Nf.pl : ∀ l : List PV, l.map AV.pv = pvL l := pvL_eq
theorem AOps.slice_toL {t e : TypeId} {x y : Operand} {k : Nat} {m : Int} {els : List (List PV)} (hx : δ.ev x = .pv (.slice k els)) (hy : δ.ev y = litI m) (ht : P.underlying t = some (.slice e)) (hk : (P.info? e).map (·.size) = some k)
    (ho : okT x = true) (ho' : okT y = true) (hd : okD δ.n dst = true) (h0 : (decide (0 ≤ m)) = true) (hn : Nat.ble m.toNat els.length = true) (hK : AOps q P g ops rest Q (δ.putd dst (.pv (.slice k (els.take m.toNat))))) : AOps q P g ops (⟨dst, .slice t x none (some y) none, ty, pos, af, none⟩ :: rest) Q δ :=
  AOps.slice (l := 0) (h := m.toNat) (hi := some y) (lo := none) hx ht hk rfl ⟨ho', by rw [hy, Int.toNat_of_nonneg (by simpa using h0)]⟩ (Nat.zero_le _) (by simpa using hn) ho hd (by simpa using hK)
section
variable {α : Type} {f : α → List PV} {l : List α} {x y z : Operand} {t e : TypeId} {k : Nat} {m n : Int}
theorem AOps.slice_toI (hx : δ.ev x = .pv (.slice k (l.map f))) (hy : δ.ev y = litI n) (ht : P.underlying t = some (.slice e)) (hk : (P.info? e).map (·.size) = some k)
    (ho : okT x = true) (ho' : okT y = true) (hd : okD δ.n dst = true) (h0 : 0 ≤ n) (hn : n ≤ l.length) (hK : AOps q P g ops rest Q (δ.putd dst (.pv (.slice k ((l.take n.toNat).map f))))) : AOps q P g ops (⟨dst, .slice t x none (some y) none, ty, pos, af, none⟩ :: rest) Q δ :=
  AOps.slice_to (n := n.toNat) hx (by rw [hy, Int.toNat_of_nonneg h0]) ht hk ho ho' hd (by omega) hK
theorem AOps.slice_ftI (hx : δ.ev x = .pv (.slice k (l.map f))) (hz : δ.ev z = litI m) (hy : δ.ev y = litI n) (ht : P.underlying t = some (.slice e)) (hk : (P.info? e).map (·.size) = some k)
    (ho : okT x = true) (ho'' : okT z = true) (ho' : okT y = true) (hd : okD δ.n dst = true) (h0 : 0 ≤ m) (hmn : m ≤ n) (hn : n ≤ l.length) (hK : AOps q P g ops rest Q (δ.putd dst (.pv (.slice k (((l.drop m.toNat).take (n.toNat - m.toNat)).map f))))) :
    AOps q P g ops (⟨dst, .slice t x (some z) (some y) none, ty, pos, af, none⟩ :: rest) Q δ :=
  AOps.slice_ft (m := m.toNat) (n := n.toNat) hx (by rw [hz, Int.toNat_of_nonneg h0]) (by rw [hy, Int.toNat_of_nonneg (by omega)]) ht hk ho ho'' ho' hd (by omega) (by omega) hK
theorem AOps.slice_frI (hx : δ.ev x = .pv (.slice k (l.map f))) (hz : δ.ev z = litI m) (ht : P.underlying t = some (.slice e)) (hk : (P.info? e).map (·.size) = some k)
    (ho : okT x = true) (ho'' : okT z = true) (hd : okD δ.n dst = true) (h0 : 0 ≤ m) (hn : m ≤ l.length) (hK : AOps q P g ops rest Q (δ.putd dst (.pv (.slice k ((l.drop m.toNat).map f))))) :
    AOps q P g ops (⟨dst, .slice t x (some z) none none, ty, pos, af, none⟩ :: rest) Q δ :=
  AOps.slice (l := m.toNat) (h := (l.map f).length) (hi := none) (lo := some z) hx ht hk ⟨ho'', by rw [hz, Int.toNat_of_nonneg h0]⟩ rfl (by simp; omega) (Nat.le_refl _) ho hd (by
    have : ((l.map f).drop m.toNat).take ((l.map f).length - m.toNat) = (l.drop m.toNat).map f := by
      rw [List.take_of_length_le (by simp), List.map_drop]
    rw [this]; exact hK)
end
end Go.Ab
