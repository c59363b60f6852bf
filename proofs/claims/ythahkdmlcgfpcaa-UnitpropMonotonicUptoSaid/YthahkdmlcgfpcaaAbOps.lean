/- The operations' laws over abstract states, one by one. -/
import Derived.Test.YthahkdmlcgfpcaaAbRules
set_option linter.unusedSimpArgs false
set_option linter.unusedVariables false
namespace Go.Ab
open Go Go.RowKit
variable {q : Md} {P : Program} {g : Ghost} {δ : DS} {κ : Nat → Option Nat} {a : Act} {w : World}
variable {ops : Array Oper} {rest : List Oper} {Q : Exit → DS → Prop} {dst : Option Nat} {ty : TypeId} {pos : String} {af : Array Edge}

abbrev litI (n : Int) : AV := .pv (.lit (.int .i64 n))
abbrev litB (b : Bool) : AV := .pv (.lit (.bool b))

/-- the law of an operation that yields a value, at a written-out operation. -/
theorem AOps.valw {op : Op} (v : AV) (hd : okD δ.n dst = true)
    (h : ∀ κ a w, Rel g δ κ a w → ∃ u, (∀ w', Held δ κ w w' → (execOp a.eval ⟨dst, op, ty, pos, af, none⟩).run P w' = .ok (.value u) w') ∧ RA (δ.cx g κ) w u v) (hK : AOps q P g ops rest Q (δ.putd dst v)) (hnd : noDefer ⟨dst, op, ty, pos, af, none⟩ = true := by rfl) :
    AOps q P g ops (⟨dst, op, ty, pos, af, none⟩ :: rest) Q δ := AOps.val v rfl hnd hd h hK

theorem AOps.move {x : Operand} {v : AV} (hx : δ.ev x = v) (ho : okT x = true) (hd : okD δ.n dst = true) (hK : AOps q P g ops rest Q (δ.putd dst v)) : AOps q P g ops (⟨dst, .move x, ty, pos, af, none⟩ :: rest) Q δ :=
  AOps.valw v hd (fun κ a w r => ⟨a.eval x, fun _ _ => rfl, hx ▸ r.evc x (okT_spec ho)⟩) hK
theorem AOps.assign {x : Operand} {v : AV} (hx : δ.ev x = v) (ho : okT x = true) (hd : okD δ.n dst = true) (hK : AOps q P g ops rest Q (δ.putd dst v)) : AOps q P g ops (⟨dst, .assign x, ty, pos, af, none⟩ :: rest) Q δ :=
  AOps.valw v hd (fun κ a w r => ⟨a.eval x, fun _ _ => rfl, hx ▸ r.evc x (okT_spec ho)⟩) hK

theorem Rel.lit (r : Rel g δ κ a w) {x : Operand} {v : Value} (hx : δ.ev x = .pv (.lit v)) (ho : okT x = true) : a.eval x = v := (hx ▸ r.evc x (okT_spec ho)).lit

/-- two literals in, one literal out, by a run that is an equation. -/
theorem AOps.bin {op : BinOp} {x y : Operand} {t t' : TypeId} {u v c : Value} (hx : δ.ev x = .pv (.lit u)) (hy : δ.ev y = .pv (.lit v)) (ho : okT x = true) (ho' : okT y = true)
    (hr : ∀ w, (do eqGuard op t x y u v; Go.binOp op t u v : Sem Value).run P w = .ok c w) (hd : okD δ.n dst = true) (hK : AOps q P g ops rest Q (δ.putd dst (.pv (.lit c)))) :
    AOps q P g ops (⟨dst, .binOp op t x y t', ty, pos, af, none⟩ :: rest) Q δ :=
  AOps.valw _ hd (fun κ a w r => ⟨c, fun w' _ => by
    have h1 := r.lit hx ho
    have h2 := r.lit hy ho'
    have := hr w'
    simp only [execOp, h1, h2]
    simp only [Sem.run_bind, this, Result.andThen_ok] at *
    first | rfl | simp [this], .pv (.lit c)⟩) hK

theorem run_int (op : BinOp) (t : TypeId) (x y : Operand) (k : IntKind) (m n : Int) (c : Value) (hs : op ≠ .shl ∧ op ≠ .shr)
    (h : (match op with | .add | .sub | .mul => Op.intArith op k m n | .quo | .rem => Op.intDiv op k m n | .and | .or | .xor | .andNot => Op.intBits op k m n | _ => Op.intCmp op m n : Sem Value) = .pure c) (w : World) :
    (do eqGuard op t x y (.int k m) (.int k n); Go.binOp op t (.int k m) (.int k n) : Sem Value).run P w = .ok c w := by
  have h1 : (eqGuard op t x y (.int k m) (.int k n)).run P w = .ok () w := by
    unfold eqGuard
    cases op <;> simp [Sem.run, pure, Sem.bind, bind]
  have h2 : Go.binOp op t (.int k m) (.int k n) = .pure c := by
    rw [← h]
    cases op <;> first | exact absurd rfl hs.1 | exact absurd rfl hs.2 | simp [Go.binOp]
  simp only [Sem.run_bind, h1, Result.andThen_ok, h2]
  rfl

theorem beq_dec (m n : Int) : (m == n) = decide (m = n) := by by_cases h : m = n <;> simp [h]
theorem bne_dec (m n : Int) : (m != n) = decide (¬ m = n) := by by_cases h : m = n <;> simp [h]
section ints
variable {x y : Operand} {t t' : TypeId} {m n : Int} (hx : δ.ev x = litI m) (hy : δ.ev y = litI n) (ho : okT x = true) (ho' : okT y = true) (hd : okD δ.n dst = true)
include hx hy ho ho' hd

theorem AOps.addw (hK : AOps q P g ops rest Q (δ.putd dst (litI (IntKind.i64.wrap (m + n))))) : AOps q P g ops (⟨dst, .binOp .add t x y t', ty, pos, af, none⟩ :: rest) Q δ :=
  AOps.bin hx hy ho ho' (run_int _ _ _ _ _ _ _ _ (by simp) rfl) hd hK
theorem AOps.subw (hK : AOps q P g ops rest Q (δ.putd dst (litI (IntKind.i64.wrap (m - n))))) : AOps q P g ops (⟨dst, .binOp .sub t x y t', ty, pos, af, none⟩ :: rest) Q δ :=
  AOps.bin hx hy ho ho' (run_int _ _ _ _ _ _ _ _ (by simp) rfl) hd hK
theorem AOps.mulw (hK : AOps q P g ops rest Q (δ.putd dst (litI (IntKind.i64.wrap (m * n))))) : AOps q P g ops (⟨dst, .binOp .mul t x y t', ty, pos, af, none⟩ :: rest) Q δ :=
  AOps.bin hx hy ho ho' (run_int _ _ _ _ _ _ _ _ (by simp) rfl) hd hK

theorem AOps.add (hb : -9223372036854775808 ≤ m + n ∧ m + n ≤ 9223372036854775807) (hK : AOps q P g ops rest Q (δ.putd dst (litI (m + n)))) : AOps q P g ops (⟨dst, .binOp .add t x y t', ty, pos, af, none⟩ :: rest) Q δ :=
  AOps.addw hx hy ho ho' hd (by rw [IntWalk.i64_in _ hb]; exact hK)
theorem AOps.sub (hb : -9223372036854775808 ≤ m - n ∧ m - n ≤ 9223372036854775807) (hK : AOps q P g ops rest Q (δ.putd dst (litI (m - n)))) : AOps q P g ops (⟨dst, .binOp .sub t x y t', ty, pos, af, none⟩ :: rest) Q δ :=
  AOps.subw hx hy ho ho' hd (by rw [IntWalk.i64_in _ hb]; exact hK)
theorem AOps.mul (hb : -9223372036854775808 ≤ m * n ∧ m * n ≤ 9223372036854775807) (hK : AOps q P g ops rest Q (δ.putd dst (litI (m * n)))) : AOps q P g ops (⟨dst, .binOp .mul t x y t', ty, pos, af, none⟩ :: rest) Q δ :=
  AOps.mulw hx hy ho ho' hd (by rw [IntWalk.i64_in _ hb]; exact hK)
theorem AOps.rem (h0 : n ≠ 0) (hK : AOps q P g ops rest Q (δ.putd dst (litI (m.tmod n)))) : AOps q P g ops (⟨dst, .binOp .rem t x y t', ty, pos, af, none⟩ :: rest) Q δ :=
  AOps.bin hx hy ho ho' (run_int _ _ _ _ _ _ _ _ (by simp) (by simp [Op.intDiv, h0]; rfl)) hd hK
theorem AOps.quo (h0 : n ≠ 0) (hK : AOps q P g ops rest Q (δ.putd dst (litI (IntKind.i64.wrap (m.tdiv n))))) : AOps q P g ops (⟨dst, .binOp .quo t x y t', ty, pos, af, none⟩ :: rest) Q δ :=
  AOps.bin hx hy ho ho' (run_int _ _ _ _ _ _ _ _ (by simp) (by simp [Op.intDiv, h0]; rfl)) hd hK
theorem AOps.lss (hK : AOps q P g ops rest Q (δ.putd dst (litB (decide (m < n))))) : AOps q P g ops (⟨dst, .binOp .lss t x y t', ty, pos, af, none⟩ :: rest) Q δ :=
  AOps.bin hx hy ho ho' (run_int _ _ _ _ _ _ _ _ (by simp) rfl) hd hK
theorem AOps.leq (hK : AOps q P g ops rest Q (δ.putd dst (litB (decide (m ≤ n))))) : AOps q P g ops (⟨dst, .binOp .leq t x y t', ty, pos, af, none⟩ :: rest) Q δ :=
  AOps.bin hx hy ho ho' (run_int _ _ _ _ _ _ _ _ (by simp) rfl) hd hK
theorem AOps.gtr (hK : AOps q P g ops rest Q (δ.putd dst (litB (decide (n < m))))) : AOps q P g ops (⟨dst, .binOp .gtr t x y t', ty, pos, af, none⟩ :: rest) Q δ :=
  AOps.bin hx hy ho ho' (run_int _ _ _ _ _ _ _ _ (by simp) rfl) hd hK
theorem AOps.geq (hK : AOps q P g ops rest Q (δ.putd dst (litB (decide (n ≤ m))))) : AOps q P g ops (⟨dst, .binOp .geq t x y t', ty, pos, af, none⟩ :: rest) Q δ :=
  AOps.bin hx hy ho ho' (run_int _ _ _ _ _ _ _ _ (by simp) rfl) hd hK
theorem AOps.eql (hK : AOps q P g ops rest Q (δ.putd dst (litB (decide (m = n))))) : AOps q P g ops (⟨dst, .binOp .eql t x y t', ty, pos, af, none⟩ :: rest) Q δ :=
  AOps.bin hx hy ho ho' (run_int _ _ _ _ _ _ _ _ (by simp) (by simp only [Op.intCmp, beq_dec]; rfl)) hd hK
theorem AOps.neq (hK : AOps q P g ops rest Q (δ.putd dst (litB (decide (¬ m = n))))) : AOps q P g ops (⟨dst, .binOp .neq t x y t', ty, pos, af, none⟩ :: rest) Q δ :=
  AOps.bin hx hy ho ho' (run_int _ _ _ _ _ _ _ _ (by simp) (by simp only [Op.intCmp, bne_dec]; rfl)) hd hK
end ints

end Go.Ab
