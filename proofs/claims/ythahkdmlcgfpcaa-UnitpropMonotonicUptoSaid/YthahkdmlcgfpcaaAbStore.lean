/- AbStore -/
import Derived.Test.YthahkdmlcgfpcaaAbAll
set_option linter.unusedSimpArgs false
set_option linter.unusedVariables false
/- A number turned into an int. -/
namespace Go.Ab
open Go Go.RowKit
variable {P : Program} {g : Ghost} {δ : DS} {q : Md}
variable {ops : Array Oper} {rest : List Oper} {Q : Exit → DS → Prop} {dst : Option Nat} {ty : TypeId} {pos : String} {af : Array Edge}
theorem AOps.convI {x : Operand} {s t : TypeId} {ks : IntKind} {d : TypeDesc} {m : Int} (hx : δ.ev x = .pv (.lit (.int ks m))) (hs : P.underlying s = some d) (ht : P.underlying t = some (.int .i64)) (ho : okT x = true) (hd : okD δ.n dst = true)
    (hb : -9223372036854775808 ≤ m ∧ m ≤ 9223372036854775807) (hK : AOps q P g ops rest Q (δ.putd dst (litI m))) : AOps q P g ops (⟨dst, .convert s t x, ty, pos, af, none⟩ :: rest) Q δ :=
  AOps.conv hx hs ht ho hd (by rw [IntWalk.i64_in _ hb]; exact hK)
end Go.Ab
/- One shifted left by a number; bool slices. -/
namespace Go.Ab
open Go Go.RowKit
variable {P : Program} {g : Ghost} {δ : DS} {q : Md}
variable {ops : Array Oper} {rest : List Oper} {Q : Exit → DS → Prop} {dst : Option Nat} {ty : TypeId} {pos : String} {af : Array Edge}
theorem run_shl (t : TypeId) (x y : Operand) (m n : Int) (h0 : 0 ≤ n) (h1 : n < 64) (w : World) :
    (do eqGuard .shl t x y (.int .i64 m) (.int .i64 n); Go.binOp .shl t (.int .i64 m) (.int .i64 n) : Sem Value).run P w = .ok (.int .i64 (IntKind.i64.wrap (m * 2 ^ n.toNat))) w := by
  have h1 : (eqGuard .shl t x y (.int .i64 m) (.int .i64 n)).run P w = .ok () w := by
    unfold eqGuard
    simp [Sem.run, pure, Sem.bind, bind]
  have h2 : Go.binOp .shl t (.int .i64 m) (.int .i64 n) = .pure (.int .i64 (IntKind.i64.wrap (m * 2 ^ n.toNat))) := by
    have h3 : ¬ n < 0 := by omega
    have h4 : n.toNat < 64 := by omega
    simp [Go.binOp, Op.shift, h3, IntKind.bits, h4, Int.shiftLeft_eq]
    first | rfl | done
  simp only [Sem.run_bind, h1, Result.andThen_ok, h2]
  rfl
theorem AOps.shl {x y : Operand} {t t' : TypeId} {m n : Int} (hx : δ.ev x = litI m) (hy : δ.ev y = litI n) (ho : okT x = true) (ho' : okT y = true) (hd : okD δ.n dst = true) (h0 : 0 ≤ n ∧ n < 64)
    (hK : AOps q P g ops rest Q (δ.putd dst (litI (IntKind.i64.wrap (m * 2 ^ n.toNat))))) : AOps q P g ops (⟨dst, .binOp .shl t x y t', ty, pos, af, none⟩ :: rest) Q δ :=
  AOps.bin hx hy ho ho' (run_shl _ _ _ _ _ h0.1 h0.2) hd hK
end Go.Ab
/- A slice made with make: a row of zeros. -/
namespace Go.Ab
open Go Go.RowKit
variable {P : Program} {g : Ghost} {δ : DS} {q : Md}
variable {ops : Array Oper} {rest : List Oper} {Q : Exit → DS → Prop} {dst : Option Nat} {ty : TypeId} {pos : String} {af : Array Edge}
theorem Eff.makeSlice1 {gd : Option (Tmp × Bool)} {t e : TypeId} {x y : Operand} {m : Int} {z : Value} {by' : Nat} (hx : δ.ev x = litI m) (hy : δ.ev y = litI m) (ht : P.underlying t = some (.slice e)) (hi : (P.info? e).map (fun i => (i.size, i.zero, i.bytes)) = some (1, some z, by')) (hzc : z.cells = #[z]) (h1 : z.oneCell' = true) (hb : Nat.ble by' 64 = true)
    (ho : okT x = true) (ho' : okT y = true) (hd : okD δ.n dst = true) (hm : 0 ≤ m ∧ m ≤ 100000) :
    Eff P g ⟨dst, .makeSlice t x y, ty, pos, af, gd⟩ δ ((δ.addOb .row).putd dst (.own δ.nx e 1 (List.replicate m.toNat [.lit z]))) := by
  intro κ a w r
  have hb' : by' ≤ 64 := by simpa using hb
  obtain ⟨i0, hi0, hs0, hz0, hb0⟩ : ∃ i0, P.info? e = some i0 ∧ i0.size = 1 ∧ i0.zero = some z ∧ i0.bytes = by' := by
    cases h : P.info? e with
    | none => rw [h] at hi; simp at hi
    | some i0 => rw [h] at hi; simp at hi; exact ⟨i0, rfl, hi.1, hi.2.1, hi.2.2⟩
  have hxe := r.lit hx ho
  have hye := r.lit hy ho'
  have hwr : IntKind.i64.wrap m = m := IntWalk.i64_in _ (by omega)
  generalize hc' : ((Array.range m.toNat).map (fun _ => z)) = c'
  have hcs : c'.size = m.toNat := by rw [← hc']; simp
  have hmul : by' * m.toNat ≤ 6400000 := by
    have h1 : by' * m.toNat ≤ 64 * m.toNat := Nat.mul_le_mul_right _ hb'
    omega
  have hmulI : (by' : Int) * m ≤ 6400000 := by
    have : ((by' * m.toNat : Nat) : Int) ≤ 6400000 := by omega
    rw [Int.natCast_mul, Int.toNat_of_nonneg hm.1] at this
    exact this
  have hrun : (execOp a.eval ⟨dst, .makeSlice t x y, ty, pos, af, gd⟩).run P w = .ok (.value (.slice (some ⟨w.heap.size, 0, none⟩) m.toNat m.toNat)) (w.alloc (.cells c' e)) := by
    have hti : ∀ w, (typeInfo e).run P w = .ok i0 w := fun w => by simp [typeInfo, hi0]
    have hzr : ∀ w, (zeroValue e).run P w = .ok z w := fun w => by simp [zeroValue, typeInfo, hi0, hz0]
    have hsr : ∀ w, (sizeOf e).run P w = .ok 1 w := fun w => by simp [sizeOf, typeInfo, hi0, hs0]
    have has : ∀ w, (asInt (.int .i64 m)).run P w = .ok m w := fun w => by simp [asInt, asIntOf, Sem.run_bind, Sem.run_pure, Result.andThen_ok]
    have hbig : ¬ (by' : Int) * m > 2 ^ 48 := by
      have : (2 : Int) ^ 48 = 281474976710656 := by decide
      omega
    have hneg : ¬ m < 0 := by omega
    have hroom : ¬ m.toNat * by' > roomBytes := by
      have : (6400000 : Nat) ≤ roomBytes := by decide
      have h2 : m.toNat * by' = by' * m.toNat := Nat.mul_comm _ _
      omega
    have hce : (Array.range (m.toNat * 1)).map (fun j => (#[z] : Array Value)[j % (#[z] : Array Value).size]!) = c' := by
      rw [← hc', Nat.mul_one]
      apply Array.ext
      · simp
      · intro i h1 h2
        simp [Nat.mod_one]
    simp only [execOp, Instr.makeSlice, Sem.run_bind, Result.andThen_ok, run_underlying ht, hxe, hye, has, hti, hb0, hwr]
    simp only [decide_eq_false hbig, decide_eq_false hneg, Bool.or_false, Bool.false_or, Int.lt_irrefl, decide_false, gt_iff_lt, Bool.false_eq_true, if_false, askRoom, Sem.run_pure, Result.andThen_ok, Sem.run_bind]
    have hroom' : ¬ roomBytes < m.toNat * by' := hroom
    simp only [if_neg hroom', Sem.run_pure, Result.andThen_ok, hsr]
    by_cases h0 : m.toNat * 1 = 0
    · have hce0 : (Array.range (m.toNat * 1)).map (fun j => (#[] : Array Value)[j % (#[] : Array Value).size]!) = c' := by
        rw [← hc', h0, show m.toNat = 0 from by omega]; simp [Array.range_zero']
      simp only [if_pos h0, Sem.run_bind, Sem.run_pure, Result.andThen_ok, newRow]
      simp only [pure_bind, hce0]
      rfl
    · simp only [if_neg h0, Sem.run_bind, Sem.run_pure, Result.andThen_ok, hzr, newRow, hzc, hce]
      rfl
  have hmax : m.toNat ≤ maxLen := by simp only [maxLen]; omega
  obtain ⟨r', G⟩ := r.grow .row (.cells c' e) (fun C G hκ b hb => by
    have : w.heap.size = b := Option.some.inj (hκ.symm.trans hb)
    subst this
    exact ⟨c', e, heap_alloc_new w _⟩)
  have hrow := World.ownsRow_lit (base := g.B) (e := e) (size := 1) w c' m.toNat r.hB hmax (by rw [hcs]; omega)
  have hat : ∀ (j : Nat) (u : Value), c'.toList[j]? = some u → u = z := by
    intro j u h
    rw [← hc'] at h
    simp at h
    exact h.2.symm
  refine .inl ⟨_, _, _, _, hrun, .inl rfl, r'.putd (okD_spec hd) (.own ?_)⟩
  refine ⟨by show (δ.addOb .row).ob _ = _; rw [ob_addOb, if_pos rfl], by rw [List.length_replicate]; omega, fun c hc => by rw [List.eq_of_mem_replicate hc]; rfl, fun b hb => ?_, c'.toList, by rw [List.length_replicate]; exact hrow, fun u hu => ?_, fun i' j p hp' => ?_⟩
  · simp only [Value.ownBlock, Option.some.injEq] at hb
    subst hb
    show upd _ _ _ _ = _
    simp [upd]
  · obtain ⟨j, hj⟩ := List.getElem?_of_mem hu
    rw [hat j u hj]; exact h1
  · unfold cellAt at hp'
    have hi : i' < m.toNat := by
      rcases Nat.lt_or_ge i' m.toNat with h | h
      · exact h
      · rw [List.getElem?_eq_none (by simpa using h)] at hp'; simp at hp'
    rw [List.getElem?_replicate, if_pos hi] at hp'
    have hj : j = 0 ∧ p = .lit z := by
      cases j with
      | zero => simp at hp'; exact ⟨rfl, hp'.symm⟩
      | succ j => simp at hp'
    obtain ⟨rfl, rfl⟩ := hj
    refine ⟨z, ?_, .lit _⟩
    rw [Array.getElem?_toList, ← hc']
    simp [hi]
end Go.Ab
namespace Go.Ab
open Go Go.RowKit
variable {P : Program} {g : Ghost} {δ : DS} {q : Md}
variable {ops : Array Oper} {rest : List Oper} {Q : Exit → DS → Prop} {dst : Option Nat} {ty : TypeId} {pos : String} {af : Array Edge}
theorem AOps.makeSlice1 {t e : TypeId} {x y : Operand} {m : Int} {z : Value} {by' : Nat} (hx : δ.ev x = litI m) (hy : δ.ev y = litI m) (ht : P.underlying t = some (.slice e)) (hi : (P.info? e).map (fun i => (i.size, i.zero, i.bytes)) = some (1, some z, by')) (hzc : z.cells = #[z]) (h1 : z.oneCell' = true) (hb : Nat.ble by' 64 = true)
    (ho : okT x = true) (ho' : okT y = true) (hd : okD δ.n dst = true) (hm : 0 ≤ m ∧ m ≤ 100000) (hK : AOps .plain P g ops rest Q ((δ.addOb .row).putd dst (.own δ.nx e 1 (List.replicate m.toNat [.lit z])))) :
    AOps .plain P g ops (⟨dst, .makeSlice t x y, ty, pos, af, none⟩ :: rest) Q δ := AOps.eff rfl rfl (Eff.makeSlice1 hx hy ht hi hzc h1 hb ho ho' hd hm) hK
end Go.Ab
/- A store into an element of a row of the walk's own (elements of one cell). -/
namespace Go.Ab
open Go Go.RowKit
variable {P : Program} {g : Ghost} {δ : DS} {q : Md}
variable {ops : Array Oper} {rest : List Oper} {Q : Exit → DS → Prop} {dst : Option Nat} {ty : TypeId} {pos : String} {af : Array Edge}
def stor1F (i n : Nat) (c : List PV) : AV → AV
  | .own j e k els => bif Nat.beq i j then (bif Nat.beq k 1 then .own j e k (els.set n c) else .any) else .own j e k els
  | .optr j e k els m => bif Nat.beq i j then .any else .optr j e k els m
  | v => v
def AV.stor1 (i n : Nat) (c : List PV) : AV → AV := AV.mp (stor1F i n c)
theorem Eff.store_o1 {gd : Option (Tmp × Bool)} {x y : Operand} {t e : TypeId} {i idx : Nat} {els : List (List PV)} {p : PV} (hx : δ.ev x = .optr i e 1 els idx) (hy : δ.ev y = .pv p) (hr : δ.ob i = some .row) (ht : (P.info? t).map (·.size) = some 1) (h1 : AV.one (.pv p) = true)
    (ho : okT x = true) (ho' : okT y = true) (hd : okD δ.n dst = true) :
    Eff P g ⟨dst, .store t x y, ty, pos, af, gd⟩ δ ((δ.mapV (AV.stor1 i idx [p])).putd dst .any) := by
  intro κ a w r
  have hxa := r.ra hx ho
  have hyv := r.ra hy ho'
  have hone := hyv.one h1
  generalize hxe : a.eval x = u at hxa
  cases hxa with
  | @optr _ _ _ _ _ b cap hi h =>
    have hκ : κ i = some b := h.blk b rfl
    obtain ⟨xs, ⟨hxl, hown⟩, hxo, hxc⟩ := h.row
    rcases hown with ⟨hn, _⟩ | ⟨g0, cap0, cur, hv, hg, h3, hle, hcm, hcs, htk⟩
    · cases hn
    · simp only [Value.slice.injEq, Option.some.injEq, Addr.mk.injEq] at hv
      obtain ⟨⟨rfl, _⟩, _, rfl⟩ := hv
      have hrun : (execOp a.eval ⟨dst, .store t x y, ty, pos, af, gd⟩).run P w = .ok .skip (w.setCell ⟨b, idx * 1, none⟩ (a.eval y)) := by
        obtain ⟨i0, hi0, hs0⟩ : ∃ i0, P.info? t = some i0 ∧ i0.size = 1 := by
          cases h : P.info? t with
          | none => rw [h] at ht; simp at ht
          | some i0 => rw [h] at ht; exact ⟨i0, rfl, by simpa using ht⟩
        have hc : w.cell? ⟨b, idx * 1, none⟩ = some (cur[idx * 1]'(by omega)) := by rw [cell_of h3, Array.getElem?_eq_getElem (by omega)]
        have hst : (store ⟨b, idx * 1, none⟩ (a.eval y)).run P w = .ok () (w.setCell ⟨b, idx * 1, none⟩ (a.eval y)) := by
          rw [run_store P w _ _ _ hone, hc]; simp [frozen_of h3]
        rw [Nat.mul_one] at hst ⊢
        rw [Nat.mul_one] at hxe
        simp [execOp, Instr.storeAt, Instr.sureAddr, storeVar, hxe, cells_one hone, sizeOf, typeInfo, hi0, hs0, storeCells, addr_add, hst]
      obtain ⟨r', G⟩ := r.row hr (κ' := κ) (fun _ _ => rfl) (by rw [hκ]; exact Turns.setCell w ⟨b, idx * 1, none⟩ (a.eval y)) (fun b' hb' => by
          have e1 : b = b' := Option.some.inj (hκ.symm.trans hb')
          subst e1
          refine ⟨.inl hκ, ?_, _, _, setCell_heap h3 _⟩
          have := (Array.getElem?_eq_some_iff.1 (setCell_heap (off := idx * 1) h3 (a.eval y))).1
          exact this)
        (AV.stor1 i idx [p]) rfl (fun G v av hva => by
          refine hva.mp G rfl (fun j e' k' els' hj => ?_) (fun j e' k' els' n hj => ?_) (fun v' e' k' els' ho2 => ?_) (fun b' cap' e' k' els' n _ _ => ?_)
          · simp only [stor1F, beq_ne (Ne.symm hj)]; rfl
          · simp only [stor1F, beq_ne (Ne.symm hj)]; rfl
          · simp only [stor1F, beq_self, cond_true]
            cases hk1 : Nat.beq k' 1 with
            | false => exact .any _
            | true =>
              obtain rfl : k' = 1 := Nat.eq_of_beq_eq_true hk1
              obtain ⟨xs', ⟨hxl', hown'⟩, hxo', hxc'⟩ := ho2.row
              refine .own ⟨?_, by rw [List.length_set]; exact ho2.lim, ?_, ho2.blk, xs'.set idx (a.eval y), ?_, ?_, ?_⟩
              · show (δ.mapV _).ob i = _
                rw [ob_mapV, hr]; rfl
              · intro c hc
                rcases List.mem_or_eq_of_mem_set hc with hc | rfl
                · exact ho2.hk c hc
                · rfl
              · rw [List.length_set]
                refine ⟨by rw [List.length_set]; exact hxl', ?_⟩
                rcases hown' with ⟨hn, h0⟩ | ⟨g1, cap1, cur1, hv1, hg1, h31, hle1, hcm1, hcs1, htk1⟩
                · exact .inl ⟨hn, h0⟩
                · have hb1 : κ i = some g1 := ho2.blk g1 (by rw [hv1]; rfl)
                  have e1 : b = g1 := Option.some.inj (hκ.symm.trans hb1)
                  subst e1
                  rw [h3] at h31
                  simp only [Option.some.injEq, Obj.cells.injEq] at h31
                  obtain ⟨rfl, rfl, _⟩ := h31
                  refine .inr ⟨b, cap1, _, hv1, hg1, setCell_heap h3 _, hle1, hcm1, by simpa using hcs1, ?_⟩
                  rw [← htk1, Array.toList_setIfInBounds, Nat.mul_one, Nat.mul_one, List.take_set]
              · intro u hu
                rcases List.mem_or_eq_of_mem_set hu with hu | rfl
                · exact hxo' u hu
                · exact hone
              · intro i' j q hq
                unfold cellAt at hq
                rw [List.getElem?_set] at hq
                by_cases hii : idx = i'
                · subst hii
                  by_cases hlt : idx < els'.length
                  · rw [if_pos rfl, if_pos hlt] at hq
                    have hjq : j = 0 ∧ q = p := by
                      cases j with
                      | zero => simp at hq; exact ⟨rfl, hq.symm⟩
                      | succ j => simp at hq
                    obtain ⟨rfl, rfl⟩ := hjq
                    refine ⟨a.eval y, ?_, G.rp (C := (δ.cx g κ).less i) hyv.pv_inv⟩
                    rw [List.getElem?_set, if_pos (by omega), if_pos (by omega)]
                  · rw [if_pos rfl, if_neg hlt] at hq; simp at hq
                · rw [if_neg hii] at hq
                  obtain ⟨u, hu, hu2⟩ := hxc' i' j q (by unfold cellAt; exact hq)
                  have hj : j = 0 := by
                    rw [Option.bind_eq_some_iff] at hq
                    obtain ⟨c, hc1, hc2⟩ := hq
                    have := ho2.hk c (List.mem_of_getElem? hc1)
                    have := (List.getElem?_eq_some_iff.1 hc2).1
                    omega
                  subst hj
                  exact ⟨u, by rw [List.getElem?_set, if_neg (by omega)]; exact hu, G.rp (C := (δ.cx g κ).less i) hu2⟩
          · simp only [stor1F, beq_self, cond_true]; exact .any _)
      exact .inl ⟨_, _, _, _, hrun, .inr ⟨rfl, rfl⟩, r'.putd (okD_spec hd) (.any _)⟩
theorem AOps.store_o1 {x y : Operand} {t e : TypeId} {i idx : Nat} {els : List (List PV)} {p : PV} (hx : δ.ev x = .optr i e 1 els idx) (hy : δ.ev y = .pv p) (hr : δ.ob i = some .row) (ht : (P.info? t).map (·.size) = some 1) (h1 : AV.one (.pv p) = true)
    (ho : okT x = true) (ho' : okT y = true) (hd : okD δ.n dst = true) (hK : AOps .plain P g ops rest Q ((δ.mapV (AV.stor1 i idx [p])).putd dst .any)) : AOps .plain P g ops (⟨dst, .store t x y, ty, pos, af, none⟩ :: rest) Q δ :=
  AOps.eff rfl rfl (Eff.store_o1 hx hy hr ht h1 ho ho' hd) hK
end Go.Ab
