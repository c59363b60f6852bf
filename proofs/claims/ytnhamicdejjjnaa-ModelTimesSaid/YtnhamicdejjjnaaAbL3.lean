/- A slice made with make: a row of zeros. -/
import Derived.Test.YtnhamicdejjjnaaAbL2
import Derived.WalkSpells
import Derived.Lib.SliceRun
import Derived.Laws.Small
import Derived.Scope
set_option linter.unusedSimpArgs false
set_option linter.unusedVariables false
namespace Go.Ab
open Go Go.RowKit
variable {P : Program} {g : Ghost} {δ : DS} {q : Md}
variable {ops : Array Oper} {rest : List Oper} {Q : Exit → DS → Prop} {dst : Option Nat} {ty : TypeId} {pos : String} {af : Array Edge}
theorem Eff.makeSlice1 {gd : Option (Tmp × Bool)} {t e : TypeId} {x y : Operand} {m : Int} {z : Value} {by' : Nat} (hx : δ.ev x = litI m) (hy : δ.ev y = litI m) (ht : P.underlying t = some (.slice e)) (hi : (P.info? e).map (fun i => (i.size, i.zero, i.bytes)) = some (1, some z, by')) (hzc : z.cells = #[z]) (h1 : z.oneCell' = true) (hb : Nat.ble by' 64 = true)
    (ho : okT x = true) (ho' : okT y = true) (hd : okD δ.n dst = true) (hm : 0 ≤ m ∧ m ≤ 100000) :
    Eff P g ⟨dst, .makeSlice t x y, ty, pos, af, gd⟩ δ ((δ.addOb .row).putd dst (.own δ.nx e 1 (List.replicate m.toNat [.lit z]))) := by
  intro κ a w r
  have hb' : by' ≤ 64 := by simpa using hb
  obtain ⟨i0, hi0, hs0, hz0, hb0⟩ : ∃ i0, P.info? e = some i0 ∧ i0.size = 1 ∧ i0.zero = some z ∧ i0.bytes = by' := by
    cases h : P.info? e with
    | none => rw [h] at hi; simp at hi
    | some i0 => rw [h] at hi; simp at hi; exact ⟨i0, rfl, hi.1, hi.2.1, hi.2.2⟩
  have hxe := r.lit hx ho
  have hye := r.lit hy ho'
  have hwr : IntKind.i64.wrap m = m := IntWalk.i64_in _ (by omega)
  generalize hc' : ((Array.range m.toNat).map (fun _ => z)) = c'
  have hcs : c'.size = m.toNat := by rw [← hc']; simp
  have hmul : by' * m.toNat ≤ 6400000 := by
    have h1 : by' * m.toNat ≤ 64 * m.toNat := Nat.mul_le_mul_right _ hb'
    omega
  have hmulI : (by' : Int) * m ≤ 6400000 := by
    have : ((by' * m.toNat : Nat) : Int) ≤ 6400000 := by omega
    rw [Int.natCast_mul, Int.toNat_of_nonneg hm.1] at this
    exact this
  have hrun : (execOp a.eval ⟨dst, .makeSlice t x y, ty, pos, af, gd⟩).run P w = .ok (.value (.slice (some ⟨w.heap.size, 0, none⟩) m.toNat m.toNat)) (w.alloc (.cells c' e)) := by
    have hti : ∀ w, (typeInfo e).run P w = .ok i0 w := fun w => by simp [typeInfo, hi0]
    have hzr : ∀ w, (zeroValue e).run P w = .ok z w := fun w => by simp [zeroValue, typeInfo, hi0, hz0]
    have hsr : ∀ w, (sizeOf e).run P w = .ok 1 w := fun w => by simp [sizeOf, typeInfo, hi0, hs0]
    have has : ∀ w, (asInt (.int .i64 m)).run P w = .ok m w := fun w => by simp [asInt, asIntOf, Sem.run_bind, Sem.run_pure, Result.andThen_ok]
    have hbig : ¬ (by' : Int) * m > 2 ^ 48 := by
      have : (2 : Int) ^ 48 = 281474976710656 := by decide
      omega
    have hneg : ¬ m < 0 := by omega
    have hroom : ¬ m.toNat * by' > roomBytes := by
      have : (6400000 : Nat) ≤ roomBytes := by decide
      have h2 : m.toNat * by' = by' * m.toNat := Nat.mul_comm _ _
      omega
    have hce : (Array.range (m.toNat * 1)).map (fun j => (#[z] : Array Value)[j % (#[z] : Array Value).size]!) = c' := by
      rw [← hc', Nat.mul_one]
      apply Array.ext
      · simp
      · intro i h1 h2
        simp [Nat.mod_one]
    simp only [execOp, Instr.makeSlice, Sem.run_bind, Result.andThen_ok, run_underlying ht, hxe, hye, has, hti, hb0, hwr]
    simp only [decide_eq_false hbig, decide_eq_false hneg, Bool.or_false, Bool.false_or, Int.lt_irrefl, decide_false, gt_iff_lt, Bool.false_eq_true, if_false, askRoom, Sem.run_pure, Result.andThen_ok, Sem.run_bind]
    have hroom' : ¬ roomBytes < m.toNat * by' := hroom
    simp only [if_neg hroom', Sem.run_pure, Result.andThen_ok, hsr]
    by_cases h0 : m.toNat * 1 = 0
    · have hce0 : (Array.range (m.toNat * 1)).map (fun j => (#[] : Array Value)[j % (#[] : Array Value).size]!) = c' := by
        rw [← hc', h0, show m.toNat = 0 from by omega]; simp [Array.range_zero']
      simp only [if_pos h0, Sem.run_bind, Sem.run_pure, Result.andThen_ok, newRow]
      simp only [pure_bind, hce0]
      rfl
    · simp only [if_neg h0, Sem.run_bind, Sem.run_pure, Result.andThen_ok, hzr, newRow, hzc, hce]
      rfl
  have hmax : m.toNat ≤ maxLen := by simp only [maxLen]; omega
  obtain ⟨r', G⟩ := r.grow .row (.cells c' e) (fun C G hκ b hb => by
    have : w.heap.size = b := Option.some.inj (hκ.symm.trans hb)
    subst this
    exact ⟨c', e, heap_alloc_new w _⟩)
  have hrow := World.ownsRow_lit (base := g.B) (e := e) (size := 1) w c' m.toNat r.hB hmax (by rw [hcs]; omega)
  have hat : ∀ (j : Nat) (u : Value), c'.toList[j]? = some u → u = z := by
    intro j u h
    rw [← hc'] at h
    simp at h
    exact h.2.symm
  refine .inl ⟨_, _, _, _, hrun, .inl rfl, r'.putd (okD_spec hd) (.own ?_)⟩
  refine ⟨by show (δ.addOb .row).ob _ = _; rw [ob_addOb, if_pos rfl], by rw [List.length_replicate]; omega, fun c hc => by rw [List.eq_of_mem_replicate hc]; rfl, fun b hb => ?_, c'.toList, by rw [List.length_replicate]; exact hrow, fun u hu => ?_, fun i' j p hp' => ?_⟩
  · simp only [Value.ownBlock, Option.some.injEq] at hb
    subst hb
    show upd _ _ _ _ = _
    simp [upd]
  · obtain ⟨j, hj⟩ := List.getElem?_of_mem hu
    rw [hat j u hj]; exact h1
  · unfold cellAt at hp'
    have hi : i' < m.toNat := by
      rcases Nat.lt_or_ge i' m.toNat with h | h
      · exact h
      · rw [List.getElem?_eq_none (by simpa using h)] at hp'; simp at hp'
    rw [List.getElem?_replicate, if_pos hi] at hp'
    have hj : j = 0 ∧ p = .lit z := by
      cases j with
      | zero => simp at hp'; exact ⟨rfl, hp'.symm⟩
      | succ j => simp at hp'
    obtain ⟨rfl, rfl⟩ := hj
    refine ⟨z, ?_, .lit _⟩
    rw [Array.getElem?_toList, ← hc']
    simp [hi]
end Go.Ab
namespace Go.Ab
open Go Go.RowKit
variable {P : Program} {g : Ghost} {δ : DS} {q : Md}
variable {ops : Array Oper} {rest : List Oper} {Q : Exit → DS → Prop} {dst : Option Nat} {ty : TypeId} {pos : String} {af : Array Edge}
theorem AOps.makeSlice1 {t e : TypeId} {x y : Operand} {m : Int} {z : Value} {by' : Nat} (hx : δ.ev x = litI m) (hy : δ.ev y = litI m) (ht : P.underlying t = some (.slice e)) (hi : (P.info? e).map (fun i => (i.size, i.zero, i.bytes)) = some (1, some z, by')) (hzc : z.cells = #[z]) (h1 : z.oneCell' = true) (hb : Nat.ble by' 64 = true)
    (ho : okT x = true) (ho' : okT y = true) (hd : okD δ.n dst = true) (hm : 0 ≤ m ∧ m ≤ 100000) (hK : AOps .plain P g ops rest Q ((δ.addOb .row).putd dst (.own δ.nx e 1 (List.replicate m.toNat [.lit z])))) :
    AOps .plain P g ops (⟨dst, .makeSlice t x y, ty, pos, af, none⟩ :: rest) Q δ := AOps.eff rfl rfl (Eff.makeSlice1 hx hy ht hi hzc h1 hb ho ho' hd hm) hK
end Go.Ab
/- A store into an element of a row of the walk's own (elements of one cell). -/
namespace Go.Ab
open Go Go.RowKit
variable {P : Program} {g : Ghost} {δ : DS} {q : Md}
variable {ops : Array Oper} {rest : List Oper} {Q : Exit → DS → Prop} {dst : Option Nat} {ty : TypeId} {pos : String} {af : Array Edge}
def stor1F (i n : Nat) (c : List PV) : AV → AV
  | .own j e k els => bif Nat.beq i j then (bif Nat.beq k 1 then .own j e k (els.set n c) else .any) else .own j e k els
  | .optr j e k els m => bif Nat.beq i j then .any else .optr j e k els m
  | v => v
def AV.stor1 (i n : Nat) (c : List PV) : AV → AV := AV.mp (stor1F i n c)
theorem Eff.store_o1 {gd : Option (Tmp × Bool)} {x y : Operand} {t e : TypeId} {i idx : Nat} {els : List (List PV)} {p : PV} (hx : δ.ev x = .optr i e 1 els idx) (hy : δ.ev y = .pv p) (hr : δ.ob i = some .row) (ht : (P.info? t).map (·.size) = some 1) (h1 : AV.one (.pv p) = true)
    (ho : okT x = true) (ho' : okT y = true) (hd : okD δ.n dst = true) :
    Eff P g ⟨dst, .store t x y, ty, pos, af, gd⟩ δ ((δ.mapV (AV.stor1 i idx [p])).putd dst .any) := by
  intro κ a w r
  have hxa := r.ra hx ho
  have hyv := r.ra hy ho'
  have hone := hyv.one h1
  generalize hxe : a.eval x = u at hxa
  cases hxa with
  | @optr _ _ _ _ _ b cap hi h =>
    have hκ : κ i = some b := h.blk b rfl
    obtain ⟨xs, ⟨hxl, hown⟩, hxo, hxc⟩ := h.row
    rcases hown with ⟨hn, _⟩ | ⟨g0, cap0, cur, hv, hg, h3, hle, hcm, hcs, htk⟩
    · cases hn
    · simp only [Value.slice.injEq, Option.some.injEq, Addr.mk.injEq] at hv
      obtain ⟨⟨rfl, _⟩, _, rfl⟩ := hv
      have hrun : (execOp a.eval ⟨dst, .store t x y, ty, pos, af, gd⟩).run P w = .ok .skip (w.setCell ⟨b, idx * 1, none⟩ (a.eval y)) := by
        obtain ⟨i0, hi0, hs0⟩ : ∃ i0, P.info? t = some i0 ∧ i0.size = 1 := by
          cases h : P.info? t with
          | none => rw [h] at ht; simp at ht
          | some i0 => rw [h] at ht; exact ⟨i0, rfl, by simpa using ht⟩
        have hc : w.cell? ⟨b, idx * 1, none⟩ = some (cur[idx * 1]'(by omega)) := by rw [cell_of h3, Array.getElem?_eq_getElem (by omega)]
        have hst : (store ⟨b, idx * 1, none⟩ (a.eval y)).run P w = .ok () (w.setCell ⟨b, idx * 1, none⟩ (a.eval y)) := by
          rw [run_store P w _ _ _ hone, hc]; simp [frozen_of h3]
        rw [Nat.mul_one] at hst ⊢
        rw [Nat.mul_one] at hxe
        simp [execOp, Instr.storeAt, Instr.sureAddr, storeVar, hxe, cells_one hone, sizeOf, typeInfo, hi0, hs0, storeCells, addr_add, hst]
      obtain ⟨r', G⟩ := r.row hr (κ' := κ) (fun _ _ => rfl) (by rw [hκ]; exact Turns.setCell w ⟨b, idx * 1, none⟩ (a.eval y)) (fun b' hb' => by
          have e1 : b = b' := Option.some.inj (hκ.symm.trans hb')
          subst e1
          refine ⟨.inl hκ, ?_, _, _, setCell_heap h3 _⟩
          have := (Array.getElem?_eq_some_iff.1 (setCell_heap (off := idx * 1) h3 (a.eval y))).1
          exact this)
        (AV.stor1 i idx [p]) rfl (fun G v av hva => by
          refine hva.mp G rfl (fun j e' k' els' hj => ?_) (fun j e' k' els' n hj => ?_) (fun v' e' k' els' ho2 => ?_) (fun b' cap' e' k' els' n _ _ => ?_)
          · simp only [stor1F, beq_ne (Ne.symm hj)]; rfl
          · simp only [stor1F, beq_ne (Ne.symm hj)]; rfl
          · simp only [stor1F, beq_self, cond_true]
            cases hk1 : Nat.beq k' 1 with
            | false => exact .any _
            | true =>
              obtain rfl : k' = 1 := Nat.eq_of_beq_eq_true hk1
              obtain ⟨xs', ⟨hxl', hown'⟩, hxo', hxc'⟩ := ho2.row
              refine .own ⟨?_, by rw [List.length_set]; exact ho2.lim, ?_, ho2.blk, xs'.set idx (a.eval y), ?_, ?_, ?_⟩
              · show (δ.mapV _).ob i = _
                rw [ob_mapV, hr]; rfl
              · intro c hc
                rcases List.mem_or_eq_of_mem_set hc with hc | rfl
                · exact ho2.hk c hc
                · rfl
              · rw [List.length_set]
                refine ⟨by rw [List.length_set]; exact hxl', ?_⟩
                rcases hown' with ⟨hn, h0⟩ | ⟨g1, cap1, cur1, hv1, hg1, h31, hle1, hcm1, hcs1, htk1⟩
                · exact .inl ⟨hn, h0⟩
                · have hb1 : κ i = some g1 := ho2.blk g1 (by rw [hv1]; rfl)
                  have e1 : b = g1 := Option.some.inj (hκ.symm.trans hb1)
                  subst e1
                  rw [h3] at h31
                  simp only [Option.some.injEq, Obj.cells.injEq] at h31
                  obtain ⟨rfl, rfl, _⟩ := h31
                  refine .inr ⟨b, cap1, _, hv1, hg1, setCell_heap h3 _, hle1, hcm1, by simpa using hcs1, ?_⟩
                  rw [← htk1, Array.toList_setIfInBounds, Nat.mul_one, Nat.mul_one, List.take_set]
              · intro u hu
                rcases List.mem_or_eq_of_mem_set hu with hu | rfl
                · exact hxo' u hu
                · exact hone
              · intro i' j q hq
                unfold cellAt at hq
                rw [List.getElem?_set] at hq
                by_cases hii : idx = i'
                · subst hii
                  by_cases hlt : idx < els'.length
                  · rw [if_pos rfl, if_pos hlt] at hq
                    have hjq : j = 0 ∧ q = p := by
                      cases j with
                      | zero => simp at hq; exact ⟨rfl, hq.symm⟩
                      | succ j => simp at hq
                    obtain ⟨rfl, rfl⟩ := hjq
                    refine ⟨a.eval y, ?_, G.rp (C := (δ.cx g κ).less i) hyv.pv_inv⟩
                    rw [List.getElem?_set, if_pos (by omega), if_pos (by omega)]
                  · rw [if_pos rfl, if_neg hlt] at hq; simp at hq
                · rw [if_neg hii] at hq
                  obtain ⟨u, hu, hu2⟩ := hxc' i' j q (by unfold cellAt; exact hq)
                  have hj : j = 0 := by
                    rw [Option.bind_eq_some_iff] at hq
                    obtain ⟨c, hc1, hc2⟩ := hq
                    have := ho2.hk c (List.mem_of_getElem? hc1)
                    have := (List.getElem?_eq_some_iff.1 hc2).1
                    omega
                  subst hj
                  exact ⟨u, by rw [List.getElem?_set, if_neg (by omega)]; exact hu, G.rp (C := (δ.cx g κ).less i) hu2⟩
          · simp only [stor1F, beq_self, cond_true]; exact .any _)
      exact .inl ⟨_, _, _, _, hrun, .inr ⟨rfl, rfl⟩, r'.putd (okD_spec hd) (.any _)⟩
theorem AOps.store_o1 {x y : Operand} {t e : TypeId} {i idx : Nat} {els : List (List PV)} {p : PV} (hx : δ.ev x = .optr i e 1 els idx) (hy : δ.ev y = .pv p) (hr : δ.ob i = some .row) (ht : (P.info? t).map (·.size) = some 1) (h1 : AV.one (.pv p) = true)
    (ho : okT x = true) (ho' : okT y = true) (hd : okD δ.n dst = true) (hK : AOps .plain P g ops rest Q ((δ.mapV (AV.stor1 i idx [p])).putd dst .any)) : AOps .plain P g ops (⟨dst, .store t x y, ty, pos, af, none⟩ :: rest) Q δ :=
  AOps.eff rfl rfl (Eff.store_o1 hx hy hr ht h1 ho ho' hd) hK
end Go.Ab
/- The rest of a row of statements walked once, from a weaker state. -/
namespace Go.Ab
open Go Go.RowKit
variable {P : Program} {g : Ghost} {δ δc : DS} {Q : Exit → DS → Prop} {c rest : Code}
theorem AW.cut (h : AW P g c (onlyN fun δ' => Weak g δ' δc) δ) (hK : AW P g rest Q δc) : AW P g (.seq c rest) Q δ := by
  refine AW.seq (AW.mono h fun e δ' h1 => ?_)
  cases e with
  | normal => exact AW.weak h1 hK
  | _ => exact h1.elim
end Go.Ab
namespace Go.Ab
open Go Go.RowKit
theorem AW.cutT {P : Program} {g : Ghost} {δ δc : DS} {Q Q' : Exit → DS → Prop} {c rest : Code} (h : AW P g c (onlyN fun δ' => Weak g δ' δc) δ) (hK : AW P g rest Q' δc) : AW P g c (thenD (AW P g rest Q') Q) δ := by
  refine AW.mono h fun e δ' h1 => ?_
  cases e with
  | normal => exact AW.weak h1 hK
  | _ => exact h1.elim
end Go.Ab
/- The address of an array's element. -/
namespace Go.Ab
open Go Go.RowKit
variable {P : Program} {g : Ghost} {δ : DS} {q : Md}
variable {ops : Array Oper} {rest : List Oper} {Q : Exit → DS → Prop} {dst : Option Nat} {ty : TypeId} {pos : String} {af : Array Edge}
/-- type t is an array whose elements have k cells, and n is one of its places. -/
def arrB (P : Program) (t : TypeId) (n k : Nat) : Bool := match P.underlying t with
  | some (.array len e) => Nat.blt n len && ((P.info? e).map (·.size) == some k)
  | _ => false
theorem arrB_spec {t : TypeId} {n k : Nat} (h : arrB P t n k = true) : ∃ len e, P.underlying t = some (.array len e) ∧ n < len ∧ (P.info? e).map (·.size) = some k := by
  unfold arrB at h
  split at h
  · rename_i len e he
    simp only [Bool.and_eq_true, beq_iff_eq] at h
    exact ⟨len, e, he, by simpa using h.1, h.2⟩
  · cases h
theorem run_indexAddr_arr {t : TypeId} {k n : Nat} (hB : arrB P t n k = true) {x y : Operand} {ρ : Operand → Value} {b off : Nat} {ik : IntKind}
    (hx : ρ x = .pointer (some ⟨b, off, none⟩)) (hy : ρ y = .int ik (n : Int)) (w : World) :
    (execOp ρ ⟨dst, .indexAddr t x y, ty, pos, af, none⟩).run P w = .ok (.value (.pointer (some ⟨b, off + n * k, none⟩))) w := by
  obtain ⟨len, e, ht, hn, hk⟩ := arrB_spec hB
  obtain ⟨i0, hi0, hk0⟩ : ∃ i0, P.info? e = some i0 ∧ i0.size = k := by
    cases h : P.info? e with
    | none => rw [h] at hk; simp at hk
    | some i0 => rw [h] at hk; exact ⟨i0, rfl, by simpa using hk⟩
  have h1 : (0 : Int) ≤ n ∧ (n : Int) < len := by omega
  have hadd : (⟨b, off, none⟩ : Addr).add (n * k) = ⟨b, off + n * k, none⟩ := by unfold Addr.add; split <;> simp_all
  simp [execOp, Instr.indexAt, Instr.sureAddr, asIntOf, run_underlying ht, hx, hy, h1, sizeOf, typeInfo, hi0, hk0, hadd]
  intro h; omega
theorem AOps.indexA_r (t n k m : Nat) {x y : Operand} {cs : List PV} {ik : IntKind} (hx : δ.ev x = .rptr cs) (hy : δ.ev y = .pv (.lit (.int ik (n : Int)))) (hB : arrB P t n k = true) (hm : Nat.beq (n * k) m = true) (ho : okT x = true) (ho' : okT y = true) (hd : okD δ.n dst = true)
    (hK : AOps q P g ops rest Q (δ.putd dst (.rptr (subP cs m k)))) : AOps q P g ops (⟨dst, .indexAddr t x y, ty, pos, af, none⟩ :: rest) Q δ :=
  AOps.valw _ hd (fun κ a w r => by
    obtain rfl := Nat.eq_of_beq_eq_true hm
    have h1 := r.ra hx ho
    generalize hu : a.eval x = u at h1
    cases h1 with
    | rptr b off vs hN hb hc hr =>
      refine ⟨_, fun w' _ => run_indexAddr_arr hB hu (r.lit hy ho') w', .rptr b (off + n * k) (fun j => vs (n * k + j)) hN hb (fun j p h => ?_) (fun j p h => ?_)⟩
      · rw [← subP_eq, List.getElem?_take] at h
        split at h
        · rw [List.getElem?_drop] at h; rw [Nat.add_assoc]; exact hc _ p h
        · cases h
      · rw [← subP_eq, List.getElem?_take] at h
        split at h
        · rw [List.getElem?_drop] at h; exact hr _ p h
        · cases h) hK
theorem AOps.indexA_p (t n k m : Nat) {x y : Operand} {i off : Nat} {ik : IntKind} (hx : δ.ev x = .ptr i off) (hy : δ.ev y = .pv (.lit (.int ik (n : Int)))) (hB : arrB P t n k = true) (hm : Nat.beq (off + n * k) m = true) (ho : okT x = true) (ho' : okT y = true) (hd : okD δ.n dst = true)
    (hK : AOps q P g ops rest Q (δ.putd dst (.ptr i m))) : AOps q P g ops (⟨dst, .indexAddr t x y, ty, pos, af, none⟩ :: rest) Q δ :=
  AOps.valw _ hd (fun κ a w r => by
    obtain rfl := Nat.eq_of_beq_eq_true hm
    have h1 := r.ra hx ho
    generalize hu : a.eval x = u at h1
    cases h1 with
    | ptr hl hκ => exact ⟨_, fun w' _ => run_indexAddr_arr hB hu (r.lit hy ho') w', .ptr hl hκ⟩) hK
theorem AOps.index_own_mapN {α : Type} {x y : Operand} {t e e' : TypeId} {i k n : Nat} {f : α → List PV} {l : List α} (hx : δ.ev x = .own i e' k (l.map f)) (hy : δ.ev y = litI (n : Nat))
    (ht : P.underlying t = some (.slice e)) (hk : (P.info? e).map (·.size) = some k) (ho : okT x = true) (ho' : okT y = true) (hd : okD δ.n dst = true) (hn : n < l.length)
    (hK : AOps q P g ops rest Q (δ.putd dst (.optr i e' k (l.map f) n))) : AOps q P g ops (⟨dst, .indexAddr t x y, ty, pos, af, none⟩ :: rest) Q δ :=
  AOps.index_own (n := n) hx hy (by simp; omega) ht hk ho ho' hd hK
end Go.Ab
namespace Go.Ab
open Go Go.RowKit
attribute [local irreducible] HS
variable {P : Program} {g : Ghost} {δ : DS} {l : List Oper} {late dn : List Nat} {k : Wt} {QD : Exit → DS → Prop}
/-- an operation under a guard that is known not to hold, passed over first. -/
theorem AR.skipG (i : Nat) {o o' : Oper} {gj d : Nat} {want : Bool} (hB : freeB l late dn i = true) (ho : l[i]? = some o) (hg : o.guard = some (gj, want)) (ho' : l[gj]? = some o') (hd' : o'.dst = some d) (hd0 : Nat.blt d HS = true) (hdn : Nat.blt d δ.n = true) (hb : δ.get d = litB (!want))
    (hd : okD δ.n o.dst = true) (h : AR P g k late l QD (i :: dn) (δ.putd o.dst (.pv (.lit undef)))) : AR P g k late l QD dn δ := by
  intro hdc κ a w r
  simp only [freeB, Bool.and_eq_true, Bool.not_eq_true'] at hB
  obtain ⟨⟨⟨⟨⟨hs, hnd⟩, hr⟩, hf⟩, hla⟩, hl⟩ := hB
  have hl' : dn.length < l.length := by simpa using hl
  obtain ⟨n, hn⟩ : ∃ n, l.length - dn.length = n + 1 := ⟨l.length - dn.length - 1, by omega⟩
  have hr' : i ∈ Region.ready .any l.toArray (setL l.length dn) := by simpa using hr
  have ho'' : l.toArray[i]? = some o := by simpa using ho
  have hdc' : DC l.toArray (setL l.length (i :: dn)) := hdc.ready hr'
  have r2 : Rel (gOf g k late (setL l.length (i :: dn))) (δ.putd o.dst (.pv (.lit undef))) κ (a.put o.dst undef) w := (gOf_step i r).putd (okD_spec hd) (.pv (.lit _))
  have h2 := h hdc' κ _ w r2
  have e1 : l.length - (i :: dn).length = n := by simp; omega
  rw [e1] at h2
  rw [hn]
  have hlt : d < HS := by simpa using hd0
  have hln : d < δ.n := by simpa using hdn
  have hv : a.tmps.getD d undef = .bool (!want) := by
    have := r.env d
    rw [hb] at this
    unfold Ghost.val at this
    rw [if_pos hlt] at this
    exact this.lit
  have hv' : a.tmps[d]? = some (.bool (!want)) := by
    rw [← r.n] at hln
    rw [Array.getD_eq_getD_getElem?, Array.getElem?_eq_getElem hln] at hv
    rw [Array.getElem?_eq_getElem hln]
    exact congrArg some hv
  have hyi : yielded l.toArray a.tmps gj = some (!want) := by
    simp [yielded, ho', hd', hv']
  refine wpAnyL_first (C := fun _ => True) ho'' (Region.noSelect_spec hs) (fun j o hj => ?_) (fun c a w h => h.elim) (fun _ _ _ _ _ => trivial) (fun listed w => ?_) n _ a w hdc (Region.free_spec ho'' hf) hr' (.inr ⟨by simp [Region.wanted, hg, hyi], rfl⟩) (gOf_S r) h2
  · exact (List.all_eq_true.1 hnd) o (List.mem_of_getElem? (by simpa using hj))
  · unfold Sof; rw [lateIn_set hla]
section
variable {q : Md} {P : Program} {g : Ghost} {δ : DS} {ops : Array Oper} {f : DS → Prop} {Q : Exit → DS → Prop} {y : Code}
theorem AOps.nilD (h : f δ) : AOps q P g ops [] (thenD f Q) δ := AOps.nil (thenD_n h)
theorem AW.seqR {id : Nat} {l : List Oper} (h : AOps .plain P g l.toArray l (thenD (AW P g y Q) Q) δ) : AW P g (.seq (.region id l.toArray false) y) Q δ := AW.seq (AW.region h)
end
end Go.Ab
/- A slice held against nil; a slice made with room and no element. -/
namespace Go.Ab
open Go Go.RowKit
variable {P : Program} {g : Ghost} {δ : DS} {q : Md}
theorem AOps.valX {ι : Type} {ops : Array Oper} {o : Oper} {rest : List Oper} {Q : Exit → DS → Prop} (v : ι → AV) (φ : ι → Prop) (hg : o.guard = none) (hnd : noDefer o = true) (hd : okD δ.n o.dst = true)
    (h : ∀ κ a w, Rel g δ κ a w → ∃ i, φ i ∧ ∃ u, (∀ w', Held δ κ w w' → (execOp a.eval o).run P w' = .ok (.value u) w') ∧ RA (δ.cx g κ) w u (v i)) (hK : ∀ i, φ i → AOps q P g ops rest Q (δ.putd o.dst (v i))) : AOps q P g ops (o :: rest) Q δ := by
  intro κ a w r
  obtain ⟨i, hi, u, h1, h2⟩ := h κ a w r
  have hK1 := hK i hi κ _ _ (r.putd (okD_spec hd) h2)
  cases q with
  | quiet =>
    show wpQuiet P ops _ _ (o :: rest) a
    unfold wpQuiet
    rw [if_pos (by simp [Region.wanted, hg])]
    refine ⟨u, fun w' hw' => ?_, hK1⟩
    unfold Oper.quietAt
    rw [h1 w' (Held.of_below hw')]
    exact ⟨rfl, rfl⟩
  | held =>
    show wpHeld P ops _ _ (o :: rest) a
    refine ⟨u, .inl ⟨by simp [Region.wanted, hg], fun w' hw' => h1 w' hw'⟩, ?_⟩
    · have hH : Held (δ.putd o.dst (v i)) κ w = Held δ κ w := by unfold Held; rw [putd_lr]
      simp only [hH, putd_objs] at hK1
      exact hK1
  | plain =>
    show wpListIn _ _ P ops _ (o :: rest) a w
    refine wpl_plain hg hnd fun K hK' => ?_
    unfold Oper.wpF
    rw [h1 w (Held.refl _ _ _), Oper.uponIn_value]
    exact hK' _ _ hK1
variable {ops : Array Oper} {rest : List Oper} {Q : Exit → DS → Prop} {dst : Option Nat} {ty : TypeId} {pos : String} {af : Array Edge}
theorem run_eqlnil {t e : TypeId} (ht : P.underlying t = some (.slice e)) (x y : Operand) (b : Option Addr) (n c : Nat) (w : World) :
    (do eqGuard .eql t x y (.slice b n c) (.slice none 0 0); Go.binOp .eql t (.slice b n c) (.slice none 0 0) : Sem Value).run P w = .ok (.bool b.isNone) w := by
  have h1 : (eqGuard .eql t x y (.slice b n c) (.slice none 0 0)).run P w = .ok () w := by
    unfold eqGuard
    simp [Sem.run, pure, Sem.bind, bind]
  rw [Sem.run_bind, h1, Result.andThen_ok]
  exact Lib.run_eql_slice_nil w t e b n c 0 0 ht
/-- x == nil, of a told slice: where it has elements it is not nil. -/
theorem AOps.eqlNil {x y : Operand} {t e t' : TypeId} {k : Nat} {els : List (List PV)} (hx : δ.ev x = .pv (.slice k els)) (hy : δ.ev y = .pv (.lit (.slice none 0 0))) (ht : P.underlying t = some (.slice e)) (ho : okT x = true) (ho' : okT y = true) (hd : okD δ.n dst = true)
    (hT : els = [] → AOps q P g ops rest Q (δ.putd dst (litB true))) (hF : True → AOps q P g ops rest Q (δ.putd dst (litB false))) : AOps q P g ops (⟨dst, .binOp .eql t x y t', ty, pos, af, none⟩ :: rest) Q δ := by
  refine AOps.valX (ι := Bool) (fun b => litB b) (fun b => b = true → els = []) rfl rfl hd (fun κ a w r => ?_) (fun b hb => ?_)
  · have h1 := (r.ra hx ho).pv_inv
    have h2 := r.lit hy ho'
    generalize hv : a.eval x = v at h1
    cases h1 with
    | @slice ad len cap k els bl off vs hl hcap hb ha hkk hc hr =>
      refine ⟨ad.isNone, fun hn => ?_, .bool ad.isNone, fun w' _ => ?_, .pv (.lit _)⟩
      · rcases els with _ | ⟨c, els⟩
        · rfl
        · have := (ha (by simp)).1
          rw [this] at hn; simp at hn
      · have := run_eqlnil ht x y ad len cap w'
        simp only [execOp, hv, h2]
        simp only [Sem.run_bind, this, Result.andThen_ok] at *
        first | rfl | simp [this]
  · cases b with
    | true => exact hT (hb rfl)
    | false => exact hF trivial
/-- make([]T, 0, m) -/
theorem Eff.makeSlice0 {gd : Option (Tmp × Bool)} {t e : TypeId} {x y : Operand} {m : Int} {z : Value} {k by' : Nat} (hx : δ.ev x = litI 0) (hy : δ.ev y = litI m) (ht : P.underlying t = some (.slice e)) (hi : (P.info? e).map (fun i => (i.size, i.zero, i.bytes)) = some (k, some z, by')) (hb : Nat.ble by' 64 = true)
    (ho : okT x = true) (ho' : okT y = true) (hd : okD δ.n dst = true) (hm : 0 ≤ m ∧ m ≤ 100000) :
    Eff P g ⟨dst, .makeSlice t x y, ty, pos, af, gd⟩ δ ((δ.addOb .row).putd dst (.own δ.nx e k [])) := by
  intro κ a w r
  have hb' : by' ≤ 64 := by simpa using hb
  obtain ⟨i0, hi0, hs0, hz0, hb0⟩ : ∃ i0, P.info? e = some i0 ∧ i0.size = k ∧ i0.zero = some z ∧ i0.bytes = by' := by
    cases h : P.info? e with
    | none => rw [h] at hi; simp at hi
    | some i0 => rw [h] at hi; simp at hi; exact ⟨i0, rfl, hi.1, hi.2.1, hi.2.2⟩
  have hxe := r.lit hx ho
  have hye := r.lit hy ho'
  have hwr : IntKind.i64.wrap m = m := IntWalk.i64_in _ (by omega)
  have hwr0 : IntKind.i64.wrap 0 = 0 := IntWalk.i64_in _ (by omega)
  generalize hc' : ((Array.range (m.toNat * k)).map (fun j => z.cells[j % z.cells.size]!)) = c'
  have hcs : c'.size = m.toNat * k := by rw [← hc']; simp
  have hmul : by' * m.toNat ≤ 6400000 := by
    have h1 : by' * m.toNat ≤ 64 * m.toNat := Nat.mul_le_mul_right _ hb'
    omega
  have hmulI : (by' : Int) * m ≤ 6400000 := by
    have : ((by' * m.toNat : Nat) : Int) ≤ 6400000 := by omega
    rw [Int.natCast_mul, Int.toNat_of_nonneg hm.1] at this
    exact this
  have hrun : (execOp a.eval ⟨dst, .makeSlice t x y, ty, pos, af, gd⟩).run P w = .ok (.value (.slice (some ⟨w.heap.size, 0, none⟩) 0 m.toNat)) (w.alloc (.cells c' e)) := by
    have hti : ∀ w, (typeInfo e).run P w = .ok i0 w := fun w => by simp [typeInfo, hi0]
    have hzr : ∀ w, (zeroValue e).run P w = .ok z w := fun w => by simp [zeroValue, typeInfo, hi0, hz0]
    have hsr : ∀ w, (sizeOf e).run P w = .ok k w := fun w => by simp [sizeOf, typeInfo, hi0, hs0]
    have has : ∀ (m : Int) w, (asInt (.int .i64 m)).run P w = .ok m w := fun m w => by simp [asInt, asIntOf, Sem.run_bind, Sem.run_pure, Result.andThen_ok]
    have hbig : ¬ (by' : Int) * m > 2 ^ 48 := by
      have : (2 : Int) ^ 48 = 281474976710656 := by decide
      omega
    have hbig0 : ¬ (by' : Int) * 0 > 2 ^ 48 := by rw [Int.mul_zero]; decide
    have hneg : ¬ m < 0 := by omega
    have hneg0 : ¬ m < 0 := by omega
    have hroom : ¬ m.toNat * by' > roomBytes := by
      have : (6400000 : Nat) ≤ roomBytes := by decide
      have h2 : m.toNat * by' = by' * m.toNat := Nat.mul_comm _ _
      omega
    simp only [execOp, Instr.makeSlice, Sem.run_bind, Result.andThen_ok, run_underlying ht, hxe, hye, has, hti, hb0, hwr, hwr0]
    simp only [decide_eq_false hbig, decide_eq_false hbig0, decide_eq_false hneg, Bool.or_false, Bool.false_or, Int.lt_irrefl, decide_false, gt_iff_lt, Bool.false_eq_true, if_false, askRoom, Sem.run_pure, Result.andThen_ok, Sem.run_bind]
    have hroom' : ¬ roomBytes < m.toNat * by' := hroom
    simp only [if_neg hroom', Sem.run_pure, Result.andThen_ok, hsr]
    by_cases h0 : m.toNat * k = 0
    · have hce0 : (Array.range (m.toNat * k)).map (fun j => (#[] : Array Value)[j % (#[] : Array Value).size]!) = c' := by
        rw [← hc', h0]; simp [Array.range_zero']
      simp only [if_pos h0, Sem.run_bind, Sem.run_pure, Result.andThen_ok, newRow]
      simp only [pure_bind, hce0]
      rfl
    · simp only [if_neg h0, Sem.run_bind, Sem.run_pure, Result.andThen_ok, hzr, newRow, hc']
      rfl
  have hmax : m.toNat ≤ maxLen := by simp only [maxLen]; omega
  obtain ⟨r', G⟩ := r.grow .row (.cells c' e) (fun C G hκ b hb => by
    have : w.heap.size = b := Option.some.inj (hκ.symm.trans hb)
    subst this
    exact ⟨c', e, heap_alloc_new w _⟩)
  refine .inl ⟨_, _, _, _, hrun, .inl rfl, r'.putd (okD_spec hd) (.own ?_)⟩
  refine ⟨by show (δ.addOb .row).ob _ = _; rw [ob_addOb, if_pos rfl], by simp, fun c hc => by simp at hc, fun b hb => ?_, [], ⟨by simp, .inr ⟨w.heap.size, m.toNat, c', rfl, r.hB, heap_alloc_new w _, Nat.zero_le _, hmax, hcs, by simp⟩⟩, by simp, fun i' j p hp' => by simp [cellAt] at hp'⟩
  simp only [Value.ownBlock, Option.some.injEq] at hb
  subst hb
  show upd _ _ _ _ = _
  simp [upd]
theorem AOps.makeSlice0 {t e : TypeId} {x y : Operand} {m : Int} {z : Value} {k by' : Nat} (hx : δ.ev x = litI 0) (hy : δ.ev y = litI m) (ht : P.underlying t = some (.slice e)) (hi : (P.info? e).map (fun i => (i.size, i.zero, i.bytes)) = some (k, some z, by')) (hb : Nat.ble by' 64 = true)
    (ho : okT x = true) (ho' : okT y = true) (hd : okD δ.n dst = true) (hm : 0 ≤ m ∧ m ≤ 100000) (hK : AOps .plain P g ops rest Q ((δ.addOb .row).putd dst (.own δ.nx e k []))) :
    AOps .plain P g ops (⟨dst, .makeSlice t x y, ty, pos, af, none⟩ :: rest) Q δ := AOps.eff rfl rfl (Eff.makeSlice0 hx hy ht hi hb ho ho' hd hm) hK
end Go.Ab
/- A call of a function value that is told: a function of the program's, nothing captured. -/
namespace Go.Ab
open Go Go.RowKit
variable {P : Program} {g : Ghost} {δ : DS} {κ : Nat → Option Nat} {a : Act} {w : World}
variable {ops : Array Oper} {rest : List Oper} {Q : Exit → DS → Prop} {dst : Option Nat} {ty : TypeId} {pos : String} {af : Array Edge}
theorem clo0 {C : Cx} {w : World} {v : Value} {f : Go.Fn} (h : RA C w v (.clo f [] [])) : v = .func f #[] #[] := by
  cases h with
  | clo hs h ht h' =>
    rename_i vs us
    have e1 : vs = #[] := Array.eq_empty_of_size_eq_zero (by simpa using hs)
    have e2 : us = #[] := Array.eq_empty_of_size_eq_zero (by simpa using ht)
    rw [e1, e2]
theorem AOps.callT {q : Md} {f : FuncId} {xs : List Operand} {tys : Array TypeId} {args : List AV} {r : AV} {y : Operand} (hy : δ.ev y = .clo (.func f) [] []) (hoy : okT y = true) (hf : Fn P f args r) (hargs : Args true δ xs args) (hdet : r.det = true) (hd : okD δ.n dst = true) (hq : q ≠ .held)
    (hK : AOps q P g ops rest Q (δ.putd dst r)) : AOps q P g ops (⟨dst, .call { callee := .value y, args := xs.toArray, argTypes := tys }, ty, pos, af, none⟩ :: rest) Q δ := by
  intro κ a w r0
  have hyv : a.eval y = .func (.func f) #[] #[] := clo0 (hy ▸ r0.evc y (okT_spec hoy))
  have hc : ∀ w', Below w.heap.size w w' → Calls P f (xs.toArray.map a.eval) w' fun e w'' => e = .returned r.out ∧ Below w'.heap.size w' w'' := fun w' hw' =>
    (hf.calls (fun _ => True) w' _ (fun _ _ => trivial) (by simp [hargs.len]) (hargs.ras (r0.ext hw') (fun _ _ _ => trivial) (fun _ _ _ _ _ => trivial))).mono (by
      rintro e w'' ⟨v, rfl, hv, hb⟩
      exact ⟨by rw [hv.det (AV.out_ra (C := pcx (fun _ => True)) (w := w) hdet) hdet], hb⟩)
  have hK1 := hK κ _ _ (r0.putd (okD_spec hd) (AV.out_ra hdet))
  cases q with
  | quiet =>
    show wpQuiet P ops _ _ (_ :: rest) a
    unfold wpQuiet
    rw [if_pos (by simp [Region.wanted])]
    refine ⟨r.out, fun w' hw' => ?_, hK1⟩
    unfold Oper.quietAt
    rw [run_call (f := f) hyv hf.enters]
    exact ⟨rfl, (hc w' hw').mono fun e w'' ⟨h1, h2⟩ => ⟨h1, hw'.trans (h2.mono hw'.size)⟩⟩
  | held => exact absurd rfl hq
  | plain =>
    show wpListIn _ _ P ops _ (_ :: rest) a w
    refine wpl_plain rfl rfl fun K hK' => ?_
    unfold Oper.wpF
    rw [run_call (f := f) hyv hf.enters, Oper.uponIn_enter]
    refine ⟨fun h => by simp at h, (callsIn_any (hc w (Below.refl _ _))).mono ?_⟩
    rintro e w' ⟨rfl, hb⟩
    exact hK' _ _ (hK κ _ _ ((r0.ext hb).putd (okD_spec hd) (AV.out_ra hdet)))

theorem AOps.callTp {f : FuncId} {xs : List Operand} {tys : Array TypeId} {args : List AV} {r : AV} {y : Operand} (hy : δ.ev y = .clo (.func f) [] []) (hoy : okT y = true) (hf : Fn P f args r) (hargs : Args false δ xs args) (hd : okD δ.n dst = true)
    (hK : AOps .plain P g ops rest Q (δ.putd dst r)) : AOps .plain P g ops (⟨dst, .call { callee := .value y, args := xs.toArray, argTypes := tys }, ty, pos, af, none⟩ :: rest) Q δ := by
  intro κ a w r0
  have hyv : a.eval y = .func (.func f) #[] #[] := clo0 (hy ▸ r0.evc y (okT_spec hoy))
  show wpListIn _ _ P ops _ (_ :: rest) a w
  refine wpl_plain rfl rfl fun K hK' => ?_
  unfold Oper.wpF
  rw [run_call (f := f) hyv hf.enters, Oper.uponIn_enter]
  refine ⟨fun h => by simp at h, (callsIn_any (hf.calls (fun b => (δ.cx g κ).N b ∨ w.heap.size ≤ b) w _ (fun _ h => .inr h) (by simp [hargs.len]) (hargs.ras r0 (fun _ _ h => .inl h) (fun h => by simp at h)))).mono ?_⟩
  rintro e w' ⟨v, rfl, hv, hb⟩
  have r1 := r0.ext hb
  refine hK' _ _ (hK κ _ _ (r1.putd (okD_spec hd) (hv.of_pcx _ fun b _ h => ?_)))
  rcases h with h | h
  · exact h
  · refine ⟨r0.N0 b (Nat.le_trans r0.hB h), fun i hi e => ?_⟩
    have := (r0.lo i b hi e).2
    omega

end Go.Ab
/- min and max of two numbers. -/
namespace Go.Ab
open Go Go.RowKit
variable {P : Program} {g : Ghost} {δ : DS} {q : Md}
variable {ops : Array Oper} {rest : List Oper} {Q : Exit → DS → Prop} {dst : Option Nat} {ty : TypeId} {pos : String} {af : Array Edge}
theorem AOps.max2 {x y : Operand} {tys : Array TypeId} {m n : Int} (hx : δ.ev x = litI m) (hy : δ.ev y = litI n) (ho : okT x = true) (ho' : okT y = true) (hd : okD δ.n dst = true)
    (hK : AOps q P g ops rest Q (δ.putd dst (litI (max m n)))) : AOps q P g ops (⟨dst, .call { callee := .builtin .max, args := #[x, y], argTypes := tys }, ty, pos, af, none⟩ :: rest) Q δ :=
  AOps.valw _ hd (fun κ a w r => ⟨.int .i64 (max m n), fun w' _ => by
    have h1 := r.lit hx ho
    have h2 := r.lit hy ho'
    have h3 : (if n > m then n else m) = max m n := by split <;> omega
    simp [execOp, resolve, invoke, builtin, h1, h2, run_max_int2, h3], .pv (.lit _)⟩) hK
theorem AOps.min2 {x y : Operand} {tys : Array TypeId} {m n : Int} (hx : δ.ev x = litI m) (hy : δ.ev y = litI n) (ho : okT x = true) (ho' : okT y = true) (hd : okD δ.n dst = true)
    (hK : AOps q P g ops rest Q (δ.putd dst (litI (min m n)))) : AOps q P g ops (⟨dst, .call { callee := .builtin .min, args := #[x, y], argTypes := tys }, ty, pos, af, none⟩ :: rest) Q δ :=
  AOps.valw _ hd (fun κ a w r => ⟨.int .i64 (min m n), fun w' _ => by
    have h1 := r.lit hx ho
    have h2 := r.lit hy ho'
    have h3 : (if n < m then n else m) = min m n := by split <;> omega
    simp [execOp, resolve, invoke, builtin, h1, h2, run_min_int2, h3], .pv (.lit _)⟩) hK
/-- closures. -/
theorem AOps.makeFunc_0 {fn : Go.Fn} (hd : okD δ.n dst = true) (hK : AOps q P g ops rest Q (δ.putd dst (.clo fn [] []))) : AOps q P g ops (⟨dst, .makeFunc fn #[] #[], ty, pos, af, none⟩ :: rest) Q δ :=
  AOps.valw _ hd (fun κ a w r => ⟨.func fn #[] #[], fun w' _ => by simp [execOp, Instr.makeFunc], .clo rfl (fun j u c h => by simp at h) rfl (fun j u c h1 h2 => by simp at h1)⟩) hK
theorem AOps.makeFunc_1 {fn : Go.Fn} {x : Operand} {u1 : AV} (hx : δ.ev x = u1) (ho : okT x = true) (hd : okD δ.n dst = true) (hK : AOps q P g ops rest Q (δ.putd dst (.clo fn [] [u1]))) : AOps q P g ops (⟨dst, .makeFunc fn #[] #[x], ty, pos, af, none⟩ :: rest) Q δ :=
  AOps.valw _ hd (fun κ a w r => ⟨.func fn #[] #[a.eval x], fun w' _ => by simp [execOp, Instr.makeFunc], .clo rfl (fun j u c h => by simp at h) rfl (fun j u c h1 h2 => by
    match j with
    | 0 => simp at h1 h2; subst h1; subst h2; exact r.ra hx ho
    | j + 1 => simp at h2)⟩) hK
theorem AOps.makeFunc_2 {fn : Go.Fn} {x y : Operand} {u1 u2 : AV} (hx : δ.ev x = u1) (hy : δ.ev y = u2) (ho : okT x = true) (ho' : okT y = true) (hd : okD δ.n dst = true) (hK : AOps q P g ops rest Q (δ.putd dst (.clo fn [] [u1, u2]))) : AOps q P g ops (⟨dst, .makeFunc fn #[] #[x, y], ty, pos, af, none⟩ :: rest) Q δ :=
  AOps.valw _ hd (fun κ a w r => ⟨.func fn #[] #[a.eval x, a.eval y], fun w' _ => by simp [execOp, Instr.makeFunc], .clo rfl (fun j u c h => by simp at h) rfl (fun j u c h1 h2 => by
    match j with
    | 0 => simp at h1 h2; subst h1; subst h2; exact r.ra hx ho
    | 1 => simp at h1 h2; subst h1; subst h2; exact r.ra hy ho'
    | j + 2 => simp at h2)⟩) hK
theorem AOps.makeFunc_3 {fn : Go.Fn} {x y z : Operand} {u1 u2 u3 : AV} (hx : δ.ev x = u1) (hy : δ.ev y = u2) (hz : δ.ev z = u3) (ho : okT x = true) (ho' : okT y = true) (ho'' : okT z = true) (hd : okD δ.n dst = true) (hK : AOps q P g ops rest Q (δ.putd dst (.clo fn [] [u1, u2, u3]))) : AOps q P g ops (⟨dst, .makeFunc fn #[] #[x, y, z], ty, pos, af, none⟩ :: rest) Q δ :=
  AOps.valw _ hd (fun κ a w r => ⟨.func fn #[] #[a.eval x, a.eval y, a.eval z], fun w' _ => by simp [execOp, Instr.makeFunc], .clo rfl (fun j u c h => by simp at h) rfl (fun j u c h1 h2 => by
    match j with
    | 0 => simp at h1 h2; subst h1; subst h2; exact r.ra hx ho
    | 1 => simp at h1 h2; subst h1; subst h2; exact r.ra hy ho'
    | 2 => simp at h1 h2; subst h1; subst h2; exact r.ra hz ho''
    | j + 3 => simp at h2)⟩) hK
end Go.Ab
/- Labelled statements whose labels are left by break and continue alone. -/
namespace Go.Ab
open Go Go.RowKit
section
variable {P : Program} {F : Fence} {n : Nat} {a : Act} {w : World} {b : Frame} {k : List Item} {cs : List Frame}
theorem stepR_scope {c : Code} : step P (lone (b.atR a (.code (.scope c) :: k)) cs w) = .next (lone (b.atR a (.code c :: .inScope c :: k)) cs w) :=
  step_lone_go (by simp [stepG, stepG.exec, Frame.atR])
theorem stepR_inScope {c : Code} : step P (lone (b.atR a (.inScope c :: k)) cs w) = .next (lone (b.atR a k) cs w) :=
  step_lone_go (by simp [stepG, stepG.exec, Frame.atR])
theorem wpIn_scope {c : Code} {Q : Exit → Act → World → Prop} (h : c.wpIn F n P (Exit.noGoto Q) a w) : (Code.scope c).wpIn F n P Q a w := by
  intro b k cs hro hb hr
  have h0 : (lone (b.atR a (.code (.scope c) :: k)) cs w).fenced P F := fenced_calm hb hr rfl
  obtain ⟨e, a₁, w₁, hq, harr⟩ := h b (.inScope c :: k) cs hro hb hr
  cases e with
  | normal => exact ⟨.normal, a₁, w₁, hq, .head h0 stepR_scope (StepsIn.trans harr (.one (fenced_calm hb hr rfl) stepR_inScope))⟩
  | exit id =>
    exact ⟨.exit id, a₁, w₁, hq, fun k' hk => .head h0 stepR_scope (harr.1 k' (by simp [exitTo, hk])),
      fun hr' hk => let ⟨k₁, h1, h2⟩ := harr.2 hr' (by simp [exitTo, hk]); ⟨k₁, h1, .head h0 stepR_scope h2⟩⟩
  | goto l => exact hq.elim
  | ret => exact ⟨_, a₁, w₁, hq, .of_steps (.one h0 stepR_scope) harr⟩
  | panic ch => exact ⟨_, a₁, w₁, hq, .of_steps (.one h0 stepR_scope) harr⟩
  | outgrown => exact ⟨_, a₁, w₁, hq, .of_steps (.one h0 stepR_scope) harr⟩
end
variable {P : Program} {g : Ghost} {δ : DS}
def noGotoD (Q : Exit → DS → Prop) : Exit → DS → Prop
  | .goto _, _ => False
  | e, δ => Q e δ
theorem noGotoD_n {Q : Exit → DS → Prop} (h : Q .normal δ) : noGotoD Q .normal δ := h
theorem noGotoD_ret {Q : Exit → DS → Prop} (h : Q .ret δ) : noGotoD Q .ret δ := h
theorem noGotoD_exit {Q : Exit → DS → Prop} {id : Nat} (h : Q (.exit id) δ) : noGotoD Q (.exit id) δ := h
theorem AW.scope {c : Code} {Q : Exit → DS → Prop} (h : AW P g c (noGotoD Q) δ) : AW P g (.scope c) Q δ := by
  intro κ a w r
  refine wpIn_scope (wpIn_mono (h κ a w r) fun e a' w' => ?_)
  rintro ⟨δ', κ', h1, h2⟩
  cases e with
  | goto l => exact h1.elim
  | _ => exact ⟨δ', κ', h1, h2⟩
theorem AW.label {l : Nat} {Q : Exit → DS → Prop} (h : Q .normal δ) : AW P g (.label l) Q δ := fun κ _ _ r => wpIn_label ⟨δ, κ, h, r⟩
end Go.Ab
/- Loops over functions within loops over functions: a yield from a round, to a loop some frames above. -/
namespace Go.Ab
open Go Go.RowKit
attribute [local irreducible] HS
variable {P : Program} {g : Ghost} {δ : DS} {κ : Nat → Option Nat} {a : Act} {w : World}
variable {ops : Array Oper} {rest : List Oper} {Q : Exit → DS → Prop} {dst : Option Nat} {ty : TypeId} {pos : String} {af : Array Edge}
def unD : Nat → List (Nat × AV) → List (Nat × AV)
  | 0, e => e
  | d + 1, e => unshiftE (unD d e)
theorem look_unD : ∀ (d : Nat) (e : List (Nat × AV)) (j : Nat), look (unD d e) j = look e (j + d * HS)
  | 0, e, j => by rw [Nat.zero_mul, Nat.add_zero]; rfl
  | d + 1, e, j => by
    show look (unshiftE (unD d e)) j = _
    rw [look_unshift, look_unD d e]
    congr 1
    rw [Nat.add_mul, Nat.one_mul]; omega
theorem look_round2 (e1 e : List (Nat × AV)) (j : Nat) : look (ownE e1 ++ shiftE e) j = if j < HS then look e1 (j + HS) else look e (j - HS) := by
  by_cases hj : j < HS
  · rw [if_pos hj]
    rcases look_append (ownE e1) (shiftE e) j with h | ⟨h1, h2⟩
    · rw [h, look_own, if_pos hj]
    · have h3 := look_none _ _ h1
      rw [look_own, if_pos hj] at h3
      rw [h2, look_shift_lt _ _ hj, h3]
  · rw [if_neg hj]
    have h1 : ∀ p ∈ ownE e1, p.1 ≠ j := fun p hp e' => hj (e' ▸ own_keys e1 p hp)
    have : ∀ (e1 : List (Nat × AV)), (∀ p ∈ e1, p.1 ≠ j) → look (e1 ++ shiftE e) j = look (shiftE e) j := by
      intro e1 hne
      induction e1 with
      | nil => rfl
      | cons p e1 ih =>
        rw [List.cons_append]
        show look ((p.1, p.2) :: (e1 ++ shiftE e)) j = _
        rw [look_cons, if_neg (hne p (by simp))]
        exact ih fun q hq => hne q (by simp [hq])
    rw [this _ h1]
    obtain ⟨m, rfl⟩ : ∃ m, j = m + HS := ⟨j - HS, by omega⟩
    rw [look_shift, Nat.add_sub_cancel]
theorem AW.rangeFuncU {x : Operand} {ps : Array Tmp} {asg body : Code} {f : FuncId} {first cap : List AV} {fn : Func} {c : Code} {n' : Nat} (hro : g.ro = none) (hwt : g.wt = none) (hx : δ.ev x = .clo (.func f) first cap) (ho : okT x = true)
    (hf : P.funcs[f]? = some fn) (hb : fn.body = some c) (hres : fn.results = #[]) (hn : fn.ntmps = n') (hle : Nat.ble (first.length + 1 + cap.length) n' = true) (hnH : Nat.ble n' HS = true) (hown : Nat.ble δ.n HS = true) (he : (fn.name == "runtime.NumGoroutine") = false)
    (h : ∀ (g' : Ghost) (tm : Array Value) (l : Nat), g'.ro = none → g'.wt = none → (∀ j, j < HS → g'.held (j + HS) = tm.getD j undef) → (∀ j, g'.held (j + HS + HS) = g.held (j + HS)) → tm.size = δ.n →
      AW P g' c (iterEnds δ.n δ.nx l Q) { n := n', env := enum 0 (first ++ .yld δ.nx :: cap) ++ shiftE δ.env, objs := (δ.nx, some (.loop l tm ps asg body .ready)) :: δ.objs, nx := δ.nx + 1 }) :
    AW P g (.rangeFunc x ps asg body) Q δ := by
  intro κ a w r
  have hra := r.ra hx ho
  generalize hv : a.eval x = v at hra
  cases hra with
  | @clo _ vs us _ _ hs hvs ht hus =>
    rw [hro]
    have hle' : first.length + 1 + cap.length ≤ n' := by simpa using hle
    have hnH' : n' ≤ HS := by simpa using hnH
    obtain ⟨ms, hm1, hm2, hm3⟩ := r.dfr
    refine wpIn_rangeFunc fun fnid _ => ?_
    let w1 := w.alloc (.deferred (some []))
    let lp : Loop := { state := .ready, pending := none, fn := fnid, tmps := a.tmps, params := ps, assign := asg, body, defers := w.heap.size }
    let w2 := w1.alloc (.loop lp)
    have hw1s : w1.heap.size = w.heap.size + 1 := by show (w.heap.push _).size = _; simp
    refine ⟨w.heap.size + 1, [{ target := .collected w.heap.size, args := #[] }], w2, _, w2, f, vs ++ #[.func (.yield (w.heap.size + 1)) #[] #[]] ++ us, w2, run_enterLoop_outer fnid a.tmps ps asg body, clo_run hv _ _, fun _ _ => trivial, ?_, fun h => by simp at h, ?_⟩
    · have hne : (fn.name == "runtime.NumGoroutine") = false := he
      simp [invoke, callFunc, hf, hb]
      simpa using hne
    let g' : Ghost := { B := g.B, w0 := g.w0, N0 := g.N0, held := fun j => g.val a (j - HS), ro := none, mks := w.heap.size :: (ms ++ g.mks), wt := none }
    have hr1 : Rel g δ κ a w1 := r.ext ((Below.refl _ _).alloc (Nat.le_refl _) _)
    obtain ⟨hr2, G⟩ := hr1.grow (.loop (w.heap.size + 1) a.tmps ps asg body .ready) (.loop lp) (fun C G hκ => ⟨_, lp, hκ, heap_alloc_new w1 _, hw1s, rfl, rfl, rfl, rfl, rfl, rfl⟩)
    let κ2 := upd κ δ.nx (some w1.heap.size)
    have hκ2 : κ2 δ.nx = some (w.heap.size + 1) := by show upd _ _ _ _ = _; simp [upd, hw1s]
    let δ2 : DS := { n := n', env := enum 0 (first ++ .yld δ.nx :: cap) ++ shiftE δ.env, objs := (δ.nx, some (.loop (w.heap.size + 1) a.tmps ps asg body .ready)) :: δ.objs, nx := δ.nx + 1 }
    have hcx : δ2.cx g' κ2 = (δ.addOb (.loop (w.heap.size + 1) a.tmps ps asg body .ready)).cx g κ2 := rfl
    have happ : ∀ (e1 e2 : List (Nat × AV)) (j : Nat), look (e1 ++ e2) j = look e1 j ∨ (look e1 j = .any ∧ look (e1 ++ e2) j = look e2 j) := by
      intro e1 e2 j
      induction e1 with
      | nil => exact .inr ⟨rfl, rfl⟩
      | cons p e1 ih =>
        obtain ⟨i, v⟩ := p
        rw [List.cons_append, look_cons, look_cons]
        by_cases e : i = j
        · rw [if_pos e, if_pos e]; exact .inl rfl
        · rw [if_neg e, if_neg e]; exact ih
    let args : Array Value := vs ++ #[.func (.yield (w.heap.size + 1)) #[] #[]] ++ us
    have hsz : args.size = first.length + 1 + cap.length := by simp [args]; omega
    have hrel : Rel g' δ2 κ2 { tmps := args ++ Array.replicate (fn.ntmps - args.size) undef, defers := [] } w2 :=
      { n := by show (args ++ Array.replicate (fn.ntmps - args.size) undef).size = n'; rw [Array.size_append, Array.size_replicate, hn, hsz]; omega
        dfr := ⟨[], rfl, by
            show (w.heap.size :: (ms ++ g.mks)).Nodup
            refine List.nodup_cons.2 ⟨fun hmem => ?_, hm2⟩
            have := heap_lt (hm3 _ hmem).2
            omega, fun k hk => by
            rw [List.nil_append] at hk
            rcases List.mem_cons.1 hk with rfl | hk
            · refine ⟨r.hB, ?_⟩
              rw [show w2.heap[w.heap.size]? = w1.heap[w.heap.size]? from Below.heap_alloc w1 _ _ (by omega)]
              exact heap_alloc_new w _
            · have h3 := hm3 k hk
              have hlt := heap_lt h3.2
              refine ⟨h3.1, ?_⟩
              rw [show w2.heap[k]? = w1.heap[k]? from Below.heap_alloc w1 _ _ (by omega), show w1.heap[k]? = w.heap[k]? from Below.heap_alloc w _ _ hlt]
              exact h3.2⟩
        env := fun j => by
          rw [hcx]
          by_cases hj : j < HS
          · have hval : g'.val { tmps := args ++ Array.replicate (fn.ntmps - args.size) undef, defers := [] } j = (args ++ Array.replicate (fn.ntmps - args.size) undef).getD j undef := if_pos hj
            rw [hval]
            have hget : δ2.get j = look (enum 0 (first ++ .yld δ.nx :: cap)) j := by
              rcases happ (enum 0 (first ++ .yld δ.nx :: cap)) (shiftE δ.env) j with h1 | ⟨h1, h2⟩
              · exact h1
              · show look (_ ++ _) j = _
                rw [h2, h1, look_shift_lt _ _ hj]
            rw [hget]
            by_cases hja : j < args.size
            · have hl : j < (first ++ .yld δ.nx :: cap).length := by simp; omega
              rw [look_enum _ 0 j ((first ++ .yld δ.nx :: cap)[j]) (Nat.zero_le _) (by rw [Nat.sub_zero]; exact List.getElem?_eq_getElem hl)]
              have hav : (args ++ Array.replicate (fn.ntmps - args.size) undef).getD j undef = args[j] := by
                rw [Array.getD_eq_getD_getElem?, Array.getElem?_append_left hja, Array.getElem?_eq_getElem hja]; rfl
              rw [hav]
              have hA : args[j]? = some args[j] := Array.getElem?_eq_getElem hja
              have hL : (first ++ .yld δ.nx :: cap)[j]? = some (first ++ .yld δ.nx :: cap)[j] := List.getElem?_eq_getElem hl
              generalize args[j] = u at hA ⊢
              generalize (first ++ .yld δ.nx :: cap)[j] = d at hL ⊢
              simp only [args] at hA
              by_cases h1 : j < first.length
              · rw [List.getElem?_append_left h1] at hL
                rw [Array.getElem?_append_left (by simp; omega), Array.getElem?_append_left (by omega)] at hA
                exact G.ra ((Goes.ra ⟨rfl, by rw [hw1s]; omega, fun b hb hN => ⟨hN, Below.heap_alloc w _ _ hb⟩, fun i hi => ⟨hi, rfl, fun b hκ => Below.heap_alloc w _ _ (r.lo i b (DS.lr_live hi) hκ).2⟩, fun i hi => ⟨hi, rfl⟩⟩ (hvs j u d hA hL)))
              · rw [List.getElem?_append_right (by omega)] at hL
                by_cases h2 : j = first.length
                · subst h2
                  simp at hL
                  subst hL
                  rw [Array.getElem?_append_left (by simp; omega), Array.getElem?_append_right (by omega)] at hA
                  simp [hs] at hA
                  subst hA
                  exact .yld ⟨_, by show (δ.addOb _).ob _ = _; rw [ob_addOb, if_pos rfl], rfl⟩ hκ2
                · obtain ⟨m, hm⟩ : ∃ m, j = first.length + 1 + m := ⟨j - first.length - 1, by omega⟩
                  subst hm
                  rw [show first.length + 1 + m - first.length = m + 1 by omega, List.getElem?_cons_succ] at hL
                  rw [Array.getElem?_append_right (by simp; omega)] at hA
                  have e0 : first.length + 1 + m - (vs ++ #[Value.func (.yield (w.heap.size + 1)) #[] #[]]).size = m := by simp; omega
                  rw [e0] at hA
                  exact G.ra ((Goes.ra ⟨rfl, by rw [hw1s]; omega, fun b hb hN => ⟨hN, Below.heap_alloc w _ _ hb⟩, fun i hi => ⟨hi, rfl, fun b hκ => Below.heap_alloc w _ _ (r.lo i b (DS.lr_live hi) hκ).2⟩, fun i hi => ⟨hi, rfl⟩⟩ (hus m u d hA hL)))
            · rw [look_enum_out _ 0 j (.inr (by simp; omega))]; exact .any _
          · obtain ⟨m, rfl⟩ : ∃ m, j = m + HS := ⟨j - HS, by omega⟩
            have hval : g'.val { tmps := args ++ Array.replicate (fn.ntmps - args.size) undef, defers := [] } (m + HS) = g.val a m := by
              rw [val_held]; exact congrArg (g.val a) (Nat.add_sub_cancel m HS)
            rw [hval]
            have hget : δ2.get (m + HS) = δ.get m := by
              have h0 : look (enum 0 (first ++ .yld δ.nx :: cap)) (m + HS) = .any := look_enum_out _ 0 _ (.inr (by simp; omega))
              rcases happ (enum 0 (first ++ .yld δ.nx :: cap)) (shiftE δ.env) (m + HS) with h1 | ⟨h1, h2⟩
              · -- both any, or the saved one
                have : ∀ (e1 : List (Nat × AV)), (∀ p ∈ e1, p.1 ≠ m + HS) → look (e1 ++ shiftE δ.env) (m + HS) = look (shiftE δ.env) (m + HS) := by
                  intro e1 hne
                  induction e1 with
                  | nil => rfl
                  | cons p e1 ih =>
                    rw [List.cons_append]
                    show look ((p.1, p.2) :: (e1 ++ shiftE δ.env)) _ = _
                    rw [look_cons, if_neg (hne p (by simp))]
                    exact ih (fun q hq => hne q (by simp [hq]))
                have hk : ∀ (l : List AV) (i : Nat), ∀ p ∈ enum i l, p.1 < i + l.length := by
                  intro l
                  induction l with
                  | nil => intro i p hp; simp [enum] at hp
                  | cons v l ih =>
                    intro i p hp
                    simp only [enum, List.mem_cons] at hp
                    rcases hp with rfl | hp
                    · simp
                    · have := ih (i + 1) p hp; simp; omega
                show look (_ ++ _) _ = _
                rw [this _ (fun p hp => by have := hk _ 0 p hp; simp at this; omega), look_shift]; rfl
              · show look (_ ++ _) _ = _
                rw [h2, look_shift]; rfl
            rw [hget]
            exact hr2.env m
        obj := hr2.obj, inj := hr2.inj, lo := hr2.lo, nx := hr2.nx, wt := fun k hk => (by cases hk), below := hr2.below, hB := hr2.hB, N0 := hr2.N0 }
    have hbody := h g' a.tmps (w.heap.size + 1) rfl rfl (fun j hj => (congrArg (g.val a) (Nat.add_sub_cancel j HS)).trans (by unfold Ghost.val; rw [if_pos hj])) (fun j => (congrArg (g.val a) (Nat.add_sub_cancel (j + HS) HS)).trans (val_held g a j)) r.n κ2 _ w2 hrel
    refine callsIn_of_wp_marks (n := 0) hf hb trivial (wpIn_mono hbody ?_)
    rintro e a2 w3 ⟨δ3, κ3, hq, r3⟩
    have fin : jumpD (w.heap.size + 1) Q (backD δ.n δ.nx δ3) (δ3.ob δ.nx) → LeavesInM (Fw none) 0 P fn a2.tmps (rangePost (Fw none) 0 P (w.heap.size + 1) (lift g Q) { a with defers := [{ target := .collected w.heap.size, args := #[] }] ++ a.defers }) a2.defers .returning w3 := by
      intro hj
      obtain ⟨tm3, ps3, asg3, body3, st3, hob⟩ : ∃ tm ps asg body st, δ3.ob δ.nx = some (.loop (w.heap.size + 1) tm ps asg body st) := by
        cases hoo : δ3.ob δ.nx with
        | none => rw [hoo] at hj; exact hj.elim
        | some o =>
          rw [hoo] at hj
          cases o with
          | row => exact hj.elim
          | box cs => exact hj.elim
          | mp l => exact hj.elim
          | it l seen => exact hj.elim
          | loop l' tm ps asg body st =>
            cases st with
            | ready => obtain ⟨rfl, _⟩ := hj; exact ⟨tm, ps, asg, body, _, rfl⟩
            | busy => exact hj.elim
            | over => exact hj.elim
            | done c => cases c <;> first | exact hj.elim | (obtain ⟨rfl, _⟩ := hj; exact ⟨tm, ps, asg, body, _, rfl⟩)
      refine leaves (g := g') rfl (rs := []) hres .none r3 (fun w4 r4 u hu => ?_)
      obtain ⟨b, rl, h1, h2, hbl, h3, h4, h5, h6, h7⟩ := r4.obj _ _ hob
      have h1' : κ3 δ.nx = some b := h1
      subst hbl
      have hnb : rl.state ≠ .busy := by
        rw [hob] at hj
        cases st3 with
        | ready => rw [h7.1]; simp
        | busy => exact hj.elim
        | over => exact hj.elim
        | done c => rw [h7.1]; simp
      have hend := run_endLoop (P := P) (w := w4) h2 hnb
      have hd : Dfr g { a with defers := [{ target := .collected w.heap.size, args := #[] }] ++ a.defers } (w4.putObj (w.heap.size + 1) (.loop { rl with state := .exhausted })) := by
        obtain ⟨rs4, k1, k2, k3⟩ := r4.dfr
        refine ⟨w.heap.size :: ms, by simp [hm1], ?_, fun k hk => ?_⟩
        · have : (rs4 ++ g'.mks).Nodup := k2
          exact (List.nodup_append.1 this).2.1
        · have hk' := k3 k (List.mem_append.2 (.inr hk))
          refine ⟨hk'.1, ?_⟩
          rw [World.putObj_heap_other (by intro e; subst e; rw [h2] at hk'; cases hk'.2)]
          exact hk'.2
      have rb := r4.back (g := g) (n := δ.n) (a' := { a with defers := [{ target := .collected w.heap.size, args := #[] }] ++ a.defers }) hwt rfl ⟨rfl, rfl, rfl⟩ (fun j => congrArg (g.val a) (Nat.add_sub_cancel j HS)) r.n hob h1' h2 { rl with state := .exhausted } ⟨rfl, rfl, rfl, rfl⟩ rfl hd
      refine ⟨rl.pending, _, hend, ?_⟩
      rw [hob] at hj
      cases st3 with
      | ready => rw [h7.2] at rb ⊢; exact ⟨_, κ3, hj.2, rb⟩
      | busy => exact hj.elim
      | over => exact hj.elim
      | done c =>
        rw [h7.2] at rb ⊢
        cases c with
        | ret => exact wpIn_ret ⟨_, κ3, hj.2, rb⟩
        | exit id => exact wpIn_exit ⟨_, κ3, hj.2, rb⟩
        | _ => exact hj.elim
    cases e with
    | normal => exact fin hq
    | ret => exact fin hq
    | _ => exact hq.elim


theorem AOps.yieldD (d : Nat) {x : Operand} {ys : List Operand} {tys : Array TypeId} {i l n0 : Nat} {tm : Array Value} {ps : List Tmp} {asg body : Code} (hwt : g.wt = none) (hheld : ∀ j, j < HS → g.held (j + HS + d * HS) = tm.getD j undef) (htm : tm.size = n0) (hn0 : Nat.ble n0 HS = true)
    (hx : δ.ev x = .yld i) (hob : δ.ob i = some (.loop l tm ps.toArray asg body .ready)) (ho : okT x = true) (hys : ys.all okT = true) (hlen : Nat.beq ys.length ps.length = true) (hps : ps.all (fun t => Nat.blt t n0) = true) (hd' : okD δ.n dst = true)
    (h : ∀ g' : Ghost, g'.ro = some l → g'.wt = none → (∀ j, g'.held (j + HS + HS) = g.held (j + HS)) → AW P g' asg (thenD (fun δ1 => isLp δ1 i l .ready ∧ AW P g' body (roundEnds δ.n i l (fun b st δ2 => AOps .plain P g ops rest Q ((δ2.lpSt i st).putd dst (litB b)))) (δ1.lpSt i .busy)) (fun _ _ => False)) { n := n0, env := parE ps (ys.map δ.ev) (ownE (unD d δ.env) ++ shiftE δ.env), objs := δ.objs, nx := δ.nx }) :
    AOps .plain P g ops (⟨dst, .call { callee := .value x, args := ys.toArray, argTypes := tys }, ty, pos, af, none⟩ :: rest) Q δ := by
  intro κ a w r
  have hra := r.ra hx ho
  generalize hv : a.eval x = v at hra
  cases hra with
  | @yld _ b hl hκ =>
    obtain ⟨b', rl, h1, h2, hbl, h3, h4, h5, h6, h7⟩ := r.obj _ _ hob
    have : b' = b := Option.some.inj (h1.symm.trans hκ)
    subst this
    subst hbl
    obtain ⟨ms, hm1, hm2, hm3⟩ := r.dfr
    have hlen' : ys.length = ps.length := Nat.eq_of_beq_eq_true hlen
    show wpListIn _ _ P ops _ (_ :: rest) a w
    refine wpl_plain rfl rfl fun K hK' => ?_
    unfold Oper.wpF
    rw [run_yieldOp hv h2 (by rw [h4]; simpa using hlen'), Oper.uponIn_round]
    refine ⟨fun h => by simp at h, ?_⟩
    let tm' : Array Value := (rl.params.zip (ys.toArray.map a.eval)).foldl (fun tmps (t, a) => tmps.setIfInBounds t a) rl.tmps
    have htm' : tm' = (ps.zip (ys.map a.eval)).foldl (fun tmps (t, a) => tmps.setIfInBounds t a) tm := by
      show (rl.params.zip (ys.toArray.map a.eval)).foldl _ rl.tmps = _
      rw [h3, h4, ← Array.foldl_toList, Array.toList_zip]
      simp
    let g' : Ghost := { B := g.B, w0 := g.w0, N0 := g.N0, held := fun j => g.val a (j - HS), ro := some b', mks := ms ++ g.mks, wt := none }
    have hheld' : ∀ j, g'.held (j + HS) = g.val a j := fun j => congrArg (g.val a) (Nat.add_sub_cancel j HS)
    have hrel : Rel g' { n := n0, env := parE ps (ys.map δ.ev) (ownE (unD d δ.env) ++ shiftE δ.env), objs := δ.objs, nx := δ.nx } κ { tmps := tm', defers := [] } w :=
      { n := by show tm'.size = n0; rw [htm', par_size]; exact htm
        dfr := ⟨[], rfl, hm2, hm3⟩
        env := fun j => by
          have hp := par_ok (C := δ.cx g κ) (w := w) (hv := g'.held) ps (ys.map a.eval) (ys.map δ.ev) tm (ownE (unD d δ.env) ++ shiftE δ.env) (by simpa using hlen') (by simpa using hlen')
            (fun t ht => by
              have h8 := (List.all_eq_true.1 hps) t ht
              have h9 : t < n0 := by simpa using h8
              have h10 : n0 ≤ HS := by simpa using hn0
              exact ⟨htm ▸ h9, Nat.lt_of_lt_of_le h9 h10⟩)
            (fun j u v h8 h9 => by
              simp only [List.getElem?_map, Option.map_eq_some_iff] at h8 h9
              obtain ⟨y, h8, rfl⟩ := h8
              obtain ⟨y', h9, rfl⟩ := h9
              rw [h8] at h9; cases h9
              exact r.evc y (okT_spec ((List.all_eq_true.1 hys) y (List.mem_of_getElem? h8))))
            (fun j => by
              rw [look_round2]
              by_cases hj : j < HS
              · rw [if_pos hj, if_pos hj, ← hheld j hj, look_unD]
                have := r.env (j + HS + d * HS)
                rw [show g.val a (j + HS + d * HS) = g.held (j + HS + d * HS) from by unfold Ghost.val; rw [if_neg (by omega)]] at this
                exact this
              · rw [if_neg hj, if_neg hj]
                exact r.env (j - HS)) j
          rw [← htm'] at hp
          exact hp
        obj := r.obj, inj := r.inj, lo := r.lo, nx := r.nx, wt := fun k hk => (by cases hk), below := r.below, hB := r.hB, N0 := r.N0 }
    rw [h5, h6]
    refine roundIn_of_wpIn (F := Fw g.ro) trivial (wpIn_mono (h g' rfl rfl (fun j => (congrArg (g.val a) (Nat.add_sub_cancel (j + HS) HS)).trans (val_held g a j)) κ _ w hrel) ?_)
    rintro e a1 w1 ⟨δ1, κ1, hq, r1⟩
    cases e with
    | normal =>
      obtain ⟨hlp, hq⟩ := hq
      have hlp0 := hlp
      obtain ⟨tm1, ps1, asg1, body1, ho1⟩ := hlp
      obtain ⟨b1, rl1, k1, k2, kbl, k3, k4, k5, k6, k7⟩ := r1.obj _ _ ho1
      subst kbl
      have r1' := r1.lpSt rfl (st' := .busy) (r' := { rl1 with state := .busy }) hlp0 k2 ⟨rfl, rfl, rfl, rfl⟩ rfl
      refine ⟨_, run_beginRound k2 k7.1, wpIn_mono (hq κ1 a1 _ r1') ?_⟩
      rintro e2 a2 w2 ⟨δ2, κ2, hq2, r2⟩
      have fin : ∀ (jump : Option Code) (st : LpSt) (bb : Bool), bb = jump.isNone → isLp δ2 i b1 .busy → AOps .plain P g ops rest Q (((roundBack δ.n δ2).lpSt i st).putd dst (litB bb)) →
          (match st with | .ready => jump = none | .done c => jump = some c | _ => False) →
          ∃ v w', (Instr.endRound b1 jump).run P w2 = .ok v w' ∧ K (a.put dst v) w' := by
        intro jump st bb hbb hl2 hA hst
        have hl20 := hl2
        obtain ⟨tm2, ps2, asg2, body2, ho2⟩ := hl2
        obtain ⟨b2, rl2, m1, m2, mbl, m3, m4, m5, m6, m7⟩ := r2.obj _ _ ho2
        subst mbl
        have r3 := r2.lpSt rfl (st' := st) (r' := { rl2 with state := if jump.isNone then .ready else .done, pending := jump }) hl20 m2 ⟨rfl, rfl, rfl, rfl⟩ (by
          cases st with
          | ready => simp only at hst; subst hst; exact ⟨rfl, rfl⟩
          | done c => simp only at hst; subst hst; exact ⟨rfl, rfl⟩
          | _ => exact hst.elim)
        refine ⟨_, _, run_endRound jump m2, ?_⟩
        have hd : Dfr g a (w2.putObj b2 (.loop { rl2 with state := if jump.isNone then .ready else .done, pending := jump })) := by
          obtain ⟨rs4, k1, k2, k3⟩ := r3.dfr
          exact ⟨ms, hm1, (List.nodup_append.1 k2).2.1, fun k hk => k3 k (List.mem_append.2 (.inr hk))⟩
        have r4 := r3.frame (g := g) (a' := a) (n := δ.n) hwt rfl ⟨rfl, rfl, rfl⟩ hheld' r.n hd
        have he : roundBack δ.n (δ2.lpSt i st) = (roundBack δ.n δ2).lpSt i st := by
          unfold DS.lpSt
          have : (roundBack δ.n δ2).ob i = δ2.ob i := rfl
          rw [this, ho2]; rfl
        rw [he] at r4
        subst hbb
        have hnn : ((roundBack δ.n δ2).lpSt i st).n = δ.n := by
          unfold DS.lpSt
          have : (roundBack δ.n δ2).ob i = δ2.ob i := rfl
          rw [this, ho2]; rfl
        exact hK' _ _ (hA κ2 _ _ (r4.putd (v := .bool jump.isNone) (okD_spec (by rw [hnn]; exact hd')) (.pv (.lit _))))
      cases e2 with
      | normal => exact fin none .ready true rfl hq2.1 hq2.2 rfl
      | ret => exact fin (some .ret) (.done .ret) false rfl hq2.1 hq2.2 rfl
      | exit id => exact fin (some (.exit id)) (.done (.exit id)) false rfl hq2.1 hq2.2 rfl
      | _ => exact hq2.elim
    | _ => exact hq.elim

theorem AW.rangeFuncUH {x : Operand} {ps : List Tmp} {asg body : Code} {f : FuncId} {first cap : List AV} {fn : Func} {c : Code} {n' : Nat} (hro : g.ro = none) (hwt : g.wt = none) (hx : δ.ev x = .clo (.func f) first cap) (ho : okT x = true)
    (hf : P.funcs[f]? = some fn) (hb : fn.body = some c) (hres : fn.results = #[]) (hn : fn.ntmps = n') (hle : Nat.ble (first.length + 1 + cap.length) n' = true) (hnH : Nat.ble n' HS = true) (hown : Nat.ble δ.n HS = true) (he : (fn.name == "runtime.NumGoroutine") = false)
    (h : ∀ (g' : Ghost) (tm : Array Value) (l : Nat) (ps' : Array Tmp) (asg' body' : Code), LpCode ps' asg' body' ps asg body → g'.ro = none → g'.wt = none → (∀ j, j < HS → g'.held (j + HS) = tm.getD j undef) → (∀ j, g'.held (j + HS + HS) = g.held (j + HS)) → tm.size = δ.n →
      AW P g' c (iterEnds δ.n δ.nx l Q) { n := n', env := enum 0 (first ++ .yld δ.nx :: cap) ++ shiftE δ.env, objs := (δ.nx, some (.loop l tm ps' asg' body' .ready)) :: δ.objs, nx := δ.nx + 1 }) :
    AW P g (.rangeFunc x ps.toArray asg body) Q δ :=
  AW.rangeFuncU hro hwt hx ho hf hb hres hn hle hnH hown he fun g' tm l h1 h2 h3 h4 h5 => h g' tm l _ _ _ ⟨rfl, rfl, rfl⟩ h1 h2 h3 h4 h5
theorem AOps.yieldDN (d : Nat) {x : Operand} {ys : List Operand} {tys : Array TypeId} {i l n0 : Nat} {tm : Array Value} {ps : List Tmp} {asg body : Code} {ps' : Array Tmp} {asg' body' : Code} (hcode : LpCode ps' asg' body' ps asg body) (hwt : g.wt = none) (hheld : ∀ j, j < HS → g.held (j + HS + d * HS) = tm.getD j undef) (htm : tm.size = n0)
    (hn0 : Nat.ble n0 HS = true) (hx : δ.ev x = .yld i) (hob : δ.ob i = some (.loop l tm ps' asg' body' .ready)) (ho : okT x = true) (hys : ys.all okT = true) (hlen : Nat.beq ys.length ps.length = true) (hps : ps.all (fun t => Nat.blt t n0) = true) (hd' : okD δ.n dst = true)
    (h : ∀ g' : Ghost, g'.ro = some l → g'.wt = none → (∀ j, g'.held (j + HS + HS) = g.held (j + HS)) → AW P g' asg (thenD (fun δ1 => isLp δ1 i l .ready ∧ AW P g' body (roundEndsN P g ops rest Q dst δ.n i l) (stO δ1 i .busy)) (fun _ _ => False)) { n := n0, env := parE ps (ys.map δ.ev) (ownE (unD d δ.env) ++ shiftE δ.env), objs := δ.objs, nx := δ.nx }) :
    AOps .plain P g ops (⟨dst, .call { callee := .value x, args := ys.toArray, argTypes := tys }, ty, pos, af, none⟩ :: rest) Q δ := by
  obtain ⟨rfl, rfl, rfl⟩ := hcode
  refine AOps.yieldD d hwt hheld htm hn0 hx hob ho hys hlen hps hd' fun g' h1 h2 hu => (h g' h1 h2 hu).mono ?_
  intro e δ1 he
  cases e with
  | normal =>
    obtain ⟨h3, h4⟩ := he
    refine ⟨h3, ?_⟩
    rw [stO_eq _ h3]
    refine AW.mono h4 ?_
    intro e2 δ2 he2
    cases e2 with
    | normal => exact ⟨he2.1, by show AOps .plain P g ops rest Q (((roundBack δ.n δ2).lpSt i .ready).putd dst (litB true)); rw [stO_eq .ready (isLp_back (n := δ.n) he2.1)]; exact he2.2⟩
    | ret => exact ⟨he2.1, by show AOps .plain P g ops rest Q (((roundBack δ.n δ2).lpSt i (.done .ret)).putd dst (litB false)); rw [stO_eq (.done .ret) (isLp_back (n := δ.n) he2.1)]; exact he2.2⟩
    | exit id => exact ⟨he2.1, by show AOps .plain P g ops rest Q (((roundBack δ.n δ2).lpSt i (.done (.exit id))).putd dst (litB false)); rw [stO_eq (.done (.exit id)) (isLp_back (n := δ.n) he2.1)]; exact he2.2⟩
    | _ => exact he2.elim
  | _ => exact he.elim
theorem AOps.yieldN0 {x : Operand} {ys : List Operand} {tys : Array TypeId} {i l n0 : Nat} {tm : Array Value} {ps : List Tmp} {asg body : Code} {ps' : Array Tmp} {asg' body' : Code} (hcode : LpCode ps' asg' body' ps asg body) (hwt : g.wt = none) (hheld : ∀ j, j < HS → g.held (j + HS) = tm.getD j undef) (htm : tm.size = n0)
    (hn0 : Nat.ble n0 HS = true) (hx : δ.ev x = .yld i) (hob : δ.ob i = some (.loop l tm ps' asg' body' .ready)) (ho : okT x = true) (hys : ys.all okT = true) (hlen : Nat.beq ys.length ps.length = true) (hps : ps.all (fun t => Nat.blt t n0) = true) (hd' : okD δ.n dst = true)
    (h : ∀ g' : Ghost, g'.ro = some l → g'.wt = none → (∀ j, g'.held (j + HS + HS) = g.held (j + HS)) → AW P g' asg (thenD (fun δ1 => isLp δ1 i l .ready ∧ AW P g' body (roundEndsN P g ops rest Q dst δ.n i l) (stO δ1 i .busy)) (fun _ _ => False)) { n := n0, env := parE ps (ys.map δ.ev) (ownE (δ.env) ++ shiftE δ.env), objs := δ.objs, nx := δ.nx }) :
    AOps .plain P g ops (⟨dst, .call { callee := .value x, args := ys.toArray, argTypes := tys }, ty, pos, af, none⟩ :: rest) Q δ := by
  exact AOps.yieldDN 0 hcode hwt (fun j hj => (congrArg g.held (by omega)).trans (hheld j hj)) htm hn0 hx hob ho hys hlen hps hd' h
theorem AOps.yieldN2 {x : Operand} {ys : List Operand} {tys : Array TypeId} {i l n0 : Nat} {tm : Array Value} {ps : List Tmp} {asg body : Code} {ps' : Array Tmp} {asg' body' : Code} (hcode : LpCode ps' asg' body' ps asg body) (hwt : g.wt = none) (hheld : ∀ j, j < HS → g.held (j + HS + 2 * HS) = tm.getD j undef) (htm : tm.size = n0)
    (hn0 : Nat.ble n0 HS = true) (hx : δ.ev x = .yld i) (hob : δ.ob i = some (.loop l tm ps' asg' body' .ready)) (ho : okT x = true) (hys : ys.all okT = true) (hlen : Nat.beq ys.length ps.length = true) (hps : ps.all (fun t => Nat.blt t n0) = true) (hd' : okD δ.n dst = true)
    (h : ∀ g' : Ghost, g'.ro = some l → g'.wt = none → (∀ j, g'.held (j + HS + HS) = g.held (j + HS)) → AW P g' asg (thenD (fun δ1 => isLp δ1 i l .ready ∧ AW P g' body (roundEndsN P g ops rest Q dst δ.n i l) (stO δ1 i .busy)) (fun _ _ => False)) { n := n0, env := parE ps (ys.map δ.ev) (ownE (unshiftE (unshiftE (δ.env))) ++ shiftE δ.env), objs := δ.objs, nx := δ.nx }) :
    AOps .plain P g ops (⟨dst, .call { callee := .value x, args := ys.toArray, argTypes := tys }, ty, pos, af, none⟩ :: rest) Q δ := by
  exact AOps.yieldDN 2 hcode hwt (fun j hj => hheld j hj) htm hn0 hx hob ho hys hlen hps hd' h
theorem AOps.yieldN4 {x : Operand} {ys : List Operand} {tys : Array TypeId} {i l n0 : Nat} {tm : Array Value} {ps : List Tmp} {asg body : Code} {ps' : Array Tmp} {asg' body' : Code} (hcode : LpCode ps' asg' body' ps asg body) (hwt : g.wt = none) (hheld : ∀ j, j < HS → g.held (j + HS + 4 * HS) = tm.getD j undef) (htm : tm.size = n0)
    (hn0 : Nat.ble n0 HS = true) (hx : δ.ev x = .yld i) (hob : δ.ob i = some (.loop l tm ps' asg' body' .ready)) (ho : okT x = true) (hys : ys.all okT = true) (hlen : Nat.beq ys.length ps.length = true) (hps : ps.all (fun t => Nat.blt t n0) = true) (hd' : okD δ.n dst = true)
    (h : ∀ g' : Ghost, g'.ro = some l → g'.wt = none → (∀ j, g'.held (j + HS + HS) = g.held (j + HS)) → AW P g' asg (thenD (fun δ1 => isLp δ1 i l .ready ∧ AW P g' body (roundEndsN P g ops rest Q dst δ.n i l) (stO δ1 i .busy)) (fun _ _ => False)) { n := n0, env := parE ps (ys.map δ.ev) (ownE (unshiftE (unshiftE (unshiftE (unshiftE (δ.env))))) ++ shiftE δ.env), objs := δ.objs, nx := δ.nx }) :
    AOps .plain P g ops (⟨dst, .call { callee := .value x, args := ys.toArray, argTypes := tys }, ty, pos, af, none⟩ :: rest) Q δ := by
  exact AOps.yieldDN 4 hcode hwt (fun j hj => hheld j hj) htm hn0 hx hob ho hys hlen hps hd' h
theorem AOps.yieldN6 {x : Operand} {ys : List Operand} {tys : Array TypeId} {i l n0 : Nat} {tm : Array Value} {ps : List Tmp} {asg body : Code} {ps' : Array Tmp} {asg' body' : Code} (hcode : LpCode ps' asg' body' ps asg body) (hwt : g.wt = none) (hheld : ∀ j, j < HS → g.held (j + HS + 6 * HS) = tm.getD j undef) (htm : tm.size = n0)
    (hn0 : Nat.ble n0 HS = true) (hx : δ.ev x = .yld i) (hob : δ.ob i = some (.loop l tm ps' asg' body' .ready)) (ho : okT x = true) (hys : ys.all okT = true) (hlen : Nat.beq ys.length ps.length = true) (hps : ps.all (fun t => Nat.blt t n0) = true) (hd' : okD δ.n dst = true)
    (h : ∀ g' : Ghost, g'.ro = some l → g'.wt = none → (∀ j, g'.held (j + HS + HS) = g.held (j + HS)) → AW P g' asg (thenD (fun δ1 => isLp δ1 i l .ready ∧ AW P g' body (roundEndsN P g ops rest Q dst δ.n i l) (stO δ1 i .busy)) (fun _ _ => False)) { n := n0, env := parE ps (ys.map δ.ev) (ownE (unshiftE (unshiftE (unshiftE (unshiftE (unshiftE (unshiftE (δ.env))))))) ++ shiftE δ.env), objs := δ.objs, nx := δ.nx }) :
    AOps .plain P g ops (⟨dst, .call { callee := .value x, args := ys.toArray, argTypes := tys }, ty, pos, af, none⟩ :: rest) Q δ := by
  exact AOps.yieldDN 6 hcode hwt (fun j hj => hheld j hj) htm hn0 hx hob ho hys hlen hps hd' h
end Go.Ab
/- Maps from numbers to numbers; the address of a field, taken first. -/
namespace Go.Ab
open Go Go.RowKit
def cntI (l : List (Int × Int)) : List (Int × AV) := l.map fun p => (p.1, litI p.2)
def getL : List (Int × Int) → Int → Int
  | [], _ => 0
  | (k, v) :: l, m => if m = k then v else getL l m
def setL' : List (Int × Int) → Int → Int → List (Int × Int)
  | [], m, n => [(m, n)]
  | (k, v) :: l, m, n => if m = k then (k, n) :: l else (k, v) :: setL' l m n
theorem lookI_cnt : ∀ (l : List (Int × Int)) (m : Int), (lookI (cntI l) m).getD (.pv (.lit (.int .i64 0))) = litI (getL l m)
  | [], _ => rfl
  | (k, v) :: l, m => by
    show (if m = k then some (litI v) else lookI (cntI l) m).getD _ = litI (if m = k then v else getL l m)
    by_cases h : m = k
    · rw [if_pos h, if_pos h]; rfl
    · rw [if_neg h, if_neg h]; exact lookI_cnt l m
theorem updI_cnt : ∀ (l : List (Int × Int)) (m n : Int), updI (cntI l) m (litI n) = cntI (setL' l m n)
  | [], _, _ => rfl
  | (k, v) :: l, m, n => by
    show (if m = k then (k, litI n) :: cntI l else (k, litI v) :: updI (cntI l) m (litI n)) = cntI (if m = k then (k, n) :: l else (k, v) :: setL' l m n)
    by_cases h : m = k
    · rw [if_pos h, if_pos h]; rfl
    · rw [if_neg h, if_neg h, updI_cnt l m n]; rfl
theorem getL_set : ∀ (l : List (Int × Int)) (m n x : Int), getL (setL' l m n) x = if x = m then n else getL l x
  | [], m, n, x => rfl
  | (k, v) :: l, m, n, x => by
    unfold setL'
    by_cases h : m = k
    · rw [if_pos h]
      show (if x = k then n else getL l x) = if x = m then n else (if x = k then v else getL l x)
      by_cases hx : x = m
      · rw [if_pos hx, if_pos (hx.trans h)]
      · rw [if_neg hx, if_neg (fun e => hx (e.trans h.symm)), if_neg (fun e => hx (e.trans h.symm))]
    · rw [if_neg h]
      show (if x = k then v else getL (setL' l m n) x) = if x = m then n else (if x = k then v else getL l x)
      rw [getL_set l m n x]
      by_cases hx : x = k
      · rw [if_pos hx, if_pos hx, if_neg (fun e => h (e.symm.trans hx))]
      · rw [if_neg hx, if_neg hx]
section
variable {P : Program} {g : Ghost} {δ δ' : DS} {q : Md}
variable {ops : Array Oper} {rest : List Oper} {Q : Exit → DS → Prop} {dst : Option Nat} {ty : TypeId} {pos : String} {af : Array Edge}
theorem AOps.lookup_cnt {x y : Operand} {t kt et : TypeId} {i : Nat} {l : List (Int × Int)} {m : Int} (hx : δ.ev x = .mapr i) (hob : δ.ob i = some (.mp (mpI (cntI l)))) (hy : δ.ev y = litI m) (ht : P.underlying t = some (.map kt et)) (hk : P.underlying kt = some (.int .i64)) (hz : (P.info? et).bind (·.zero) = some (.int .i64 0))
    (ho : okT x = true) (ho' : okT y = true) (hd : okD δ.n dst = true) (hK : AOps q P g ops rest Q (δ.putd dst (litI (getL l m)))) : AOps q P g ops (⟨dst, .lookup t x y false, ty, pos, af, none⟩ :: rest) Q δ :=
  AOps.lookup hx hob hy ht hk hz (lookI_cnt l m) ho ho' hd hK
theorem AOps.mapUpdate_cnt {x y z : Operand} {t kt et : TypeId} {i : Nat} {l : List (Int × Int)} {m n : Int} (hx : δ.ev x = .mapr i) (hob : δ.ob i = some (.mp (mpI (cntI l)))) (hy : δ.ev y = litI m) (hz : δ.ev z = litI n) (ht : P.underlying t = some (.map kt et)) (hk : P.underlying kt = some (.int .i64))
    (ho : okT x = true) (ho' : okT y = true) (hoz : okT z = true) (hd : okD δ.n dst = true) (hwt : g.wt = none)
    (hK : AOps .plain P g ops rest Q ((δ.setOb i (some (.mp (mpI (cntI (setL' l m n)))))).putd dst .any)) : AOps .plain P g ops (⟨dst, .mapUpdate t x y z, ty, pos, af, none⟩ :: rest) Q δ :=
  AOps.eff rfl rfl (Eff.mapUpdate hx hob hy hz rfl ht hk ho ho' hoz hd (wtOk_none hwt i)) (by rw [updI_cnt]; exact hK)
theorem AOps.makeCnt {t : TypeId} (hd : okD δ.n dst = true) (hK : AOps .plain P g ops rest Q ((δ.addOb (.mp (mpI (cntI [])))).putd dst (.mapr δ.nx))) : AOps .plain P g ops (⟨dst, .makeMap t none, ty, pos, af, none⟩ :: rest) Q δ := AOps.makeMap hd hK
theorem cnt_ids (l : List (Int × Int)) (f h : Nat → Bool) : ∀ p ∈ mpI (cntI l), p.2.ids f h = true := by
  intro p hp
  simp only [mpI, cntI, List.map_map, List.mem_map] at hp
  obtain ⟨x, _, rfl⟩ := hp
  rfl
theorem WO.cnt {i : Nat} {l : List (Int × Int)} (h : δ.ob i = some (.mp (mpI (cntI l)))) : WO δ δ' i (.mp (mpI (cntI l))) := .mp h (cnt_ids l _ _)
theorem WO.cntE {i : Nat} {l l' : List (Int × Int)} (h : δ.ob i = some (.mp (mpI (cntI l)))) (e : l = l') : WO δ δ' i (.mp (mpI (cntI l'))) := e ▸ .cnt h
variable {t n : Nat} {K : DS → Prop}
theorem inlEnds_rmapr {i : Nat} (ht : Nat.blt t HS = true) (h : δ.get t = .mapr i) (hK : K ((roundBack n δ).putd dst (.mapr i))) : inlEnds P [.tmp t] n dst K .ret δ := inlEnds_r (.one (.tmp ht h)) hK
theorem inlEnds_rclo {f : Go.Fn} {a b : List AV} (ht : Nat.blt t HS = true) (h : δ.get t = .clo f a b) (hK : K ((roundBack n δ).putd dst (.clo f a b))) : inlEnds P [.tmp t] n dst K .ret δ := inlEnds_r (.one (.tmp ht h)) hK
end
theorem Frees.fieldAddr {P : Program} {δ : DS} {dst : Option Nat} {ty : TypeId} {pos : String} {af : Array Edge} {gd : Option (Tmp × Bool)} (s : TypeId) (f k : Nat) {x : Operand} {i off : Nat} (hx : δ.ev x = .ptr i off) (hB : offB P s f k = true) (ho : okT x = true) :
    Frees P ⟨dst, .fieldAddr s x f, ty, pos, af, gd⟩ δ (.ptr i (off + k)) := by
  intro g κ a w r
  unfold offB at hB
  split at hB
  · rename_i fs hs
    split at hB
    · rename_i fld hf
      simp only [Bool.and_eq_true, beq_iff_eq] at hB
      have hk := Nat.eq_of_beq_eq_true hB.1
      subst hk
      have hra := r.ra hx ho
      generalize hu : a.eval x = u at hra
      cases hra with
      | ptr hl hκ => exact ⟨_, fun w' => by have := run_fieldAddr (dst := dst) (ty := ty) (pos := pos) (af := af) hs hf hB.2 hu w'; simpa [execOp] using this, .ptr hl hκ⟩
    · cases hB
  · cases hB
section
variable {P : Program} {g : Ghost} {δ : DS} {l : List Oper} {late dn : List Nat} {k : Wt} {QD : Exit → DS → Prop}
/-- two that may come up, the second a late one. -/
theorem AR.step2L {i j : Nat} {o p : Oper} (hl : Nat.blt dn.length l.length = true) (hr : readyIs l dn [i, j] = true) (ho : l[i]? = some o) (hp : l[j]? = some p) (hlt : lateIn late (setL l.length (j :: dn)) = true)
    (h : ∀ g' : Ghost, g'.ro = g.ro → (∀ j, k.2.2 ≤ j → g'.wtOk j) → AOps .plain P g' l.toArray [o] (onlyN (AR P g k late l QD (i :: dn))) δ)
    (h' : ∀ g' : Ghost, g'.ro = g.ro → g'.wt = none → AOps .plain P g' l.toArray [p] (onlyN (AR P g k late l QD (j :: dn))) δ) : AR P g k late l QD dn δ :=
  AR.all hl hr (by simp) fun i' hi' => by
    have hw : ∀ i', ∀ j, k.2.2 ≤ j → (gOf g k late (setL l.length (i' :: dn))).wtOk j := by
      intro i' j hj k' hk'
      have : (if lateIn late (setL l.length (i' :: dn)) = true then none else some k) = some k' := hk'
      split at this
      · cases this
      · cases this; exact hj
    simp only [List.mem_cons, List.not_mem_nil, or_false] at hi'
    rcases hi' with rfl | rfl
    · exact ⟨o, ho, h _ rfl (hw _)⟩
    · exact ⟨p, hp, h' _ rfl (if_pos hlt)⟩
end
end Go.Ab
/- In the midst of a region that draws its order: operations that only read are taken in one order; the watch over memory begins anew. -/
namespace Go.Ab
open Go Go.RowKit
variable {P : Program} {g : Ghost} {δ : DS} {k : Wt} {late : List Nat} {l : List Oper} {dn : List Nat} {QD : Exit → DS → Prop} {ro : Option Nat}

/-- an edge straight from i to j. -/
def directB (ops : Array Oper) (i j : Nat) : Bool := match ops[j]? with
  | some o => o.after.any fun e => Region.binds .any e && e.on == i
  | none => false
theorem directB_waits {ops : Array Oper} {i j n : Nat} (h : directB ops i j = true) : waitsB ops i (n + 1) j = true := by
  unfold directB at h
  unfold waitsB
  cases ho : ops[j]? with
  | none => rw [ho] at h; cases h
  | some o =>
    rw [ho] at h
    simp only at h ⊢
    obtain ⟨e, he, hb⟩ := Array.any_eq_true'.1 h
    refine Array.any_eq_true'.2 ⟨e, he, ?_⟩
    simp only [Bool.and_eq_true, Bool.or_eq_true] at hb ⊢
    exact ⟨hb.1, .inl hb.2⟩
/-- as firstB; a late operation's own edges are looked at first. -/
def firstD (l : List Oper) (late : List Nat) : List Nat → List Nat → Bool
  | [], _ => true
  | i :: r, dn => freeB l late dn i && late.all (fun j => directB l.toArray i j || waitsB l.toArray i l.length j) && firstD l late r (i :: dn)
theorem firstD_first : ∀ (l2 dn : List Nat), firstD l late l2 dn = true → firstB l late l2 dn = true
  | [], _, _ => rfl
  | i :: r, dn, h => by
    unfold firstD at h
    unfold firstB
    simp only [Bool.and_eq_true] at h ⊢
    refine ⟨⟨h.1.1, List.all_eq_true.2 fun j hj => ?_⟩, firstD_first r _ h.2⟩
    have h1 := (List.all_eq_true.1 h.1.2) j hj
    rcases Bool.or_eq_true _ _ ▸ h1 with h2 | h2
    · cases hl : l.length with
      | zero => simp only [List.length_eq_zero_iff] at hl; subst hl; simp [directB] at h2
      | succ n => exact directB_waits h2
    · exact h2
theorem AR.reads (l2 : List Nat) (hB : firstD l late l2 dn = true) (hL : lateIn late (setL l.length dn) = false) (hle : Nat.ble (l2.length + dn.length) l.length = true)
    (h : ∀ g' : Ghost, g'.ro = g.ro → AOps .held P g' l.toArray (pick l l2) (onlyN fun δ' => ∀ k' : Wt, k'.2.2 = δ.nx → AR P g k' late l QD (l2.reverse ++ dn) δ') δ) : AR P g k late l QD dn δ := by
  intro hdc κ a w r
  have hle' : l2.length + dn.length ≤ l.length := by simpa using hle
  have h1 := h (gOf g k late (setL l.length dn)) rfl κ a w r
  have hwt := r.wt k (show (if lateIn late (setL l.length dn) = true then none else some k) = some k by rw [hL]; rfl)
  obtain ⟨k', hk⟩ : ∃ k' : Wt, k' = (w, (fun b => b < w.heap.size ∧ ∀ i, δ.lr i → κ i ≠ some b), δ.nx) := ⟨_, rfl⟩
  have hsub : ∀ listed w', Sof k' late listed w' → Sof k late listed w' := by
    intro listed w' h3 hl b hb
    obtain ⟨h4, h5⟩ := hwt.1 b hb
    have h6 : b < w.heap.size := by
      rw [Array.getElem?_eq_getElem h4] at h5
      exact (Array.getElem?_eq_some_iff.1 h5).1
    have h7 : k'.2.1 b := by
      rw [hk]
      exact ⟨h6, fun i hi hκ => hwt.2 i b ⟨_, hi⟩ (.inl hi) hκ hb⟩
    have h8 := (h3 hl b h7).2
    rw [hk] at h8
    exact ⟨h4, h8.trans h5⟩
  have hfrom : ∀ (fuel : Nat) (listed : Array Bool) (a : Act) (w' : World), wpAnyL g.ro P l.toArray (postN g QD) (Sof k' late) fuel listed a w' → wpAnyL g.ro P l.toArray (postN g QD) (Sof k late) fuel listed a w' := by
    intro fuel
    induction fuel with
    | zero => intro _ _ _ h; exact h
    | succ fuel ih => intro listed a w' h; exact ⟨h.1, fun i hi => wpOpIn_mono (fun a' w'' h' => ⟨hsub _ _ h'.1, ih _ _ _ h'.2⟩) (h.2 i hi)⟩
  have hfu : l.length - dn.length = l2.length + (l.length - (l2.reverse ++ dn).length) := by simp; omega
  rw [hfu]
  have hk0 : Sof k' late (setL l.length dn) w := fun _ b hb => by subst hk; exact ⟨hb.1, rfl⟩
  refine hfrom _ _ _ _ (heldIn (ro := g.ro) (g := g) (QD := QD) (late := late) (l := l) (P := P) (δ0 := δ) (κ1 := κ) (w1 := w) (k := k') (by rw [hk]) (by rw [hk]) (N := l.length - (l2.reverse ++ dn).length) l2 dn a (firstD_first _ _ hB) hdc hk0 h1 (fun a' ha' hd' => ?_))
  obtain ⟨δ', hq, hobj, r2⟩ := ha'
  refine hq k' (by rw [hk]) hd' κ a' w ?_
  have hob : ∀ i, δ'.ob i = δ.ob i := fun i => by unfold DS.ob; rw [hobj]
  refine Rel.rewt (g := gOf g k late (setL l.length dn)) r2 (wt' := if lateIn late (setL l.length (l2.reverse ++ dn)) = true then none else some k') fun k'' hk' => ?_
  split at hk'
  · cases hk'
  · cases hk'
    subst hk
    refine ⟨fun b hb => ⟨hb.1, rfl⟩, fun i b hli hor hκ hb => ?_⟩
    rcases hor with hor | hor
    · exact hb.2 i (by have : δ'.ob i = some .row := hor; rw [hob] at this; exact this) hκ
    · obtain ⟨o, hli⟩ := hli
      rw [hob] at hli
      exact absurd (r.nx i ⟨o, hli⟩) (Nat.not_lt.2 hor)
end Go.Ab
/- A part of a box, loaded as a whole. -/
namespace Go.Ab
open Go Go.RowKit
inductive Sub : Nat → Nat → List AV → List AV → Prop where
  | nil {l} : Sub 0 0 l []
  | take {n a l vs} : Sub 0 n l vs → Sub 0 (n + 1) (a :: l) (a :: vs)
  | skip {k n a l vs} : Sub k n l vs → Sub (k + 1) n (a :: l) vs
theorem Sub.spec {k n : Nat} {l vs : List AV} (h : Sub k n l vs) : (l.drop k).take n = vs ∧ k + n ≤ l.length := by
  induction h with
  | nil => simp
  | take _ ih => simp at ih ⊢; exact ⟨ih.1, ih.2⟩
  | skip _ ih => simp at ih ⊢; exact ⟨ih.1, by omega⟩
variable {q : Md} {P : Program} {g : Ghost} {δ : DS} {ops : Array Oper} {rest : List Oper} {Q : Exit → DS → Prop} {dst : Option Nat} {ty : TypeId} {pos : String} {af : Array Edge}
theorem AOps.load_bs {x : Operand} {t : TypeId} {i off n : Nat} {cells vs : List AV} (hx : δ.ev x = .ptr i off) (hb : δ.ob i = some (.box cells)) (hn : (P.info? t).map (·.size) = some n) (hs : Sub off n cells vs) (ht : aggT P t n = true) (ho : okT x = true) (hd : okD δ.n dst = true)
    (hK : AOps q P g ops rest Q (δ.putd dst (.agg vs))) : AOps q P g ops (⟨dst, .load t x, ty, pos, af, none⟩ :: rest) Q δ :=
  AOps.load_bn (n := n) hx hb ht (by simpa using hs.spec.2) ho hd (by rw [hs.spec.1]; exact hK)
theorem AOps.pickBt {x y z : Operand} {b : Bool} {v : PV} (hx : δ.ev x = litB b) (hy : δ.ev y = .pv v) (hb : b = true) (ho : okT x = true) (hoy : okT y = true) (hoz : okT z = true) (hd : okD δ.n dst = true)
    (hK : AOps q P g ops rest Q (δ.putd dst (.pv v))) : AOps q P g ops (⟨dst, .pick x y z, ty, pos, af, none⟩ :: rest) Q δ := AOps.pick_lt (hb ▸ hx) hy ho hoy hoz hd hK
theorem AOps.pickBf {x y z : Operand} {b : Bool} {v : PV} (hx : δ.ev x = litB b) (hz : δ.ev z = .pv v) (hb : b = false) (ho : okT x = true) (hoy : okT y = true) (hoz : okT z = true) (hd : okD δ.n dst = true)
    (hK : AOps q P g ops rest Q (δ.putd dst (.pv v))) : AOps q P g ops (⟨dst, .pick x y z, ty, pos, af, none⟩ :: rest) Q δ := AOps.pick_lf (hb ▸ hx) hz ho hoy hoz hd hK
variable {gd : Option (Tmp × Bool)}
/-- []T{x}, T of three cells. -/
theorem Eff.bs1a3 {t e : TypeId} {x0 : Operand} {p0 p1 p2 : PV} {z : Value} (ht : P.underlying t = some (.slice e)) (h0 : δ.ev x0 = .agg [.pv p0, .pv p1, .pv p2]) (hi : (P.info? e).map (fun i => (i.size, i.zero)) = some (3, some z)) (hz : z.cells.toList.all (·.oneCell') = true) (hzk : Nat.beq z.cells.size 3 = true)
    (k0 : AV.one (.pv p0) = true) (k1 : AV.one (.pv p1) = true) (k2 : AV.one (.pv p2) = true) (o0 : okT x0 = true) (hd : okD δ.n dst = true) : Eff P g ⟨dst, .buildSlice t 1 [(0, x0)].toArray, ty, pos, af, gd⟩ δ ((δ.addOb .row).putd dst (.own δ.nx e 3 [[p0, p1, p2]])) := by
  have hf : fillA (fun i => some (i * 3, 3)) (zerosA z (1 * 3)) (([(0, x0)] : List (Nat × Operand)).map fun p => (p.1, δ.ev p.2)) = some [.pv p0, .pv p1, .pv p2] := by
    simp [fillA, setsA, AV.cellsOf, AV.ones, zerosA, h0, k0, k1, k2] <;> rfl
  exact Eff.buildSlice (len := 1) (k := 3) (parts := [(0, x0)]) (cells := [.pv p0, .pv p1, .pv p2]) ht hi hzk rfl rfl hz (by simp [o0]) hf (by simp [AV.isPv]) hd
theorem AOps.bs1a3 {t e : TypeId} {x0 : Operand} {p0 p1 p2 : PV} {z : Value} (ht : P.underlying t = some (.slice e)) (h0 : δ.ev x0 = .agg [.pv p0, .pv p1, .pv p2]) (hi : (P.info? e).map (fun i => (i.size, i.zero)) = some (3, some z)) (hz : z.cells.toList.all (·.oneCell') = true) (hzk : Nat.beq z.cells.size 3 = true)
    (k0 : AV.one (.pv p0) = true) (k1 : AV.one (.pv p1) = true) (k2 : AV.one (.pv p2) = true) (o0 : okT x0 = true) (hd : okD δ.n dst = true) (hK : AOps .plain P g ops rest Q ((δ.addOb .row).putd dst (.own δ.nx e 3 [[p0, p1, p2]]))) :
    AOps .plain P g ops (⟨dst, .buildSlice t 1 [(0, x0)].toArray, ty, pos, af, none⟩ :: rest) Q δ := AOps.eff rfl rfl (Eff.bs1a3 ht h0 hi hz hzk k0 k1 k2 o0 hd) hK
end Go.Ab
/- The checks over a region's orders, quick for the kernel: what is listed lies as the bits of one number. -/
namespace Go.Ab
open Go Go.RowKit
variable {P : Program} {g : Ghost} {δ : DS} {k : Wt} {late : List Nat} {l : List Oper} {dn : List Nat} {QD : Exit → DS → Prop}

def maskL (n : Nat) : List Nat → Nat
  | [] => 0
  | i :: d => bif Nat.blt i n then maskL n d ||| (1 <<< i) else maskL n d
theorem maskL_spec {n : Nat} : ∀ {d : List Nat} {j : Nat}, (maskL n d).testBit j = (setL n d).getD j false
  | [], j => by
    show Nat.testBit 0 j = (Array.replicate n false).getD j false
    rw [Nat.zero_testBit]
    simp [Array.getD_eq_getD_getElem?, Array.getElem?_replicate]
    split <;> rfl
  | i :: d, j => by
    show (bif Nat.blt i n then maskL n d ||| (1 <<< i) else maskL n d).testBit j = ((setL n d).setIfInBounds i true).getD j false
    rw [getD_set]
    have hsz : (setL n d).size = n := by
      clear j
      induction d with
      | nil => simp [setL]
      | cons i d ih => simp [setL, ih]
    by_cases hi : i < n
    · have hb : Nat.blt i n = true := by simpa using hi
      rw [hb, cond_true, Nat.testBit_or, maskL_spec, Nat.one_shiftLeft, Nat.testBit_two_pow]
      by_cases hij : i = j
      · subst hij; simp [hsz, hi]
      · simp [hij]
    · have hb : Nat.blt i n = false := by
        cases h : Nat.blt i n with
        | false => rfl
        | true => exact absurd (by simpa using h) hi
      rw [hb, cond_false, maskL_spec]
      by_cases hij : i = j
      · subst hij
        rw [if_pos rfl, if_neg (by omega)]
        simp [Array.getD_eq_getD_getElem?, Array.getElem?_eq_none (by omega : (setL n d).size ≤ i)]
      · rw [if_neg hij]
def afterM (m : Nat) (o : Oper) : Bool := o.after.toList.all fun e => !Region.binds .any e || m.testBit e.on
def readyM (m : Nat) : Nat → List Oper → List Nat
  | _, [] => []
  | j, o :: r => bif !m.testBit j && afterM m o then j :: readyM m (j + 1) r else readyM m (j + 1) r
theorem readyM_filter (m : Nat) : ∀ (l : List Oper) (j : Nat), readyM m j l = ((List.range l.length).filter fun i => !m.testBit (j + i) && ((l[i]?).map (afterM m)).getD false).map (j + ·)
  | [], _ => rfl
  | o :: r, j => by
    rw [List.length_cons, List.range_succ_eq_map, List.filter_cons, readyM, readyM_filter m r (j + 1)]
    simp only [Nat.add_zero, List.getElem?_cons_zero, Option.map_some, Option.getD_some, List.filter_map]
    have e : (List.map (fun x => j + x) (List.map Nat.succ (List.filter ((fun i => !m.testBit (j + i) && (Option.map (afterM m) (o :: r)[i]?).getD false) ∘ Nat.succ) (List.range r.length)))) = List.map (fun x => j + 1 + x) (List.filter (fun i => !m.testBit (j + 1 + i) && (Option.map (afterM m) r[i]?).getD false) (List.range r.length)) := by
      rw [List.map_map]
      have e2 : ((fun i => !m.testBit (j + i) && (Option.map (afterM m) (o :: r)[i]?).getD false) ∘ Nat.succ) = (fun i => !m.testBit (j + 1 + i) && (Option.map (afterM m) r[i]?).getD false) := by
        funext i
        simp only [Function.comp, Nat.succ_eq_add_one, List.getElem?_cons_succ]
        rw [show j + (i + 1) = j + 1 + i by omega]
      rw [e2]
      apply List.map_congr_left
      intro i _
      simp only [Function.comp, Nat.succ_eq_add_one]
      omega
    cases (!m.testBit j && afterM m o) with
    | true => simp only [cond_true, if_true, List.map_cons, Nat.add_zero]; rw [e]
    | false => simp only [cond_false, Bool.false_eq_true, if_false]; rw [e]
theorem readyM_eq : Region.ready .any l.toArray (setL l.length dn) = readyM (maskL l.length dn) 0 l := by
  rw [readyM_filter]
  unfold Region.ready
  simp only [Nat.zero_add, List.size_toArray]
  rw [show (fun x : Nat => x) = id from rfl, List.map_id]
  apply List.filter_congr
  intro i hi
  have hil : i < l.length := List.mem_range.1 hi
  have e1 : (setL l.length dn).getD i true = (maskL l.length dn).testBit i := by
    rw [maskL_spec]
    have hsz : (setL l.length dn).size = l.length := by
      clear hi hil
      generalize l.length = n
      induction dn with
      | nil => simp [setL]
      | cons i d ih => simp [setL, ih]
    rw [Array.getD_eq_getD_getElem?, Array.getD_eq_getD_getElem?, Array.getElem?_eq_getElem (by omega)]; rfl
  rw [e1]
  congr 1
  rw [List.getElem?_toArray]
  congr 2
  funext o
  unfold afterM
  rw [← Array.all_toList]
  congr 1
  funext e
  rw [maskL_spec]
theorem readyIs_M {rs : List Nat} (h : (readyM (maskL l.length dn) 0 l == rs) = true) : readyIs l dn rs = true := by
  unfold readyIs; rw [readyM_eq]; exact h
def lateM (late : List Nat) (m : Nat) : Bool := late.any m.testBit
theorem lateM_eq : lateIn late (setL l.length dn) = lateM late (maskL l.length dn) := by
  unfold lateIn lateM
  congr 1
  funext j
  rw [maskL_spec]
def freeJ (ops : Array Oper) (m i : Nat) (oi : Oper) : Nat → List Oper → Bool
  | _, [] => true
  | j, o :: r => (Nat.beq j i || m.testBit j || o.after.toList.any (fun e => Region.binds .any e && Nat.beq e.on i) || oi.apart ops o) && freeJ ops m i oi (j + 1) r
theorem freeJ_spec {ops : Array Oper} {m i : Nat} {oi : Oper} : ∀ {l : List Oper} {j : Nat}, freeJ ops m i oi j l = true → ∀ (x : Nat) (o : Oper), l[x]? = some o → (j + x == i || m.testBit (j + x) || (o.after.any (fun e => Region.binds .any e && e.on == i) || oi.apart ops o)) = true
  | [], _, _, x, o, h => by simp at h
  | o' :: r, j, h, x, o, hx => by
    unfold freeJ at h
    rw [Bool.and_eq_true] at h
    cases x with
    | zero =>
      simp only [List.getElem?_cons_zero, Option.some.injEq] at hx
      subst hx
      have h1 := h.1
      simp only [Nat.add_zero]
      rw [← Array.any_toList]
      simpa [Bool.or_assoc] using h1
    | succ x =>
      rw [List.getElem?_cons_succ] at hx
      have := freeJ_spec h.2 x o hx
      rwa [show j + 1 + x = j + (x + 1) by omega] at this
def freeM (l : List Oper) (late : List Nat) (m : Nat) (i : Nat) : Bool :=
  (readyM m 0 l).contains i && (match l[i]? with | some oi => freeJ l.toArray m i oi 0 l | none => false) && !late.contains i
def firstM (l : List Oper) (late : List Nat) : List Nat → List Nat → Bool
  | [], _ => true
  | i :: r, dn => freeM l late (maskL l.length dn) i && late.all (fun j => directB l.toArray i j || waitsB l.toArray i l.length j) && firstM l late r (i :: dn)
def fineL (l : List Oper) : Bool := Region.noSelect l.toArray && l.all noDefer
theorem freeM_free {i : Nat} (hf : fineL l = true) (hl : Nat.blt dn.length l.length = true) (h : freeM l late (maskL l.length dn) i = true) : freeB l late dn i = true := by
  unfold fineL at hf
  unfold freeM at h
  unfold freeB
  simp only [Bool.and_eq_true] at hf h ⊢
  refine ⟨⟨⟨⟨hf, by rw [readyM_eq]; exact h.1.1⟩, ?_⟩, h.2⟩, hl⟩
  have h2 := h.1.2
  unfold Region.free
  rw [List.getElem?_toArray]
  cases ho : l[i]? with
  | none => rw [ho] at h2; cases h2
  | some oi =>
    rw [ho] at h2
    simp only at h2 ⊢
    rw [List.all_eq_true]
    intro j hj
    have hj' : j < l.length := by simpa using hj
    have h3 := freeJ_spec h2 j _ (List.getElem?_eq_getElem hj')
    rw [Nat.zero_add, maskL_spec] at h3
    have hsz : (setL l.length dn).size = l.length := by
      clear hf h h2 h3 hl
      generalize l.length = n
      induction dn with
      | nil => simp [setL]
      | cons i d ih => simp [setL, ih]
    have e1 : (setL l.length dn).getD j true = (setL l.length dn).getD j false := by
      rw [Array.getD_eq_getD_getElem?, Array.getD_eq_getD_getElem?, Array.getElem?_eq_getElem (by omega)]; rfl
    rw [e1, List.getElem?_toArray, List.getElem?_eq_getElem hj']
    exact h3
theorem firstM_first (hf : fineL l = true) : ∀ (l2 dn : List Nat), Nat.ble (l2.length + dn.length) l.length = true → firstM l late l2 dn = true → firstD l late l2 dn = true
  | [], _, _, _ => rfl
  | i :: r, dn, hle, h => by
    unfold firstM at h
    unfold firstD
    simp only [Bool.and_eq_true] at h ⊢
    have hle' : (i :: r).length + dn.length ≤ l.length := by simpa using hle
    simp only [List.length_cons] at hle'
    exact ⟨⟨freeM_free hf (by simp; omega) h.1.1, h.1.2⟩, firstM_first hf r _ (by simp; omega) h.2⟩

theorem AR.readsM (l2 : List Nat) (hf : fineL l = true) (hB : firstM l late l2 dn = true) (hL : lateM late (maskL l.length dn) = false) (hle : Nat.ble (l2.length + dn.length) l.length = true)
    (h : ∀ g' : Ghost, g'.ro = g.ro → AOps .held P g' l.toArray (pick l l2) (onlyN fun δ' => ∀ k' : Wt, k'.2.2 = δ.nx → AR P g k' late l QD (l2.reverse ++ dn) δ') δ) : AR P g k late l QD dn δ :=
  AR.reads l2 (firstM_first hf _ _ hle hB) (by rw [lateM_eq]; exact hL) hle h
theorem AR.doneM (hwt : g.wt = none) (hr : (readyM (maskL l.length dn) 0 l == []) = true) (h : QD .normal δ) : AR P g k late l QD dn δ := AR.done hwt (readyIs_M hr) h
theorem AR.step1M {i : Nat} {o : Oper} (hl : Nat.blt dn.length l.length = true) (hr : (readyM (maskL l.length dn) 0 l == [i]) = true) (ho : l[i]? = some o)
    (h : ∀ g' : Ghost, g'.ro = g.ro → (∀ j, k.2.2 ≤ j → g'.wtOk j) → AOps .plain P g' l.toArray [o] (onlyN (AR P g k late l QD (i :: dn))) δ) : AR P g k late l QD dn δ := AR.step1 hl (readyIs_M hr) ho h
theorem AR.step1LM {i : Nat} {o : Oper} (hl : Nat.blt dn.length l.length = true) (hr : (readyM (maskL l.length dn) 0 l == [i]) = true) (ho : l[i]? = some o) (hlt : lateM late (maskL l.length (i :: dn)) = true)
    (h : ∀ g' : Ghost, g'.ro = g.ro → g'.wt = none → AOps .plain P g' l.toArray [o] (onlyN (AR P g k late l QD (i :: dn))) δ) : AR P g k late l QD dn δ := AR.step1L hl (readyIs_M hr) ho (by rw [lateM_eq]; exact hlt) h
theorem AR.step2M {i j : Nat} {o p : Oper} (hl : Nat.blt dn.length l.length = true) (hr : (readyM (maskL l.length dn) 0 l == [i, j]) = true) (ho : l[i]? = some o) (hp : l[j]? = some p)
    (h : ∀ g' : Ghost, g'.ro = g.ro → (∀ j, k.2.2 ≤ j → g'.wtOk j) → AOps .plain P g' l.toArray [o] (onlyN (AR P g k late l QD (i :: dn))) δ)
    (h' : ∀ g' : Ghost, g'.ro = g.ro → (∀ j, k.2.2 ≤ j → g'.wtOk j) → AOps .plain P g' l.toArray [p] (onlyN (AR P g k late l QD (j :: dn))) δ) : AR P g k late l QD dn δ := AR.step2 hl (readyIs_M hr) ho hp h h'
theorem AW.regionM {id : Nat} (l1 : List Nat) (late : List Nat) {l : List Oper} (hm : P.follows .mixedOrders = true) (hwt : g.wt = none) (hf : fineL l = true) (hB : firstM l late l1 [] = true) (hle : Nat.ble l1.length l.length = true)
    (h : AOps .held P g l.toArray (pick l l1) (onlyN fun δ' => ∀ k : Wt, k.2.2 = δ.nx → AR P g k late l QD l1.reverse δ') δ) : AW P g (.region id l.toArray true) QD δ :=
  AW.regionE l1 late hm hwt (firstD_first _ _ (firstM_first hf _ _ (by simpa using hle) hB)) hle h
end Go.Ab
/- A loop's state told by what stays of the state before it and what changes. -/
namespace Go.Ab
open Go Go.RowKit
variable {P : Program} {g : Ghost} {δ : DS}
def selE (e : List (Nat × AV)) : List Nat → List (Nat × AV)
  | [] => []
  | k :: ks => (k, look e k) :: selE e ks
def selO (o : List (Nat × Option Ob)) : List Nat → List (Nat × Option Ob)
  | [] => []
  | k :: ks => (k, lookOb o k) :: selO o ks
namespace Nf
def ao : List (Nat × Option Ob) → List (Nat × Option Ob) → List (Nat × Option Ob)
  | [], m => m
  | v :: r, m => v :: ao r m
theorem ao0 (m : List (Nat × Option Ob)) : ao [] m = m := rfl
theorem ao1 (v : Nat × Option Ob) (r m : List (Nat × Option Ob)) : ao (v :: r) m = v :: ao r m := rfl
theorem se0 (e : List (Nat × AV)) : selE e [] = [] := rfl
theorem se1 (e : List (Nat × AV)) (k : Nat) (ks : List Nat) : selE e (k :: ks) = (k, look e k) :: selE e ks := rfl
theorem so0 (e : List (Nat × Option Ob)) : selO e [] = [] := rfl
theorem so1 (e : List (Nat × Option Ob)) (k : Nat) (ks : List Nat) : selO e (k :: ks) = (k, lookOb e k) :: selO e ks := rfl
set_option linter.defProp false in
def lpR := And.intro @ao0 (And.intro @ao1 (And.intro @se0 (And.intro @se1 (And.intro @so0 @so1))))
end Nf
theorem AW.loopR {S : Type} {c : Code} {Q : Exit → DS → Prop} (ks os : List Nat) (u : S → List (Nat × AV)) (ou : S → List (Nat × Option Ob)) (I : S → Prop) (μ : S → Nat) (s0 : S) {D : S → DS}
    (hD : (fun s => (⟨δ.n, Nf.ae (u s) (selE δ.env ks), Nf.ao (ou s) (selO δ.objs os), δ.nx⟩ : DS)) = D) (hs : I s0) (hw : Weak g δ (D s0))
    (round : ∀ s, I s → AW P g c (thenD (fun δ' => ∃ s', I s' ∧ μ s' < μ s ∧ Weak g δ' (D s')) Q) (D s)) : AW P g (.loop c) Q δ := AW.loop D I μ s0 hs hw round
theorem wf_u32 {n : Int} (h : (Lit.int .u32 n).wf = true) : 0 ≤ n ∧ n < 4294967296 := by
  simp only [Lit.wf, Bool.and_eq_true, decide_eq_true_eq] at h
  have h2 : 0 ≤ n ∧ n ≤ 4294967295 := by simpa [IntKind.min, IntKind.max, IntKind.signed, IntKind.bits] using h
  omega
end Go.Ab
/- Quotient and remainder of numbers that are not below zero. -/
namespace Go.Ab
open Go Go.RowKit
variable {q : Md} {P : Program} {g : Ghost} {δ : DS} {ops : Array Oper} {rest : List Oper} {Q : Exit → DS → Prop} {dst : Option Nat} {ty : TypeId} {pos : String} {af : Array Edge} {x y : Operand} {m n : Int} {t t' : TypeId}
theorem AOps.remE (hx : δ.ev x = litI m) (hy : δ.ev y = litI n) (ho : okT x = true) (ho' : okT y = true) (hd : okD δ.n dst = true) (h0 : 0 ≤ m ∧ 0 < n) (hK : AOps q P g ops rest Q (δ.putd dst (litI (m % n)))) : AOps q P g ops (⟨dst, .binOp .rem t x y t', ty, pos, af, none⟩ :: rest) Q δ :=
  AOps.rem hx hy ho ho' hd (by omega) (by rw [Int.tmod_eq_emod_of_nonneg h0.1]; exact hK)
theorem AOps.quoE (hx : δ.ev x = litI m) (hy : δ.ev y = litI n) (ho : okT x = true) (ho' : okT y = true) (hd : okD δ.n dst = true) (h0 : 0 ≤ m ∧ m ≤ 9223372036854775807 ∧ 0 < n) (hK : AOps q P g ops rest Q (δ.putd dst (litI (m / n)))) : AOps q P g ops (⟨dst, .binOp .quo t x y t', ty, pos, af, none⟩ :: rest) Q δ :=
  AOps.quo hx hy ho ho' hd (by omega) (by
    have h1 : m.tdiv n = m / n := Int.tdiv_eq_ediv_of_nonneg h0.1
    have h2 : 0 ≤ m / n := Int.ediv_nonneg h0.1 (by omega)
    have h3 : m / n ≤ m := Int.ediv_le_self _ h0.1
    rw [h1, IntWalk.i64_in _ (by omega)]
    exact hK)
end Go.Ab
/- Two objects' names exchanged; the orders of a drawn region brought together again. -/
namespace Go.Ab
open Go Go.RowKit
variable {P : Program} {g : Ghost} {δ : DS} {κ : Nat → Option Nat} {a : Act} {w : World}
/-- i and j exchanged. -/
def swN (i j x : Nat) : Nat := bif Nat.beq i x then j else bif Nat.beq j x then i else x
theorem swN_if (i j x : Nat) : swN i j x = if i = x then j else if j = x then i else x := by
  unfold swN
  by_cases h1 : i = x
  · subst h1; simp
  · rw [beq_ne h1, if_neg h1]
    by_cases h2 : j = x
    · subst h2; simp
    · rw [beq_ne h2, if_neg h2]; rfl
theorem swN_sw (i j x : Nat) : swN i j (swN i j x) = x := by
  simp only [swN_if]
  split <;> split <;> (try split) <;> omega
mutual
def AV.sw (i j : Nat) : AV → AV
  | .any => .any
  | .pv p => .pv p
  | .own x e k els => .own (swN i j x) e k els
  | .ptr x o => .ptr (swN i j x) o
  | .rptr c => .rptr c
  | .optr x e k els n => .optr (swN i j x) e k els n
  | .agg cs => .agg (AV.swL i j cs)
  | .tup cs => .tup (AV.swL i j cs)
  | .clo fn cs ds => .clo fn (AV.swL i j cs) (AV.swL i j ds)
  | .mapr x => .mapr (swN i j x)
  | .yld x => .yld (swN i j x)
def AV.swL (i j : Nat) : List AV → List AV
  | [] => []
  | c :: cs => AV.sw i j c :: AV.swL i j cs
end
theorem AV.swL_eq (i j : Nat) : ∀ l, AV.swL i j l = l.map (AV.sw i j)
  | [] => rfl
  | c :: cs => by simp [AV.swL, AV.swL_eq i j cs]
def Ob.sw (i j : Nat) : Ob → Ob
  | .row => .row
  | .box cs => .box (AV.swL i j cs)
  | .mp l => .mp (l.map fun p => (p.1, p.2.sw i j))
  | .it l seen => .it l seen
  | .loop l tm ps asg body st => .loop l tm ps asg body st
theorem Ob.sw_row (i j : Nat) (o : Ob) : (o.sw i j).isRow = o.isRow := by cases o <;> rfl
def swE (i j : Nat) : List (Nat × AV) → List (Nat × AV)
  | [] => []
  | (x, v) :: r => (x, v.sw i j) :: swE i j r
def swO (i j : Nat) : List (Nat × Option Ob) → List (Nat × Option Ob)
  | [] => []
  | (x, none) :: r => (swN i j x, none) :: swO i j r
  | (x, some o) :: r => (swN i j x, some (o.sw i j)) :: swO i j r
def DS.sw (δ : DS) (i j : Nat) : DS := ⟨δ.n, swE i j δ.env, swO i j δ.objs, δ.nx⟩
theorem look_sw (i j : Nat) (k : Nat) : ∀ e, look (swE i j e) k = (look e k).sw i j
  | [] => rfl
  | (x, v) :: r => by
    unfold swE
    simp only [look_cons, look_sw i j k r]
    split <;> rfl
theorem lookOb_sw (i j : Nat) (k : Nat) : ∀ e, lookOb (swO i j e) (swN i j k) = (lookOb e k).map (Ob.sw i j)
  | [] => rfl
  | (x, o) :: r => by
    have hx : (swN i j x = swN i j k) = (x = k) := by
      apply propext
      constructor
      · intro h; rw [← swN_sw i j x, h, swN_sw]
      · intro h; rw [h]
    cases o with
    | none =>
      unfold swO
      simp only [lookOb_cons, lookOb_sw i j k r, hx]
      split <;> rfl
    | some o =>
      unfold swO
      simp only [lookOb_cons, lookOb_sw i j k r, hx]
      split <;> rfl
theorem ob_sw (i j k : Nat) : (δ.sw i j).ob k = (δ.ob (swN i j k)).map (Ob.sw i j) := by
  have := lookOb_sw i j (swN i j k) δ.objs
  rw [swN_sw] at this
  exact this
theorem live_sw (i j k : Nat) : (δ.sw i j).live k ↔ δ.live (swN i j k) := by
  unfold DS.live
  rw [ob_sw]
  cases δ.ob (swN i j k) <;> simp
theorem lr_sw (i j k : Nat) : (δ.sw i j).lr k ↔ δ.lr (swN i j k) := by
  unfold DS.lr
  rw [ob_sw]
  cases h : δ.ob (swN i j k) with
  | none => simp
  | some o => cases o <;> simp [Ob.sw]
theorem lb_sw (i j k : Nat) : (δ.sw i j).lb k ↔ δ.lb (swN i j k) := by
  unfold DS.lb
  rw [ob_sw]
  cases h : δ.ob (swN i j k) with
  | none => simp
  | some o => simp [Ob.sw_row]
def swK (i j : Nat) (κ : Nat → Option Nat) : Nat → Option Nat := fun x => κ (swN i j x)
theorem N_sw (i j b : Nat) : ((δ.sw i j).cx g (swK i j κ)).N b ↔ (δ.cx g κ).N b := by
  show (g.N0 b ∧ _) ↔ (g.N0 b ∧ _)
  constructor
  · rintro ⟨h1, h2⟩
    refine ⟨h1, fun x hx => ?_⟩
    have := h2 (swN i j x) ((live_sw i j _).2 (by rw [swN_sw]; exact hx))
    unfold swK at this
    rwa [swN_sw] at this
  · rintro ⟨h1, h2⟩
    exact ⟨h1, fun x hx => h2 _ ((live_sw i j _).1 hx)⟩
theorem rp_sw (i j : Nat) {v : Value} {p : PV} (h : RP (δ.cx g κ).N w v p) : RP ((δ.sw i j).cx g (swK i j κ)).N w v p :=
  h.mono (Nat.le_refl _) fun b _ hb => ⟨(N_sw i j b).2 hb, rfl⟩
theorem own_sw (i j : Nat) {v : Value} {x : Nat} {e : TypeId} {k : Nat} {els : List (List PV)} (h : OwnV (δ.cx g κ) w v x e k els) : OwnV ((δ.sw i j).cx g (swK i j κ)) w v (swN i j x) e k els := by
  obtain ⟨hl, hlim, hk, hb, xs, ho, h1, hx⟩ := h
  refine ⟨(lr_sw i j _).2 (by rw [swN_sw]; exact hl), hlim, hk, fun b hv => ?_, xs, ho, h1, fun i' j' p hp => let ⟨u, h1, h2⟩ := hx i' j' p hp; ⟨u, h1, rp_sw i j h2⟩⟩
  show κ (swN i j (swN i j x)) = some b
  rw [swN_sw]; exact hb b hv
theorem ra_sw (i j : Nat) {v : Value} {av : AV} (h : RA (δ.cx g κ) w v av) : RA ((δ.sw i j).cx g (swK i j κ)) w v (av.sw i j) := by
  induction h with
  | any v => exact .any v
  | pv h => exact .pv (rp_sw i j h)
  | own h => exact .own (own_sw i j h)
  | ptr hl hκ => exact .ptr ((lb_sw i j _).2 (by rw [swN_sw]; exact hl)) (by show κ (swN i j (swN i j _)) = _; rw [swN_sw]; exact hκ)
  | rptr b off vs hN hb hc hr => exact .rptr b off vs ((N_sw i j b).2 hN) hb hc fun k p hp => rp_sw i j (hr k p hp)
  | optr hi h => exact .optr hi (own_sw i j h)
  | agg hs h ih =>
    show RA _ _ _ (.agg (AV.swL i j _))
    rw [AV.swL_eq]
    refine .agg (by simp [hs]) fun k u c hu hc => ?_
    rw [List.getElem?_map] at hc
    obtain ⟨c', hc', rfl⟩ := Option.map_eq_some_iff.1 hc
    exact ih k u c' hu hc'
  | tup hs h ih =>
    show RA _ _ _ (.tup (AV.swL i j _))
    rw [AV.swL_eq]
    refine .tup (by simp [hs]) fun k u c hu hc => ?_
    rw [List.getElem?_map] at hc
    obtain ⟨c', hc', rfl⟩ := Option.map_eq_some_iff.1 hc
    exact ih k u c' hu hc'
  | clo hs h ht h' ih ih' =>
    show RA _ _ _ (.clo _ (AV.swL i j _) (AV.swL i j _))
    rw [AV.swL_eq, AV.swL_eq]
    refine .clo (by simp [hs]) (fun k u c hu hc => ?_) (by simp [ht]) (fun k u c hu hc => ?_)
    · rw [List.getElem?_map] at hc
      obtain ⟨c', hc', rfl⟩ := Option.map_eq_some_iff.1 hc
      exact ih k u c' hu hc'
    · rw [List.getElem?_map] at hc
      obtain ⟨c', hc', rfl⟩ := Option.map_eq_some_iff.1 hc
      exact ih' k u c' hu hc'
  | mapr hl hκ => exact .mapr ((lb_sw i j _).2 (by rw [swN_sw]; exact hl)) (by show κ (swN i j (swN i j _)) = _; rw [swN_sw]; exact hκ)
  | yld hl hκ => exact .yld ((lb_sw i j _).2 (by rw [swN_sw]; exact hl)) (by show κ (swN i j (swN i j _)) = _; rw [swN_sw]; exact hκ)
theorem noOwn_sw (i j : Nat) (v : AV) : (v.sw i j).noOwn = v.noOwn := by cases v <;> rfl
theorem ObIs.sw (i j : Nat) {x : Nat} {o : Ob} (h : ObIs (δ.cx g κ) w x o) : ObIs ((δ.sw i j).cx g (swK i j κ)) w (swN i j x) (o.sw i j) := by
  have hκ : ∀ y, ((δ.sw i j).cx g (swK i j κ)).κ (swN i j y) = κ y := fun y => by show κ (swN i j (swN i j y)) = _; rw [swN_sw]
  cases o with
  | row =>
    intro b hb
    rw [hκ] at hb
    exact h b hb
  | box cs =>
    obtain ⟨b, c, e, h1, h2, h3, h4⟩ := h
    show ObIs _ _ _ (.box (AV.swL i j cs))
    rw [AV.swL_eq]
    refine ⟨b, c, e, (hκ x).trans h1, h2, by simp [h3], fun k u av h5 h6 => ?_⟩
    rw [List.getElem?_map] at h6
    obtain ⟨c', hc', rfl⟩ := Option.map_eq_some_iff.1 h6
    exact ⟨ra_sw i j (h4 k u c' h5 hc').1, (h4 k u c' h5 hc').2⟩
  | mp l =>
    obtain ⟨b, es, clock, h1, h2, h3, h4, h5⟩ := h
    refine ⟨b, es, clock, (hκ x).trans h1, h2, ⟨by simp [h3.1], fun k e p h6 h7 => ?_⟩, h4, fun p hp => ?_⟩
    · rw [List.getElem?_map] at h7
      obtain ⟨p', hp', rfl⟩ := Option.map_eq_some_iff.1 h7
      exact ⟨(h3.2 k e p' h6 hp').1, ra_sw i j (h3.2 k e p' h6 hp').2⟩
    · obtain ⟨p', hp', rfl⟩ := List.mem_map.1 hp
      show (p'.2.sw i j).noOwn = true
      rw [noOwn_sw]; exact h5 p' hp'
  | it l seen =>
    obtain ⟨b, h1, h2⟩ := h
    exact ⟨b, (hκ x).trans h1, h2.mono (Nat.le_refl _) (fun b _ hb => ⟨(N_sw i j b).2 hb, rfl⟩) rfl⟩
  | loop l tm ps asg body st =>
    obtain ⟨b, r, h1, h2⟩ := h
    exact ⟨b, r, (hκ x).trans h1, h2⟩
/-- two names exchanged. -/
theorem Rel.sw (i j : Nat) (hi : i < δ.nx) (hj : j < δ.nx) (hw : ∀ k, g.wt = some k → k.2.2 ≤ i ∧ k.2.2 ≤ j) (r : Rel g δ κ a w) : Rel g (δ.sw i j) (swK i j κ) a w where
  n := r.n
  dfr := r.dfr
  env := fun k => by
    have e : (δ.sw i j).get k = (δ.get k).sw i j := look_sw i j k δ.env
    rw [e]; exact ra_sw i j (r.env k)
  obj := fun x o h => by
    rw [ob_sw] at h
    obtain ⟨o', ho', rfl⟩ := Option.map_eq_some_iff.1 h
    have := (r.obj _ o' ho').sw i j
    rwa [swN_sw] at this
  inj := fun x y b hx hy h1 h2 => by
    have := r.inj _ _ b ((live_sw i j x).1 hx) ((live_sw i j y).1 hy) h1 h2
    rw [← swN_sw i j x, this, swN_sw]
  lo := fun x b hx h1 => r.lo _ b ((live_sw i j x).1 hx) h1
  nx := fun x hx => by
    have := r.nx _ ((live_sw i j x).1 hx)
    show x < δ.nx
    rw [swN_if] at this
    split at this
    · omega
    · split at this <;> omega
  wt := fun k hk => by
    obtain ⟨h1, h2⟩ := hw k hk
    refine ⟨(r.wt k hk).1, fun x b hx hor hκ => (r.wt k hk).2 (swN i j x) b ((live_sw i j x).1 hx) ?_ hκ⟩
    rcases hor with hor | hor
    · exact .inl ((lr_sw i j x).1 hor)
    · right
      rw [swN_if]
      split
      · exact h2
      · split
        · exact h1
        · exact hor
  below := r.below
  hB := r.hB
  N0 := r.N0
namespace Nf
variable {n x : Nat} {e : List (Nat × AV)} {o : List (Nat × Option Ob)} {i j k : Nat}
theorem sw : DS.sw ⟨n, e, o, x⟩ i j = ⟨n, swE i j e, swO i j o, x⟩ := rfl
theorem swE0 : swE i j [] = [] := rfl
theorem swE1 (v : AV) (r : List (Nat × AV)) : swE i j ((k, v) :: r) = (k, v.sw i j) :: swE i j r := rfl
theorem swO0 : swO i j [] = [] := rfl
theorem swOn (r : List (Nat × Option Ob)) : swO i j ((k, none) :: r) = (swN i j k, none) :: swO i j r := rfl
theorem swOr (r : List (Nat × Option Ob)) : swO i j ((k, some .row) :: r) = (swN i j k, some .row) :: swO i j r := rfl
theorem swOb (cs : List AV) (r : List (Nat × Option Ob)) : swO i j ((k, some (.box cs)) :: r) = (swN i j k, some (.box (AV.swL i j cs))) :: swO i j r := rfl
theorem swOi (l : List (Value × PV)) (s : List Nat) (r : List (Nat × Option Ob)) : swO i j ((k, some (.it l s)) :: r) = (swN i j k, some (.it l s)) :: swO i j r := rfl
theorem swOl (l tm ps asg body st) (r : List (Nat × Option Ob)) : swO i j ((k, some (.loop l tm ps asg body st)) :: r) = (swN i j k, some (.loop l tm ps asg body st)) :: swO i j r := rfl
theorem swL0 : AV.swL i j [] = [] := rfl
theorem swL1 (v : AV) (r : List AV) : AV.swL i j (v :: r) = v.sw i j :: AV.swL i j r := rfl
theorem swA0 : AV.sw i j .any = .any := rfl
theorem swA1 (p : PV) : AV.sw i j (.pv p) = .pv p := rfl
theorem swA2 (e m els) : AV.sw i j (.own k e m els) = .own (swN i j k) e m els := rfl
theorem swA3 (m : Nat) : AV.sw i j (.ptr k m) = .ptr (swN i j k) m := rfl
theorem swA4 (c : List PV) : AV.sw i j (.rptr c) = .rptr c := rfl
theorem swA5 (e m els m') : AV.sw i j (.optr k e m els m') = .optr (swN i j k) e m els m' := rfl
theorem swA6 (c : List AV) : AV.sw i j (.agg c) = .agg (AV.swL i j c) := rfl
theorem swA7 (c : List AV) : AV.sw i j (.tup c) = .tup (AV.swL i j c) := rfl
theorem swA8 (f) (c d : List AV) : AV.sw i j (.clo f c d) = .clo f (AV.swL i j c) (AV.swL i j d) := rfl
theorem swA9 : AV.sw i j (.mapr k) = .mapr (swN i j k) := rfl
theorem swAa : AV.sw i j (.yld k) = .yld (swN i j k) := rfl
theorem swNd : swN i j k = bif Nat.beq i k then j else bif Nat.beq j k then i else k := rfl
set_option linter.defProp false in
def swR := And.intro @sw (And.intro @swE0 (And.intro @swE1 (And.intro @swO0 (And.intro @swOn (And.intro @swOr (And.intro @swOb (And.intro @swOi (And.intro @swOl (And.intro @swL0 (And.intro @swL1 (And.intro @swA0 (And.intro @swA1 (And.intro @swA2 (And.intro @swA3 (And.intro @swA4 (And.intro @swA5 (And.intro @swA6 (And.intro @swA7 (And.intro @swA8 (And.intro @swA9 (And.intro @swAa @swNd)))))))))))))))))))))
end Nf
variable {k : Wt} {late : List Nat} {l : List Oper} {dn : List Nat} {QD : Exit → DS → Prop}
theorem AR.weakG {δ' : DS} (hw : ∀ g' : Ghost, (∀ k', g'.wt = some k' → k' = k) → Weak g' δ δ') (h : AR P g k late l QD dn δ') : AR P g k late l QD dn δ := by
  intro hdc κ a w r
  obtain ⟨κ', r'⟩ := hw _ (fun k' hk' => by
    have : (if lateIn late (setL l.length dn) = true then none else some k) = some k' := hk'
    split at this
    · cases this
    · cases this; rfl) κ a w r
  exact h hdc κ' a w r'
theorem AR.sw (i j : Nat) {m : Nat} (hk : k.2.2 = m) (hi : (Nat.ble m i && Nat.blt i δ.nx) = true) (hj : (Nat.ble m j && Nat.blt j δ.nx) = true) (h : AR P g k late l QD dn (δ.sw i j)) : AR P g k late l QD dn δ := by
  simp only [Bool.and_eq_true, Nat.ble_eq, Nat.blt_eq] at hi hj
  exact AR.weakG (fun g' hg κ a w r => ⟨_, r.sw i j hi.2 hj.2 fun k' hk' => by rw [hg k' hk', hk]; exact ⟨hi.1, hj.1⟩⟩) h
theorem setL_size (n : Nat) (d : List Nat) : (setL n d).size = n := by
  induction d with
  | nil => simp [setL]
  | cons i d ih => simp [setL, ih]
theorem setL_mask {n : Nat} {d d' : List Nat} (h : maskL n d = maskL n d') : setL n d = setL n d' := by
  apply Array.ext
  · rw [setL_size, setL_size]
  · intro i h1 h2
    have e1 := maskL_spec (n := n) (d := d) (j := i)
    have e2 := maskL_spec (n := n) (d := d') (j := i)
    rw [h] at e1
    rw [e1] at e2
    rw [Array.getD_eq_getD_getElem?, Array.getD_eq_getD_getElem?, Array.getElem?_eq_getElem h1, Array.getElem?_eq_getElem h2] at e2
    exact e2
theorem AR.perm {J : List Nat} (hm : (maskL l.length dn == maskL l.length J && Nat.beq dn.length J.length) = true) (h : AR P g k late l QD J δ) : AR P g k late l QD dn δ := by
  simp only [Bool.and_eq_true, beq_iff_eq] at hm
  have hm : maskL l.length dn = maskL l.length J ∧ dn.length = J.length := ⟨hm.1, Nat.eq_of_beq_eq_true hm.2⟩
  have e := setL_mask hm.1
  intro hdc κ a w r
  rw [hm.2]
  have h1 := h (by rw [← e]; exact hdc) κ a w (by rw [← e]; exact r)
  rw [e]; exact h1
/-- all orders up to J come together. -/
theorem AR.cut (J : List Nat) {δc : DS} (h1 : AR P g k late l QD J δc → AR P g k late l QD dn δ) (h2 : AR P g k late l QD J δc) : AR P g k late l QD dn δ := h1 h2
theorem AR.meet {J : List Nat} {δc : DS} (hJ : AR P g k late l QD J δc) (hm : (maskL l.length dn == maskL l.length J && Nat.beq dn.length J.length) = true) (hw : ∀ g' : Ghost, Weak g' δ δc) : AR P g k late l QD dn δ :=
  AR.weakG (fun g' _ => hw g') (AR.perm hm hJ)
/-- three that may come up. -/
theorem AR.step3M {i j m : Nat} {o p q : Oper} (hl : Nat.blt dn.length l.length = true) (hr : (readyM (maskL l.length dn) 0 l == [i, j, m]) = true) (ho : l[i]? = some o) (hp : l[j]? = some p) (hq : l[m]? = some q)
    (h : ∀ g' : Ghost, g'.ro = g.ro → (∀ j, k.2.2 ≤ j → g'.wtOk j) → AOps .plain P g' l.toArray [o] (onlyN (AR P g k late l QD (i :: dn))) δ)
    (h' : ∀ g' : Ghost, g'.ro = g.ro → (∀ j, k.2.2 ≤ j → g'.wtOk j) → AOps .plain P g' l.toArray [p] (onlyN (AR P g k late l QD (j :: dn))) δ)
    (h'' : ∀ g' : Ghost, g'.ro = g.ro → (∀ j, k.2.2 ≤ j → g'.wtOk j) → AOps .plain P g' l.toArray [q] (onlyN (AR P g k late l QD (m :: dn))) δ) : AR P g k late l QD dn δ :=
  AR.all hl (readyIs_M hr) (by simp) fun i' hi' => by
    have hw : ∀ i', ∀ j, k.2.2 ≤ j → (gOf g k late (setL l.length (i' :: dn))).wtOk j := by
      intro i' j hj k' hk'
      have : (if lateIn late (setL l.length (i' :: dn)) = true then none else some k) = some k' := hk'
      split at this
      · cases this
      · cases this; exact hj
    simp only [List.mem_cons, List.not_mem_nil, or_false] at hi'
    rcases hi' with rfl | rfl | rfl
    · exact ⟨o, ho, h _ rfl (hw _)⟩
    · exact ⟨p, hp, h' _ rfl (hw _)⟩
    · exact ⟨q, hq, h'' _ rfl (hw _)⟩
theorem AR.step3L {i j m : Nat} {o p q : Oper} (hl : Nat.blt dn.length l.length = true) (hr : (readyM (maskL l.length dn) 0 l == [i, j, m]) = true) (ho : l[i]? = some o) (hp : l[j]? = some p) (hq : l[m]? = some q) (hlt : lateM late (maskL l.length dn) = true)
    (h : ∀ g' : Ghost, g'.ro = g.ro → g'.wt = none → AOps .plain P g' l.toArray [o] (onlyN (AR P g k late l QD (i :: dn))) δ)
    (h' : ∀ g' : Ghost, g'.ro = g.ro → g'.wt = none → AOps .plain P g' l.toArray [p] (onlyN (AR P g k late l QD (j :: dn))) δ)
    (h'' : ∀ g' : Ghost, g'.ro = g.ro → g'.wt = none → AOps .plain P g' l.toArray [q] (onlyN (AR P g k late l QD (m :: dn))) δ) : AR P g k late l QD dn δ :=
  AR.all hl (readyIs_M hr) (by simp) fun i' hi' => by
    have hlt' : lateIn late (setL l.length dn) = true := by rw [lateM_eq]; exact hlt
    have hw : ∀ i', (gOf g k late (setL l.length (i' :: dn))).wt = none := fun i' => if_pos (lateIn_mono hlt')
    simp only [List.mem_cons, List.not_mem_nil, or_false] at hi'
    rcases hi' with rfl | rfl | rfl
    · exact ⟨o, ho, h _ rfl (hw _)⟩
    · exact ⟨p, hp, h' _ rfl (hw _)⟩
    · exact ⟨q, hq, h'' _ rfl (hw _)⟩
theorem AR.step2LL {i j : Nat} {o p : Oper} (hl : Nat.blt dn.length l.length = true) (hr : (readyM (maskL l.length dn) 0 l == [i, j]) = true) (ho : l[i]? = some o) (hp : l[j]? = some p) (hlt : lateM late (maskL l.length dn) = true)
    (h : ∀ g' : Ghost, g'.ro = g.ro → g'.wt = none → AOps .plain P g' l.toArray [o] (onlyN (AR P g k late l QD (i :: dn))) δ)
    (h' : ∀ g' : Ghost, g'.ro = g.ro → g'.wt = none → AOps .plain P g' l.toArray [p] (onlyN (AR P g k late l QD (j :: dn))) δ) : AR P g k late l QD dn δ :=
  AR.all hl (readyIs_M hr) (by simp) fun i' hi' => by
    have hlt' : lateIn late (setL l.length dn) = true := by rw [lateM_eq]; exact hlt
    have hw : ∀ i', (gOf g k late (setL l.length (i' :: dn))).wt = none := fun i' => if_pos (lateIn_mono hlt')
    simp only [List.mem_cons, List.not_mem_nil, or_false] at hi'
    rcases hi' with rfl | rfl
    · exact ⟨o, ho, h _ rfl (hw _)⟩
    · exact ⟨p, hp, h' _ rfl (hw _)⟩
/-! ### what lies shadowed is left out -/
def memB (k : Nat) : List Nat → Bool
  | [] => false
  | x :: r => bif Nat.beq x k then true else memB k r
def ddE (s : List Nat) : List (Nat × AV) → List (Nat × AV)
  | [] => []
  | (k, v) :: r => bif memB k s then ddE s r else (k, v) :: ddE (k :: s) r
def ddO (s : List Nat) : List (Nat × Option Ob) → List (Nat × Option Ob)
  | [] => []
  | (k, v) :: r => bif memB k s then ddO s r else (k, v) :: ddO (k :: s) r
theorem memB_iff {k : Nat} : ∀ {s : List Nat}, memB k s = true ↔ k ∈ s
  | [] => by simp [memB]
  | x :: r => by
    unfold memB
    by_cases h : x = k
    · subst h; simp
    · rw [beq_ne h, cond_false, memB_iff, List.mem_cons]
      constructor
      · exact .inr
      · rintro (h' | h')
        · exact absurd h'.symm h
        · exact h'
theorem look_ddE {j : Nat} : ∀ {e : List (Nat × AV)} {s : List Nat}, j ∉ s → look (ddE s e) j = look e j
  | [], _, _ => rfl
  | (k, v) :: r, s, h => by
    unfold ddE
    cases hm : memB k s with
    | true =>
      have : k ≠ j := by rintro rfl; exact h (memB_iff.1 hm)
      rw [cond_true, look_cons, if_neg this, look_ddE h]
    | false =>
      rw [cond_false, look_cons, look_cons]
      by_cases e : k = j
      · rw [if_pos e, if_pos e]
      · rw [if_neg e, if_neg e, look_ddE (by simp only [List.mem_cons, not_or]; exact ⟨fun h' => e h'.symm, h⟩)]
theorem lookOb_ddO {j : Nat} : ∀ {e : List (Nat × Option Ob)} {s : List Nat}, j ∉ s → lookOb (ddO s e) j = lookOb e j
  | [], _, _ => rfl
  | (k, v) :: r, s, h => by
    unfold ddO
    cases hm : memB k s with
    | true =>
      have : k ≠ j := by rintro rfl; exact h (memB_iff.1 hm)
      rw [cond_true, lookOb_cons, if_neg this, lookOb_ddO h]
    | false =>
      rw [cond_false, lookOb_cons, lookOb_cons]
      by_cases e : k = j
      · rw [if_pos e, if_pos e]
      · rw [if_neg e, if_neg e, lookOb_ddO (by simp only [List.mem_cons, not_or]; exact ⟨fun h' => e h'.symm, h⟩)]
def DS.dd (δ : DS) : DS := ⟨δ.n, ddE [] δ.env, ddO [] δ.objs, δ.nx⟩
theorem Rel.congr {δ' : DS} (hn : δ'.n = δ.n) (hx : δ'.nx = δ.nx) (he : ∀ j, δ'.get j = δ.get j) (ho : ∀ j, δ'.ob j = δ.ob j) (r : Rel g δ κ a w) : Rel g δ' κ a w := by
  have hob : δ'.ob = δ.ob := funext ho
  have hl : δ'.live = δ.live := by unfold DS.live; rw [hob]
  have hlr : δ'.lr = δ.lr := by unfold DS.lr; rw [hob]
  have hlb : δ'.lb = δ.lb := by unfold DS.lb; rw [hob]
  have hcx : δ'.cx g κ = δ.cx g κ := by unfold DS.cx; rw [hl, hlr, hlb]
  exact
    { n := r.n.trans hn.symm, dfr := r.dfr
      env := fun j => by rw [hcx, he]; exact r.env j
      obj := fun i o h => by rw [hcx]; rw [ho] at h; exact r.obj i o h
      inj := by rw [hl]; exact r.inj
      lo := by rw [hl]; exact r.lo
      nx := by rw [hl, hx]; exact r.nx
      wt := by rw [hl, hlr]; exact r.wt
      below := r.below, hB := r.hB, N0 := r.N0 }
theorem Weak.dd : Weak g δ δ.dd := fun κ _ _ r => ⟨κ, Rel.congr (δ := δ) (δ' := δ.dd) rfl rfl (fun j => look_ddE (s := []) (by simp)) (fun j => lookOb_ddO (s := []) (by simp)) r⟩
theorem AR.dd (h : AR P g k late l QD dn δ.dd) : AR P g k late l QD dn δ := AR.weakG (fun _ _ => Weak.dd) h
def ddEc (b : Bool) (s : List Nat) (k : Nat) (v : AV) (r : List (Nat × AV)) : List (Nat × AV) := bif b then ddE s r else (k, v) :: ddE (k :: s) r
def ddOc (b : Bool) (s : List Nat) (k : Nat) (v : Option Ob) (r : List (Nat × Option Ob)) : List (Nat × Option Ob) := bif b then ddO s r else (k, v) :: ddO (k :: s) r
namespace Nf
variable {n x : Nat} {e : List (Nat × AV)} {o : List (Nat × Option Ob)} {i j m : Nat}
theorem dd : DS.dd ⟨n, e, o, x⟩ = ⟨n, ddE [] e, ddO [] o, x⟩ := rfl
theorem ddE0 (s : List Nat) : ddE s [] = [] := rfl
theorem ddE1 (s : List Nat) (v : AV) (r : List (Nat × AV)) : ddE s ((m, v) :: r) = ddEc (memB m s) s m v r := rfl
theorem ddEt (s : List Nat) (v : AV) (r : List (Nat × AV)) : ddEc true s m v r = ddE s r := rfl
theorem ddEf (s : List Nat) (v : AV) (r : List (Nat × AV)) : ddEc false s m v r = (m, v) :: ddE (m :: s) r := rfl
theorem ddO0 (s : List Nat) : ddO s [] = [] := rfl
theorem ddO1 (s : List Nat) (v : Option Ob) (r : List (Nat × Option Ob)) : ddO s ((m, v) :: r) = ddOc (memB m s) s m v r := rfl
theorem ddOt (s : List Nat) (v : Option Ob) (r : List (Nat × Option Ob)) : ddOc true s m v r = ddO s r := rfl
theorem ddOf (s : List Nat) (v : Option Ob) (r : List (Nat × Option Ob)) : ddOc false s m v r = (m, v) :: ddO (m :: s) r := rfl
theorem me0 : memB m [] = false := rfl
theorem me1 (y : Nat) (r : List Nat) : memB m (y :: r) = bif Nat.beq y m then true else memB m r := rfl
set_option linter.defProp false in
def ddR := And.intro @dd (And.intro @ddE0 (And.intro @ddE1 (And.intro @ddEt (And.intro @ddEf (And.intro @ddO0 (And.intro @ddO1 (And.intro @ddOt (And.intro @ddOf (And.intro @me0 @me1)))))))))
end Nf
end Go.Ab
