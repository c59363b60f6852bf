/- The checks over a region's orders, quick for the kernel: what is listed lies as the bits of one number. -/
import Derived.Test.YtnhamicdejjjnaaAbL2
set_option linter.unusedSimpArgs false
set_option linter.unusedVariables false
namespace Go.Ab
open Go Go.RowKit
variable {P : Program} {g : Ghost} {δ : DS} {k : Wt} {late : List Nat} {l : List Oper} {dn : List Nat} {QD : Exit → DS → Prop}

def maskL (n : Nat) : List Nat → Nat
  | [] => 0
  | i :: d => bif Nat.blt i n then maskL n d ||| (1 <<< i) else maskL n d
theorem maskL_spec {n : Nat} : ∀ {d : List Nat} {j : Nat}, (maskL n d).testBit j = (setL n d).getD j false
  | [], j => by
    show Nat.testBit 0 j = (Array.replicate n false).getD j false
    rw [Nat.zero_testBit]
    simp [Array.getD_eq_getD_getElem?, Array.getElem?_replicate]
    split <;> rfl
  | i :: d, j => by
    show (bif Nat.blt i n then maskL n d ||| (1 <<< i) else maskL n d).testBit j = ((setL n d).setIfInBounds i true).getD j false
    rw [getD_set]
    have hsz : (setL n d).size = n := by
      clear j
      induction d with
      | nil => simp [setL]
      | cons i d ih => simp [setL, ih]
    by_cases hi : i < n
    · have hb : Nat.blt i n = true := by simpa using hi
      rw [hb, cond_true, Nat.testBit_or, maskL_spec, Nat.one_shiftLeft, Nat.testBit_two_pow]
      by_cases hij : i = j
      · subst hij; simp [hsz, hi]
      · simp [hij]
    · have hb : Nat.blt i n = false := by
        cases h : Nat.blt i n with
        | false => rfl
        | true => exact absurd (by simpa using h) hi
      rw [hb, cond_false, maskL_spec]
      by_cases hij : i = j
      · subst hij
        rw [if_pos rfl, if_neg (by omega)]
        simp [Array.getD_eq_getD_getElem?, Array.getElem?_eq_none (by omega : (setL n d).size ≤ i)]
      · rw [if_neg hij]
def afterM (m : Nat) (o : Oper) : Bool := o.after.toList.all fun e => !Region.binds .any e || m.testBit e.on
def readyM (m : Nat) : Nat → List Oper → List Nat
  | _, [] => []
  | j, o :: r => bif !m.testBit j && afterM m o then j :: readyM m (j + 1) r else readyM m (j + 1) r
theorem readyM_filter (m : Nat) : ∀ (l : List Oper) (j : Nat), readyM m j l = ((List.range l.length).filter fun i => !m.testBit (j + i) && ((l[i]?).map (afterM m)).getD false).map (j + ·)
  | [], _ => rfl
  | o :: r, j => by
    rw [List.length_cons, List.range_succ_eq_map, List.filter_cons, readyM, readyM_filter m r (j + 1)]
    simp only [Nat.add_zero, List.getElem?_cons_zero, Option.map_some, Option.getD_some, List.filter_map]
    have e : (List.map (fun x => j + x) (List.map Nat.succ (List.filter ((fun i => !m.testBit (j + i) && (Option.map (afterM m) (o :: r)[i]?).getD false) ∘ Nat.succ) (List.range r.length)))) = List.map (fun x => j + 1 + x) (List.filter (fun i => !m.testBit (j + 1 + i) && (Option.map (afterM m) r[i]?).getD false) (List.range r.length)) := by
      rw [List.map_map]
      have e2 : ((fun i => !m.testBit (j + i) && (Option.map (afterM m) (o :: r)[i]?).getD false) ∘ Nat.succ) = (fun i => !m.testBit (j + 1 + i) && (Option.map (afterM m) r[i]?).getD false) := by
        funext i
        simp only [Function.comp, Nat.succ_eq_add_one, List.getElem?_cons_succ]
        rw [show j + (i + 1) = j + 1 + i by omega]
      rw [e2]
      apply List.map_congr_left
      intro i _
      simp only [Function.comp, Nat.succ_eq_add_one]
      omega
    cases (!m.testBit j && afterM m o) with
    | true => simp only [cond_true, if_true, List.map_cons, Nat.add_zero]; rw [e]
    | false => simp only [cond_false, Bool.false_eq_true, if_false]; rw [e]
theorem readyM_eq : Region.ready .any l.toArray (setL l.length dn) = readyM (maskL l.length dn) 0 l := by
  rw [readyM_filter]
  unfold Region.ready
  simp only [Nat.zero_add, List.size_toArray]
  rw [show (fun x : Nat => x) = id from rfl, List.map_id]
  apply List.filter_congr
  intro i hi
  have hil : i < l.length := List.mem_range.1 hi
  have e1 : (setL l.length dn).getD i true = (maskL l.length dn).testBit i := by
    rw [maskL_spec]
    have hsz : (setL l.length dn).size = l.length := by
      clear hi hil
      generalize l.length = n
      induction dn with
      | nil => simp [setL]
      | cons i d ih => simp [setL, ih]
    rw [Array.getD_eq_getD_getElem?, Array.getD_eq_getD_getElem?, Array.getElem?_eq_getElem (by omega)]; rfl
  rw [e1]
  congr 1
  rw [List.getElem?_toArray]
  congr 2
  funext o
  unfold afterM
  rw [← Array.all_toList]
  congr 1
  funext e
  rw [maskL_spec]
theorem readyIs_M {rs : List Nat} (h : (readyM (maskL l.length dn) 0 l == rs) = true) : readyIs l dn rs = true := by
  unfold readyIs; rw [readyM_eq]; exact h
def lateM (late : List Nat) (m : Nat) : Bool := late.any m.testBit
theorem lateM_eq : lateIn late (setL l.length dn) = lateM late (maskL l.length dn) := by
  unfold lateIn lateM
  congr 1
  funext j
  rw [maskL_spec]
def freeJ (ops : Array Oper) (m i : Nat) (oi : Oper) : Nat → List Oper → Bool
  | _, [] => true
  | j, o :: r => (Nat.beq j i || m.testBit j || o.after.toList.any (fun e => Region.binds .any e && Nat.beq e.on i) || oi.apart ops o) && freeJ ops m i oi (j + 1) r
theorem freeJ_spec {ops : Array Oper} {m i : Nat} {oi : Oper} : ∀ {l : List Oper} {j : Nat}, freeJ ops m i oi j l = true → ∀ (x : Nat) (o : Oper), l[x]? = some o → (j + x == i || m.testBit (j + x) || (o.after.any (fun e => Region.binds .any e && e.on == i) || oi.apart ops o)) = true
  | [], _, _, x, o, h => by simp at h
  | o' :: r, j, h, x, o, hx => by
    unfold freeJ at h
    rw [Bool.and_eq_true] at h
    cases x with
    | zero =>
      simp only [List.getElem?_cons_zero, Option.some.injEq] at hx
      subst hx
      have h1 := h.1
      simp only [Nat.add_zero]
      rw [← Array.any_toList]
      simpa [Bool.or_assoc] using h1
    | succ x =>
      rw [List.getElem?_cons_succ] at hx
      have := freeJ_spec h.2 x o hx
      rwa [show j + 1 + x = j + (x + 1) by omega] at this
def freeM (l : List Oper) (late : List Nat) (m : Nat) (i : Nat) : Bool :=
  (readyM m 0 l).contains i && (match l[i]? with | some oi => freeJ l.toArray m i oi 0 l | none => false) && !late.contains i
def firstM (l : List Oper) (late : List Nat) : List Nat → List Nat → Bool
  | [], _ => true
  | i :: r, dn => freeM l late (maskL l.length dn) i && late.all (fun j => directB l.toArray i j || waitsB l.toArray i l.length j) && firstM l late r (i :: dn)
def fineL (l : List Oper) : Bool := Region.noSelect l.toArray && l.all noDefer
theorem freeM_free {i : Nat} (hf : fineL l = true) (hl : Nat.blt dn.length l.length = true) (h : freeM l late (maskL l.length dn) i = true) : freeB l late dn i = true := by
  unfold fineL at hf
  unfold freeM at h
  unfold freeB
  simp only [Bool.and_eq_true] at hf h ⊢
  refine ⟨⟨⟨⟨hf, by rw [readyM_eq]; exact h.1.1⟩, ?_⟩, h.2⟩, hl⟩
  have h2 := h.1.2
  unfold Region.free
  rw [List.getElem?_toArray]
  cases ho : l[i]? with
  | none => rw [ho] at h2; cases h2
  | some oi =>
    rw [ho] at h2
    simp only at h2 ⊢
    rw [List.all_eq_true]
    intro j hj
    have hj' : j < l.length := by simpa using hj
    have h3 := freeJ_spec h2 j _ (List.getElem?_eq_getElem hj')
    rw [Nat.zero_add, maskL_spec] at h3
    have hsz : (setL l.length dn).size = l.length := by
      clear hf h h2 h3 hl
      generalize l.length = n
      induction dn with
      | nil => simp [setL]
      | cons i d ih => simp [setL, ih]
    have e1 : (setL l.length dn).getD j true = (setL l.length dn).getD j false := by
      rw [Array.getD_eq_getD_getElem?, Array.getD_eq_getD_getElem?, Array.getElem?_eq_getElem (by omega)]; rfl
    rw [e1, List.getElem?_toArray, List.getElem?_eq_getElem hj']
    exact h3
theorem firstM_first (hf : fineL l = true) : ∀ (l2 dn : List Nat), Nat.ble (l2.length + dn.length) l.length = true → firstM l late l2 dn = true → firstD l late l2 dn = true
  | [], _, _, _ => rfl
  | i :: r, dn, hle, h => by
    unfold firstM at h
    unfold firstD
    simp only [Bool.and_eq_true] at h ⊢
    have hle' : (i :: r).length + dn.length ≤ l.length := by simpa using hle
    simp only [List.length_cons] at hle'
    exact ⟨⟨freeM_free hf (by simp; omega) h.1.1, h.1.2⟩, firstM_first hf r _ (by simp; omega) h.2⟩

theorem AR.readsM (l2 : List Nat) (hf : fineL l = true) (hB : firstM l late l2 dn = true) (hL : lateM late (maskL l.length dn) = false) (hle : Nat.ble (l2.length + dn.length) l.length = true)
    (h : ∀ g' : Ghost, g'.ro = g.ro → AOps .held P g' l.toArray (pick l l2) (onlyN fun δ' => ∀ k' : Wt, k'.2.2 = δ.nx → AR P g k' late l QD (l2.reverse ++ dn) δ') δ) : AR P g k late l QD dn δ :=
  AR.reads l2 (firstM_first hf _ _ hle hB) (by rw [lateM_eq]; exact hL) hle h
theorem AR.doneM (hwt : g.wt = none) (hr : (readyM (maskL l.length dn) 0 l == []) = true) (h : QD .normal δ) : AR P g k late l QD dn δ := AR.done hwt (readyIs_M hr) h
theorem AR.step1M {i : Nat} {o : Oper} (hl : Nat.blt dn.length l.length = true) (hr : (readyM (maskL l.length dn) 0 l == [i]) = true) (ho : l[i]? = some o)
    (h : ∀ g' : Ghost, g'.ro = g.ro → (∀ j, k.2.2 ≤ j → g'.wtOk j) → AOps .plain P g' l.toArray [o] (onlyN (AR P g k late l QD (i :: dn))) δ) : AR P g k late l QD dn δ := AR.step1 hl (readyIs_M hr) ho h
theorem AR.step1LM {i : Nat} {o : Oper} (hl : Nat.blt dn.length l.length = true) (hr : (readyM (maskL l.length dn) 0 l == [i]) = true) (ho : l[i]? = some o) (hlt : lateM late (maskL l.length (i :: dn)) = true)
    (h : ∀ g' : Ghost, g'.ro = g.ro → g'.wt = none → AOps .plain P g' l.toArray [o] (onlyN (AR P g k late l QD (i :: dn))) δ) : AR P g k late l QD dn δ := AR.step1L hl (readyIs_M hr) ho (by rw [lateM_eq]; exact hlt) h
theorem AR.step2M {i j : Nat} {o p : Oper} (hl : Nat.blt dn.length l.length = true) (hr : (readyM (maskL l.length dn) 0 l == [i, j]) = true) (ho : l[i]? = some o) (hp : l[j]? = some p)
    (h : ∀ g' : Ghost, g'.ro = g.ro → (∀ j, k.2.2 ≤ j → g'.wtOk j) → AOps .plain P g' l.toArray [o] (onlyN (AR P g k late l QD (i :: dn))) δ)
    (h' : ∀ g' : Ghost, g'.ro = g.ro → (∀ j, k.2.2 ≤ j → g'.wtOk j) → AOps .plain P g' l.toArray [p] (onlyN (AR P g k late l QD (j :: dn))) δ) : AR P g k late l QD dn δ := AR.step2 hl (readyIs_M hr) ho hp h h'
theorem AW.regionM {id : Nat} (l1 : List Nat) (late : List Nat) {l : List Oper} (hm : P.follows .mixedOrders = true) (hwt : g.wt = none) (hf : fineL l = true) (hB : firstM l late l1 [] = true) (hle : Nat.ble l1.length l.length = true)
    (h : AOps .held P g l.toArray (pick l l1) (onlyN fun δ' => ∀ k : Wt, k.2.2 = δ.nx → AR P g k late l QD l1.reverse δ') δ) : AW P g (.region id l.toArray true) QD δ :=
  AW.regionE l1 late hm hwt (firstD_first _ _ (firstM_first hf _ _ (by simpa using hle) hB)) hle h
end Go.Ab
/- A loop's state told by what stays of the state before it and what changes. -/
namespace Go.Ab
open Go Go.RowKit
variable {P : Program} {g : Ghost} {δ : DS}
def selE (e : List (Nat × AV)) : List Nat → List (Nat × AV)
  | [] => []
  | k :: ks => (k, look e k) :: selE e ks
def selO (o : List (Nat × Option Ob)) : List Nat → List (Nat × Option Ob)
  | [] => []
  | k :: ks => (k, lookOb o k) :: selO o ks
/-- room for the told objects' numbers. -/
def nxUp : List (Nat × Option Ob) → Nat → Nat
  | [], n => n
  | (k, _) :: r, n => nxUp r (bif Nat.ble n k then k + 1 else n)
namespace Nf
theorem nx0 (n : Nat) : nxUp [] n = n := rfl
theorem nx1 (k n : Nat) (v : Option Ob) (r : List (Nat × Option Ob)) : nxUp ((k, v) :: r) n = nxUp r (bif Nat.ble n k then k + 1 else n) := rfl
def ao : List (Nat × Option Ob) → List (Nat × Option Ob) → List (Nat × Option Ob)
  | [], m => m
  | v :: r, m => v :: ao r m
theorem ao0 (m : List (Nat × Option Ob)) : ao [] m = m := rfl
theorem ao1 (v : Nat × Option Ob) (r m : List (Nat × Option Ob)) : ao (v :: r) m = v :: ao r m := rfl
theorem se0 (e : List (Nat × AV)) : selE e [] = [] := rfl
theorem se1 (e : List (Nat × AV)) (k : Nat) (ks : List Nat) : selE e (k :: ks) = (k, look e k) :: selE e ks := rfl
theorem so0 (e : List (Nat × Option Ob)) : selO e [] = [] := rfl
theorem so1 (e : List (Nat × Option Ob)) (k : Nat) (ks : List Nat) : selO e (k :: ks) = (k, lookOb e k) :: selO e ks := rfl
set_option linter.defProp false in
def lpR := And.intro @nx0 (And.intro @nx1 (And.intro @ao0 (And.intro @ao1 (And.intro @se0 (And.intro @se1 (And.intro @so0 @so1))))))
end Nf
theorem AW.loopR {S : Type} {c : Code} {Q : Exit → DS → Prop} (ks os : List Nat) (u : S → List (Nat × AV)) (ou : S → List (Nat × Option Ob)) (I : S → Prop) (μ : S → Nat) (s0 : S) {D : S → DS}
    (hD : (fun s => (⟨δ.n, Nf.ae (u s) (selE δ.env ks), Nf.ao (ou s) (selO δ.objs os), nxUp (ou s) δ.nx⟩ : DS)) = D) (hs : I s0) (hw : Weak g δ (D s0))
    (round : ∀ s, I s → AW P g c (thenD (fun δ' => ∃ s', I s' ∧ μ s' < μ s ∧ Weak g δ' (D s')) Q) (D s)) : AW P g (.loop c) Q δ := AW.loop D I μ s0 hs hw round
/-- a slice that nobody looks into. -/
theorem Rd.raw {P : Program} {t e : TypeId} (ht : P.underlying t = some (.slice e)) : Rd P t (fun s : Option Addr × Nat × Nat => [.lit (.slice s.1 s.2.1 s.2.2)]) (fun _ => True) := by
  intro H en w sp fuel cs x hx _
  rcases DataW.trod_slice ht hx with ⟨rfl, rfl⟩ | ⟨a, len, cap, elems, rest, n, rfl, rfl, rfl, _⟩
  · exact ⟨(_, _, _), .one (.lit _) rfl, trivial⟩
  · exact ⟨(_, _, _), .one (.lit _) rfl, trivial⟩
end Go.Ab
/- Quotient and remainder of numbers that are not below zero. -/
namespace Go.Ab
open Go Go.RowKit
variable {q : Md} {P : Program} {g : Ghost} {δ : DS} {ops : Array Oper} {rest : List Oper} {Q : Exit → DS → Prop} {dst : Option Nat} {ty : TypeId} {pos : String} {af : Array Edge} {x y : Operand} {m n : Int} {t t' : TypeId}
theorem AOps.remE (hx : δ.ev x = litI m) (hy : δ.ev y = litI n) (ho : okT x = true) (ho' : okT y = true) (hd : okD δ.n dst = true) (h0 : 0 ≤ m ∧ 0 < n) (hK : AOps q P g ops rest Q (δ.putd dst (litI (m % n)))) : AOps q P g ops (⟨dst, .binOp .rem t x y t', ty, pos, af, none⟩ :: rest) Q δ :=
  AOps.rem hx hy ho ho' hd (by omega) (by rw [Int.tmod_eq_emod_of_nonneg h0.1]; exact hK)
theorem AOps.quoE (hx : δ.ev x = litI m) (hy : δ.ev y = litI n) (ho : okT x = true) (ho' : okT y = true) (hd : okD δ.n dst = true) (h0 : 0 ≤ m ∧ m ≤ 9223372036854775807 ∧ 0 < n) (hK : AOps q P g ops rest Q (δ.putd dst (litI (m / n)))) : AOps q P g ops (⟨dst, .binOp .quo t x y t', ty, pos, af, none⟩ :: rest) Q δ :=
  AOps.quo hx hy ho ho' hd (by omega) (by
    have h1 : m.tdiv n = m / n := Int.tdiv_eq_ediv_of_nonneg h0.1
    have h2 : 0 ≤ m / n := Int.ediv_nonneg h0.1 (by omega)
    have h3 : m / n ≤ m := Int.ediv_le_self _ h0.1
    rw [h1, IntWalk.i64_in _ (by omega)]
    exact hK)
end Go.Ab
/- Two objects' names exchanged; the orders of a drawn region brought together again. -/
namespace Go.Ab
open Go Go.RowKit
variable {P : Program} {g : Ghost} {δ : DS} {κ : Nat → Option Nat} {a : Act} {w : World}
namespace Nf
variable {n x : Nat} {e : List (Nat × AV)} {o : List (Nat × Option Ob)} {i j k : Nat}
end Nf
variable {k : Wt} {late : List Nat} {l : List Oper} {dn : List Nat} {QD : Exit → DS → Prop}
/-- all orders up to J come together. -/
theorem AR.cut (J : List Nat) {δc : DS} (h1 : AR P g k late l QD J δc → AR P g k late l QD dn δ) (h2 : AR P g k late l QD J δc) : AR P g k late l QD dn δ := h1 h2
theorem Rel.congr {δ' : DS} (hn : δ'.n = δ.n) (hx : δ'.nx = δ.nx) (he : ∀ j, δ'.get j = δ.get j) (ho : ∀ j, δ'.ob j = δ.ob j) (r : Rel g δ κ a w) : Rel g δ' κ a w := by
  have hob : δ'.ob = δ.ob := funext ho
  have hl : δ'.live = δ.live := by unfold DS.live; rw [hob]
  have hlr : δ'.lr = δ.lr := by unfold DS.lr; rw [hob]
  have hlb : δ'.lb = δ.lb := by unfold DS.lb; rw [hob]
  have hcx : δ'.cx g κ = δ.cx g κ := by unfold DS.cx; rw [hl, hlr, hlb]
  exact
    { n := r.n.trans hn.symm, dfr := r.dfr
      env := fun j => by rw [hcx, he]; exact r.env j
      obj := fun i o h => by rw [hcx]; rw [ho] at h; exact r.obj i o h
      inj := by rw [hl]; exact r.inj
      lo := by rw [hl]; exact r.lo
      nx := by rw [hl, hx]; exact r.nx
      wt := by rw [hl, hlr]; exact r.wt
      below := r.below, hB := r.hB, N0 := r.N0 }
namespace Nf
variable {n x : Nat} {e : List (Nat × AV)} {o : List (Nat × Option Ob)} {i j m : Nat}
end Nf
end Go.Ab
