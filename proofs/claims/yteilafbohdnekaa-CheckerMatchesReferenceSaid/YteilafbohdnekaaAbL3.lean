/- Maps from numbers to numbers; the address of a field, taken first. -/
import Derived.Test.YteilafbohdnekaaAbL2
import Derived.Sort.Row
import Derived.Sort.Grow
import Derived.Lib.AppendZeros
set_option linter.unusedSimpArgs false
set_option linter.unusedVariables false
namespace Go.Ab
open Go Go.RowKit
section
variable {P : Program} {g : Ghost} {δ δ' : DS} {q : Md}
variable {ops : Array Oper} {rest : List Oper} {Q : Exit → DS → Prop} {dst : Option Nat} {ty : TypeId} {pos : String} {af : Array Edge}
variable {t n : Nat} {K : DS → Prop}
end
theorem Frees.fieldAddr {P : Program} {δ : DS} {dst : Option Nat} {ty : TypeId} {pos : String} {af : Array Edge} {gd : Option (Tmp × Bool)} (s : TypeId) (f k : Nat) {x : Operand} {i off : Nat} (hx : δ.ev x = .ptr i off) (hB : offB P s f k = true) (ho : okT x = true) :
    Frees P ⟨dst, .fieldAddr s x f, ty, pos, af, gd⟩ δ (.ptr i (off + k)) := by
  intro g κ a w r
  unfold offB at hB
  split at hB
  · rename_i fs hs
    split at hB
    · rename_i fld hf
      simp only [Bool.and_eq_true, beq_iff_eq] at hB
      have hk := Nat.eq_of_beq_eq_true hB.1
      subst hk
      have hra := r.ra hx ho
      generalize hu : a.eval x = u at hra
      cases hra with
      | ptr hl hκ => exact ⟨_, fun w' => by have := run_fieldAddr (dst := dst) (ty := ty) (pos := pos) (af := af) hs hf hB.2 hu w'; simpa [execOp] using this, .ptr hl hκ⟩
    · cases hB
  · cases hB
section
variable {P : Program} {g : Ghost} {δ : DS} {l : List Oper} {late dn : List Nat} {k : Wt} {QD : Exit → DS → Prop}
/-- two that may come up, the second a late one. -/
theorem AR.step2L {i j : Nat} {o p : Oper} (hl : Nat.blt dn.length l.length = true) (hr : readyIs l dn [i, j] = true) (ho : l[i]? = some o) (hp : l[j]? = some p) (hlt : lateIn late (setL l.length (j :: dn)) = true)
    (h : ∀ g' : Ghost, g'.ro = g.ro → (∀ j, k.2.2 ≤ j → g'.wtOk j) → AOps .plain P g' l.toArray [o] (onlyN (AR P g k late l QD (i :: dn))) δ)
    (h' : ∀ g' : Ghost, g'.ro = g.ro → g'.wt = none → AOps .plain P g' l.toArray [p] (onlyN (AR P g k late l QD (j :: dn))) δ) : AR P g k late l QD dn δ :=
  AR.all hl hr (by simp) fun i' hi' => by
    have hw : ∀ i', ∀ j, k.2.2 ≤ j → (gOf g k late (setL l.length (i' :: dn))).wtOk j := by
      intro i' j hj k' hk'
      have : (if lateIn late (setL l.length (i' :: dn)) = true then none else some k) = some k' := hk'
      split at this
      · cases this
      · cases this; exact hj
    simp only [List.mem_cons, List.not_mem_nil, or_false] at hi'
    rcases hi' with rfl | rfl
    · exact ⟨o, ho, h _ rfl (hw _)⟩
    · exact ⟨p, hp, h' _ rfl (if_pos hlt)⟩
end
end Go.Ab
/- In the midst of a region that draws its order: operations that only read are taken in one order; the watch over memory begins anew. -/
namespace Go.Ab
open Go Go.RowKit
variable {P : Program} {g : Ghost} {δ : DS} {k : Wt} {late : List Nat} {l : List Oper} {dn : List Nat} {QD : Exit → DS → Prop} {ro : Option Nat}

/-- an edge straight from i to j. -/
def directB (ops : Array Oper) (i j : Nat) : Bool := match ops[j]? with
  | some o => o.after.any fun e => Region.binds .any e && e.on == i
  | none => false
theorem directB_waits {ops : Array Oper} {i j n : Nat} (h : directB ops i j = true) : waitsB ops i (n + 1) j = true := by
  unfold directB at h
  unfold waitsB
  cases ho : ops[j]? with
  | none => rw [ho] at h; cases h
  | some o =>
    rw [ho] at h
    simp only at h ⊢
    obtain ⟨e, he, hb⟩ := Array.any_eq_true'.1 h
    refine Array.any_eq_true'.2 ⟨e, he, ?_⟩
    simp only [Bool.and_eq_true, Bool.or_eq_true] at hb ⊢
    exact ⟨hb.1, .inl hb.2⟩
/-- as firstB; a late operation's own edges are looked at first. -/
def firstD (l : List Oper) (late : List Nat) : List Nat → List Nat → Bool
  | [], _ => true
  | i :: r, dn => freeB l late dn i && late.all (fun j => directB l.toArray i j || waitsB l.toArray i l.length j) && firstD l late r (i :: dn)
theorem firstD_first : ∀ (l2 dn : List Nat), firstD l late l2 dn = true → firstB l late l2 dn = true
  | [], _, _ => rfl
  | i :: r, dn, h => by
    unfold firstD at h
    unfold firstB
    simp only [Bool.and_eq_true] at h ⊢
    refine ⟨⟨h.1.1, List.all_eq_true.2 fun j hj => ?_⟩, firstD_first r _ h.2⟩
    have h1 := (List.all_eq_true.1 h.1.2) j hj
    rcases Bool.or_eq_true _ _ ▸ h1 with h2 | h2
    · cases hl : l.length with
      | zero => simp only [List.length_eq_zero_iff] at hl; subst hl; simp [directB] at h2
      | succ n => exact directB_waits h2
    · exact h2
theorem AR.reads (l2 : List Nat) (hB : firstD l late l2 dn = true) (hL : lateIn late (setL l.length dn) = false) (hle : Nat.ble (l2.length + dn.length) l.length = true)
    (h : ∀ g' : Ghost, g'.ro = g.ro → AOps .held P g' l.toArray (pick l l2) (onlyN fun δ' => ∀ k' : Wt, k'.2.2 = δ.nx → AR P g k' late l QD (l2.reverse ++ dn) δ') δ) : AR P g k late l QD dn δ := by
  intro hdc κ a w r
  have hle' : l2.length + dn.length ≤ l.length := by simpa using hle
  have h1 := h (gOf g k late (setL l.length dn)) rfl κ a w r
  have hwt := r.wt k (show (if lateIn late (setL l.length dn) = true then none else some k) = some k by rw [hL]; rfl)
  obtain ⟨k', hk⟩ : ∃ k' : Wt, k' = (w, (fun b => b < w.heap.size ∧ ∀ i, δ.lr i → κ i ≠ some b), δ.nx) := ⟨_, rfl⟩
  have hsub : ∀ listed w', Sof k' late listed w' → Sof k late listed w' := by
    intro listed w' h3 hl b hb
    obtain ⟨h4, h5⟩ := hwt.1 b hb
    have h6 : b < w.heap.size := by
      rw [Array.getElem?_eq_getElem h4] at h5
      exact (Array.getElem?_eq_some_iff.1 h5).1
    have h7 : k'.2.1 b := by
      rw [hk]
      exact ⟨h6, fun i hi hκ => hwt.2 i b ⟨_, hi⟩ (.inl hi) hκ hb⟩
    have h8 := (h3 hl b h7).2
    rw [hk] at h8
    exact ⟨h4, h8.trans h5⟩
  have hfrom : ∀ (fuel : Nat) (listed : Array Bool) (a : Act) (w' : World), wpAnyL g.ro P l.toArray (postN g QD) (Sof k' late) fuel listed a w' → wpAnyL g.ro P l.toArray (postN g QD) (Sof k late) fuel listed a w' := by
    intro fuel
    induction fuel with
    | zero => intro _ _ _ h; exact h
    | succ fuel ih => intro listed a w' h; exact ⟨h.1, fun i hi => wpOpIn_mono (fun a' w'' h' => ⟨hsub _ _ h'.1, ih _ _ _ h'.2⟩) (h.2 i hi)⟩
  have hfu : l.length - dn.length = l2.length + (l.length - (l2.reverse ++ dn).length) := by simp; omega
  rw [hfu]
  have hk0 : Sof k' late (setL l.length dn) w := fun _ b hb => by subst hk; exact ⟨hb.1, rfl⟩
  refine hfrom _ _ _ _ (heldIn (ro := g.ro) (g := g) (QD := QD) (late := late) (l := l) (P := P) (δ0 := δ) (κ1 := κ) (w1 := w) (k := k') (by rw [hk]) (by rw [hk]) (N := l.length - (l2.reverse ++ dn).length) l2 dn a (firstD_first _ _ hB) hdc hk0 h1 (fun a' ha' hd' => ?_))
  obtain ⟨δ', hq, hobj, r2⟩ := ha'
  refine hq k' (by rw [hk]) hd' κ a' w ?_
  have hob : ∀ i, δ'.ob i = δ.ob i := fun i => by unfold DS.ob; rw [hobj]
  refine Rel.rewt (g := gOf g k late (setL l.length dn)) r2 (wt' := if lateIn late (setL l.length (l2.reverse ++ dn)) = true then none else some k') fun k'' hk' => ?_
  split at hk'
  · cases hk'
  · cases hk'
    subst hk
    refine ⟨fun b hb => ⟨hb.1, rfl⟩, fun i b hli hor hκ hb => ?_⟩
    rcases hor with hor | hor
    · exact hb.2 i (by have : δ'.ob i = some .row := hor; rw [hob] at this; exact this) hκ
    · obtain ⟨o, hli⟩ := hli
      rw [hob] at hli
      exact absurd (r.nx i ⟨o, hli⟩) (Nat.not_lt.2 hor)
end Go.Ab
/- A part of a box, loaded as a whole. -/
namespace Go.Ab
open Go Go.RowKit
inductive Sub : Nat → Nat → List AV → List AV → Prop where
  | nil {l} : Sub 0 0 l []
  | take {n a l vs} : Sub 0 n l vs → Sub 0 (n + 1) (a :: l) (a :: vs)
  | skip {k n a l vs} : Sub k n l vs → Sub (k + 1) n (a :: l) vs
theorem Sub.spec {k n : Nat} {l vs : List AV} (h : Sub k n l vs) : (l.drop k).take n = vs ∧ k + n ≤ l.length := by
  induction h with
  | nil => simp
  | take _ ih => simp at ih ⊢; exact ⟨ih.1, ih.2⟩
  | skip _ ih => simp at ih ⊢; exact ⟨ih.1, by omega⟩
variable {q : Md} {P : Program} {g : Ghost} {δ : DS} {ops : Array Oper} {rest : List Oper} {Q : Exit → DS → Prop} {dst : Option Nat} {ty : TypeId} {pos : String} {af : Array Edge}
theorem AOps.load_bs {x : Operand} {t : TypeId} {i off n : Nat} {cells vs : List AV} (hx : δ.ev x = .ptr i off) (hb : δ.ob i = some (.box cells)) (hn : (P.info? t).map (·.size) = some n) (hs : Sub off n cells vs) (ht : aggT P t n = true) (ho : okT x = true) (hd : okD δ.n dst = true)
    (hK : AOps q P g ops rest Q (δ.putd dst (.agg vs))) : AOps q P g ops (⟨dst, .load t x, ty, pos, af, none⟩ :: rest) Q δ :=
  AOps.load_bn (n := n) hx hb ht (by simpa using hs.spec.2) ho hd (by rw [hs.spec.1]; exact hK)
variable {gd : Option (Tmp × Bool)}
end Go.Ab
/- The checks over a region's orders, quick for the kernel: what is listed lies as the bits of one number. -/
namespace Go.Ab
open Go Go.RowKit
variable {P : Program} {g : Ghost} {δ : DS} {k : Wt} {late : List Nat} {l : List Oper} {dn : List Nat} {QD : Exit → DS → Prop}

def maskL (n : Nat) : List Nat → Nat
  | [] => 0
  | i :: d => bif Nat.blt i n then maskL n d ||| (1 <<< i) else maskL n d
theorem maskL_spec {n : Nat} : ∀ {d : List Nat} {j : Nat}, (maskL n d).testBit j = (setL n d).getD j false
  | [], j => by
    show Nat.testBit 0 j = (Array.replicate n false).getD j false
    rw [Nat.zero_testBit]
    simp [Array.getD_eq_getD_getElem?, Array.getElem?_replicate]
    split <;> rfl
  | i :: d, j => by
    show (bif Nat.blt i n then maskL n d ||| (1 <<< i) else maskL n d).testBit j = ((setL n d).setIfInBounds i true).getD j false
    rw [getD_set]
    have hsz : (setL n d).size = n := by
      clear j
      induction d with
      | nil => simp [setL]
      | cons i d ih => simp [setL, ih]
    by_cases hi : i < n
    · have hb : Nat.blt i n = true := by simpa using hi
      rw [hb, cond_true, Nat.testBit_or, maskL_spec, Nat.one_shiftLeft, Nat.testBit_two_pow]
      by_cases hij : i = j
      · subst hij; simp [hsz, hi]
      · simp [hij]
    · have hb : Nat.blt i n = false := by
        cases h : Nat.blt i n with
        | false => rfl
        | true => exact absurd (by simpa using h) hi
      rw [hb, cond_false, maskL_spec]
      by_cases hij : i = j
      · subst hij
        rw [if_pos rfl, if_neg (by omega)]
        simp [Array.getD_eq_getD_getElem?, Array.getElem?_eq_none (by omega : (setL n d).size ≤ i)]
      · rw [if_neg hij]
def afterM (m : Nat) (o : Oper) : Bool := o.after.toList.all fun e => !Region.binds .any e || m.testBit e.on
def readyM (m : Nat) : Nat → List Oper → List Nat
  | _, [] => []
  | j, o :: r => bif !m.testBit j && afterM m o then j :: readyM m (j + 1) r else readyM m (j + 1) r
theorem readyM_filter (m : Nat) : ∀ (l : List Oper) (j : Nat), readyM m j l = ((List.range l.length).filter fun i => !m.testBit (j + i) && ((l[i]?).map (afterM m)).getD false).map (j + ·)
  | [], _ => rfl
  | o :: r, j => by
    rw [List.length_cons, List.range_succ_eq_map, List.filter_cons, readyM, readyM_filter m r (j + 1)]
    simp only [Nat.add_zero, List.getElem?_cons_zero, Option.map_some, Option.getD_some, List.filter_map]
    have e : (List.map (fun x => j + x) (List.map Nat.succ (List.filter ((fun i => !m.testBit (j + i) && (Option.map (afterM m) (o :: r)[i]?).getD false) ∘ Nat.succ) (List.range r.length)))) = List.map (fun x => j + 1 + x) (List.filter (fun i => !m.testBit (j + 1 + i) && (Option.map (afterM m) r[i]?).getD false) (List.range r.length)) := by
      rw [List.map_map]
      have e2 : ((fun i => !m.testBit (j + i) && (Option.map (afterM m) (o :: r)[i]?).getD false) ∘ Nat.succ) = (fun i => !m.testBit (j + 1 + i) && (Option.map (afterM m) r[i]?).getD false) := by
        funext i
        simp only [Function.comp, Nat.succ_eq_add_one, List.getElem?_cons_succ]
        rw [show j + (i + 1) = j + 1 + i by omega]
      rw [e2]
      apply List.map_congr_left
      intro i _
      simp only [Function.comp, Nat.succ_eq_add_one]
      omega
    cases (!m.testBit j && afterM m o) with
    | true => simp only [cond_true, if_true, List.map_cons, Nat.add_zero]; rw [e]
    | false => simp only [cond_false, Bool.false_eq_true, if_false]; rw [e]
theorem readyM_eq : Region.ready .any l.toArray (setL l.length dn) = readyM (maskL l.length dn) 0 l := by
  rw [readyM_filter]
  unfold Region.ready
  simp only [Nat.zero_add, List.size_toArray]
  rw [show (fun x : Nat => x) = id from rfl, List.map_id]
  apply List.filter_congr
  intro i hi
  have hil : i < l.length := List.mem_range.1 hi
  have e1 : (setL l.length dn).getD i true = (maskL l.length dn).testBit i := by
    rw [maskL_spec]
    have hsz : (setL l.length dn).size = l.length := by
      clear hi hil
      generalize l.length = n
      induction dn with
      | nil => simp [setL]
      | cons i d ih => simp [setL, ih]
    rw [Array.getD_eq_getD_getElem?, Array.getD_eq_getD_getElem?, Array.getElem?_eq_getElem (by omega)]; rfl
  rw [e1]
  congr 1
  rw [List.getElem?_toArray]
  congr 2
  funext o
  unfold afterM
  rw [← Array.all_toList]
  congr 1
  funext e
  rw [maskL_spec]
theorem readyIs_M {rs : List Nat} (h : (readyM (maskL l.length dn) 0 l == rs) = true) : readyIs l dn rs = true := by
  unfold readyIs; rw [readyM_eq]; exact h
def lateM (late : List Nat) (m : Nat) : Bool := late.any m.testBit
theorem lateM_eq : lateIn late (setL l.length dn) = lateM late (maskL l.length dn) := by
  unfold lateIn lateM
  congr 1
  funext j
  rw [maskL_spec]
def freeJ (ops : Array Oper) (m i : Nat) (oi : Oper) : Nat → List Oper → Bool
  | _, [] => true
  | j, o :: r => (Nat.beq j i || m.testBit j || o.after.toList.any (fun e => Region.binds .any e && Nat.beq e.on i) || oi.apart ops o) && freeJ ops m i oi (j + 1) r
theorem freeJ_spec {ops : Array Oper} {m i : Nat} {oi : Oper} : ∀ {l : List Oper} {j : Nat}, freeJ ops m i oi j l = true → ∀ (x : Nat) (o : Oper), l[x]? = some o → (j + x == i || m.testBit (j + x) || (o.after.any (fun e => Region.binds .any e && e.on == i) || oi.apart ops o)) = true
  | [], _, _, x, o, h => by simp at h
  | o' :: r, j, h, x, o, hx => by
    unfold freeJ at h
    rw [Bool.and_eq_true] at h
    cases x with
    | zero =>
      simp only [List.getElem?_cons_zero, Option.some.injEq] at hx
      subst hx
      have h1 := h.1
      simp only [Nat.add_zero]
      rw [← Array.any_toList]
      simpa [Bool.or_assoc] using h1
    | succ x =>
      rw [List.getElem?_cons_succ] at hx
      have := freeJ_spec h.2 x o hx
      rwa [show j + 1 + x = j + (x + 1) by omega] at this
def freeM (l : List Oper) (late : List Nat) (m : Nat) (i : Nat) : Bool :=
  (readyM m 0 l).contains i && (match l[i]? with | some oi => freeJ l.toArray m i oi 0 l | none => false) && !late.contains i
def firstM (l : List Oper) (late : List Nat) : List Nat → List Nat → Bool
  | [], _ => true
  | i :: r, dn => freeM l late (maskL l.length dn) i && late.all (fun j => directB l.toArray i j || waitsB l.toArray i l.length j) && firstM l late r (i :: dn)
def fineL (l : List Oper) : Bool := Region.noSelect l.toArray && l.all noDefer
theorem freeM_free {i : Nat} (hf : fineL l = true) (hl : Nat.blt dn.length l.length = true) (h : freeM l late (maskL l.length dn) i = true) : freeB l late dn i = true := by
  unfold fineL at hf
  unfold freeM at h
  unfold freeB
  simp only [Bool.and_eq_true] at hf h ⊢
  refine ⟨⟨⟨⟨hf, by rw [readyM_eq]; exact h.1.1⟩, ?_⟩, h.2⟩, hl⟩
  have h2 := h.1.2
  unfold Region.free
  rw [List.getElem?_toArray]
  cases ho : l[i]? with
  | none => rw [ho] at h2; cases h2
  | some oi =>
    rw [ho] at h2
    simp only at h2 ⊢
    rw [List.all_eq_true]
    intro j hj
    have hj' : j < l.length := by simpa using hj
    have h3 := freeJ_spec h2 j _ (List.getElem?_eq_getElem hj')
    rw [Nat.zero_add, maskL_spec] at h3
    have hsz : (setL l.length dn).size = l.length := by
      clear hf h h2 h3 hl
      generalize l.length = n
      induction dn with
      | nil => simp [setL]
      | cons i d ih => simp [setL, ih]
    have e1 : (setL l.length dn).getD j true = (setL l.length dn).getD j false := by
      rw [Array.getD_eq_getD_getElem?, Array.getD_eq_getD_getElem?, Array.getElem?_eq_getElem (by omega)]; rfl
    rw [e1, List.getElem?_toArray, List.getElem?_eq_getElem hj']
    exact h3
theorem firstM_first (hf : fineL l = true) : ∀ (l2 dn : List Nat), Nat.ble (l2.length + dn.length) l.length = true → firstM l late l2 dn = true → firstD l late l2 dn = true
  | [], _, _, _ => rfl
  | i :: r, dn, hle, h => by
    unfold firstM at h
    unfold firstD
    simp only [Bool.and_eq_true] at h ⊢
    have hle' : (i :: r).length + dn.length ≤ l.length := by simpa using hle
    simp only [List.length_cons] at hle'
    exact ⟨⟨freeM_free hf (by simp; omega) h.1.1, h.1.2⟩, firstM_first hf r _ (by simp; omega) h.2⟩

theorem AR.readsM (l2 : List Nat) (hf : fineL l = true) (hB : firstM l late l2 dn = true) (hL : lateM late (maskL l.length dn) = false) (hle : Nat.ble (l2.length + dn.length) l.length = true)
    (h : ∀ g' : Ghost, g'.ro = g.ro → AOps .held P g' l.toArray (pick l l2) (onlyN fun δ' => ∀ k' : Wt, k'.2.2 = δ.nx → AR P g k' late l QD (l2.reverse ++ dn) δ') δ) : AR P g k late l QD dn δ :=
  AR.reads l2 (firstM_first hf _ _ hle hB) (by rw [lateM_eq]; exact hL) hle h
theorem AR.doneM (hwt : g.wt = none) (hr : (readyM (maskL l.length dn) 0 l == []) = true) (h : QD .normal δ) : AR P g k late l QD dn δ := AR.done hwt (readyIs_M hr) h
theorem AR.step1M {i : Nat} {o : Oper} (hl : Nat.blt dn.length l.length = true) (hr : (readyM (maskL l.length dn) 0 l == [i]) = true) (ho : l[i]? = some o)
    (h : ∀ g' : Ghost, g'.ro = g.ro → (∀ j, k.2.2 ≤ j → g'.wtOk j) → AOps .plain P g' l.toArray [o] (onlyN (AR P g k late l QD (i :: dn))) δ) : AR P g k late l QD dn δ := AR.step1 hl (readyIs_M hr) ho h
theorem AR.step1LM {i : Nat} {o : Oper} (hl : Nat.blt dn.length l.length = true) (hr : (readyM (maskL l.length dn) 0 l == [i]) = true) (ho : l[i]? = some o) (hlt : lateM late (maskL l.length (i :: dn)) = true)
    (h : ∀ g' : Ghost, g'.ro = g.ro → g'.wt = none → AOps .plain P g' l.toArray [o] (onlyN (AR P g k late l QD (i :: dn))) δ) : AR P g k late l QD dn δ := AR.step1L hl (readyIs_M hr) ho (by rw [lateM_eq]; exact hlt) h
theorem AR.step2M {i j : Nat} {o p : Oper} (hl : Nat.blt dn.length l.length = true) (hr : (readyM (maskL l.length dn) 0 l == [i, j]) = true) (ho : l[i]? = some o) (hp : l[j]? = some p)
    (h : ∀ g' : Ghost, g'.ro = g.ro → (∀ j, k.2.2 ≤ j → g'.wtOk j) → AOps .plain P g' l.toArray [o] (onlyN (AR P g k late l QD (i :: dn))) δ)
    (h' : ∀ g' : Ghost, g'.ro = g.ro → (∀ j, k.2.2 ≤ j → g'.wtOk j) → AOps .plain P g' l.toArray [p] (onlyN (AR P g k late l QD (j :: dn))) δ) : AR P g k late l QD dn δ := AR.step2 hl (readyIs_M hr) ho hp h h'
theorem AW.regionM {id : Nat} (l1 : List Nat) (late : List Nat) {l : List Oper} (hm : P.follows .mixedOrders = true) (hwt : g.wt = none) (hf : fineL l = true) (hB : firstM l late l1 [] = true) (hle : Nat.ble l1.length l.length = true)
    (h : AOps .held P g l.toArray (pick l l1) (onlyN fun δ' => ∀ k : Wt, k.2.2 = δ.nx → AR P g k late l QD l1.reverse δ') δ) : AW P g (.region id l.toArray true) QD δ :=
  AW.regionE l1 late hm hwt (firstD_first _ _ (firstM_first hf _ _ (by simpa using hle) hB)) hle h
end Go.Ab
/- A loop's state told by what stays of the state before it and what changes. -/
namespace Go.Ab
open Go Go.RowKit
variable {P : Program} {g : Ghost} {δ : DS}
def selE (e : List (Nat × AV)) : List Nat → List (Nat × AV)
  | [] => []
  | k :: ks => (k, look e k) :: selE e ks
def selO (o : List (Nat × Option Ob)) : List Nat → List (Nat × Option Ob)
  | [] => []
  | k :: ks => (k, lookOb o k) :: selO o ks
/-- room for the told objects' numbers. -/
def nxUp : List (Nat × Option Ob) → Nat → Nat
  | [], n => n
  | (k, _) :: r, n => nxUp r (bif Nat.ble n k then k + 1 else n)
namespace Nf
theorem nx0 (n : Nat) : nxUp [] n = n := rfl
theorem nx1 (k n : Nat) (v : Option Ob) (r : List (Nat × Option Ob)) : nxUp ((k, v) :: r) n = nxUp r (bif Nat.ble n k then k + 1 else n) := rfl
def ao : List (Nat × Option Ob) → List (Nat × Option Ob) → List (Nat × Option Ob)
  | [], m => m
  | v :: r, m => v :: ao r m
theorem ao0 (m : List (Nat × Option Ob)) : ao [] m = m := rfl
theorem ao1 (v : Nat × Option Ob) (r m : List (Nat × Option Ob)) : ao (v :: r) m = v :: ao r m := rfl
theorem se0 (e : List (Nat × AV)) : selE e [] = [] := rfl
theorem se1 (e : List (Nat × AV)) (k : Nat) (ks : List Nat) : selE e (k :: ks) = (k, look e k) :: selE e ks := rfl
theorem so0 (e : List (Nat × Option Ob)) : selO e [] = [] := rfl
theorem so1 (e : List (Nat × Option Ob)) (k : Nat) (ks : List Nat) : selO e (k :: ks) = (k, lookOb e k) :: selO e ks := rfl
set_option linter.defProp false in
def lpR := And.intro @nx0 (And.intro @nx1 (And.intro @ao0 (And.intro @ao1 (And.intro @se0 (And.intro @se1 (And.intro @so0 @so1))))))
end Nf
theorem AW.loopR {S : Type} {c : Code} {Q : Exit → DS → Prop} (ks os : List Nat) (u : S → List (Nat × AV)) (ou : S → List (Nat × Option Ob)) (I : S → Prop) (μ : S → Nat) (s0 : S) {D : S → DS}
    (hD : (fun s => (⟨δ.n, Nf.ae (u s) (selE δ.env ks), Nf.ao (ou s) (selO δ.objs os), nxUp (ou s) δ.nx⟩ : DS)) = D) (hs : I s0) (hw : Weak g δ (D s0))
    (round : ∀ s, I s → AW P g c (thenD (fun δ' => ∃ s', I s' ∧ μ s' < μ s ∧ Weak g δ' (D s')) Q) (D s)) : AW P g (.loop c) Q δ := AW.loop D I μ s0 hs hw round
end Go.Ab
/- Quotient and remainder of numbers that are not below zero. -/
namespace Go.Ab
open Go Go.RowKit
variable {q : Md} {P : Program} {g : Ghost} {δ : DS} {ops : Array Oper} {rest : List Oper} {Q : Exit → DS → Prop} {dst : Option Nat} {ty : TypeId} {pos : String} {af : Array Edge} {x y : Operand} {m n : Int} {t t' : TypeId}
end Go.Ab
/- Two objects' names exchanged; the orders of a drawn region brought together again. -/
namespace Go.Ab
open Go Go.RowKit
variable {P : Program} {g : Ghost} {δ : DS} {κ : Nat → Option Nat} {a : Act} {w : World}
/-- i and j exchanged. -/
def swN (i j x : Nat) : Nat := bif Nat.beq i x then j else bif Nat.beq j x then i else x
theorem swN_if (i j x : Nat) : swN i j x = if i = x then j else if j = x then i else x := by
  unfold swN
  by_cases h1 : i = x
  · subst h1; simp
  · rw [beq_ne h1, if_neg h1]
    by_cases h2 : j = x
    · subst h2; simp
    · rw [beq_ne h2, if_neg h2]; rfl
theorem swN_sw (i j x : Nat) : swN i j (swN i j x) = x := by
  simp only [swN_if]
  split <;> split <;> (try split) <;> omega
mutual
def AV.sw (i j : Nat) : AV → AV
  | .any => .any
  | .pv p => .pv p
  | .own x e k els => .own (swN i j x) e k els
  | .ptr x o => .ptr (swN i j x) o
  | .rptr c => .rptr c
  | .optr x e k els n => .optr (swN i j x) e k els n
  | .agg cs => .agg (AV.swL i j cs)
  | .tup cs => .tup (AV.swL i j cs)
  | .clo fn cs ds => .clo fn (AV.swL i j cs) (AV.swL i j ds)
  | .mapr x => .mapr (swN i j x)
  | .yld x => .yld (swN i j x)
def AV.swL (i j : Nat) : List AV → List AV
  | [] => []
  | c :: cs => AV.sw i j c :: AV.swL i j cs
end
theorem AV.swL_eq (i j : Nat) : ∀ l, AV.swL i j l = l.map (AV.sw i j)
  | [] => rfl
  | c :: cs => by simp [AV.swL, AV.swL_eq i j cs]
def Ob.sw (i j : Nat) : Ob → Ob
  | .row => .row
  | .box cs => .box (AV.swL i j cs)
  | .mp l => .mp (l.map fun p => (p.1, p.2.sw i j))
  | .mpl l k v => .mpl (l.map fun p => (p.1, p.2.sw i j)) k (v.sw i j)
  | .it l seen => .it l seen
  | .loop l tm ps asg body st => .loop l tm ps asg body st
theorem Ob.sw_row (i j : Nat) (o : Ob) : (o.sw i j).isRow = o.isRow := by cases o <;> rfl
def swE (i j : Nat) : List (Nat × AV) → List (Nat × AV)
  | [] => []
  | (x, v) :: r => (x, v.sw i j) :: swE i j r
def swO (i j : Nat) : List (Nat × Option Ob) → List (Nat × Option Ob)
  | [] => []
  | (x, none) :: r => (swN i j x, none) :: swO i j r
  | (x, some o) :: r => (swN i j x, some (o.sw i j)) :: swO i j r
def DS.sw (δ : DS) (i j : Nat) : DS := ⟨δ.n, swE i j δ.env, swO i j δ.objs, δ.nx⟩
theorem look_sw (i j : Nat) (k : Nat) : ∀ e, look (swE i j e) k = (look e k).sw i j
  | [] => rfl
  | (x, v) :: r => by
    unfold swE
    simp only [look_cons, look_sw i j k r]
    split <;> rfl
theorem lookOb_sw (i j : Nat) (k : Nat) : ∀ e, lookOb (swO i j e) (swN i j k) = (lookOb e k).map (Ob.sw i j)
  | [] => rfl
  | (x, o) :: r => by
    have hx : (swN i j x = swN i j k) = (x = k) := by
      apply propext
      constructor
      · intro h; rw [← swN_sw i j x, h, swN_sw]
      · intro h; rw [h]
    cases o with
    | none =>
      unfold swO
      simp only [lookOb_cons, lookOb_sw i j k r, hx]
      split <;> rfl
    | some o =>
      unfold swO
      simp only [lookOb_cons, lookOb_sw i j k r, hx]
      split <;> rfl
theorem ob_sw (i j k : Nat) : (δ.sw i j).ob k = (δ.ob (swN i j k)).map (Ob.sw i j) := by
  have := lookOb_sw i j (swN i j k) δ.objs
  rw [swN_sw] at this
  exact this
theorem live_sw (i j k : Nat) : (δ.sw i j).live k ↔ δ.live (swN i j k) := by
  unfold DS.live
  rw [ob_sw]
  cases δ.ob (swN i j k) <;> simp
theorem lr_sw (i j k : Nat) : (δ.sw i j).lr k ↔ δ.lr (swN i j k) := by
  unfold DS.lr
  rw [ob_sw]
  cases h : δ.ob (swN i j k) with
  | none => simp
  | some o => cases o <;> simp [Ob.sw]
theorem lb_sw (i j k : Nat) : (δ.sw i j).lb k ↔ δ.lb (swN i j k) := by
  unfold DS.lb
  rw [ob_sw]
  cases h : δ.ob (swN i j k) with
  | none => simp
  | some o => simp [Ob.sw_row]
def swK (i j : Nat) (κ : Nat → Option Nat) : Nat → Option Nat := fun x => κ (swN i j x)
theorem N_sw (i j b : Nat) : ((δ.sw i j).cx g (swK i j κ)).N b ↔ (δ.cx g κ).N b := by
  show (g.N0 b ∧ _) ↔ (g.N0 b ∧ _)
  constructor
  · rintro ⟨h1, h2⟩
    refine ⟨h1, fun x hx => ?_⟩
    have := h2 (swN i j x) ((live_sw i j _).2 (by rw [swN_sw]; exact hx))
    unfold swK at this
    rwa [swN_sw] at this
  · rintro ⟨h1, h2⟩
    exact ⟨h1, fun x hx => h2 _ ((live_sw i j _).1 hx)⟩
theorem rp_sw (i j : Nat) {v : Value} {p : PV} (h : RP (δ.cx g κ).N w v p) : RP ((δ.sw i j).cx g (swK i j κ)).N w v p :=
  h.mono (Nat.le_refl _) fun b _ hb => ⟨(N_sw i j b).2 hb, rfl⟩
theorem own_sw (i j : Nat) {v : Value} {x : Nat} {e : TypeId} {k : Nat} {els : List (List PV)} (h : OwnV (δ.cx g κ) w v x e k els) : OwnV ((δ.sw i j).cx g (swK i j κ)) w v (swN i j x) e k els := by
  obtain ⟨hl, hlim, hk, hb, xs, ho, h1, hx⟩ := h
  refine ⟨(lr_sw i j _).2 (by rw [swN_sw]; exact hl), hlim, hk, fun b hv => ?_, xs, ho, h1, fun i' j' p hp => let ⟨u, h1, h2⟩ := hx i' j' p hp; ⟨u, h1, rp_sw i j h2⟩⟩
  show κ (swN i j (swN i j x)) = some b
  rw [swN_sw]; exact hb b hv
theorem ra_sw (i j : Nat) {v : Value} {av : AV} (h : RA (δ.cx g κ) w v av) : RA ((δ.sw i j).cx g (swK i j κ)) w v (av.sw i j) := by
  induction h with
  | any v => exact .any v
  | pv h => exact .pv (rp_sw i j h)
  | own h => exact .own (own_sw i j h)
  | ptr hl hκ => exact .ptr ((lb_sw i j _).2 (by rw [swN_sw]; exact hl)) (by show κ (swN i j (swN i j _)) = _; rw [swN_sw]; exact hκ)
  | rptr b off vs hN hb hc hr => exact .rptr b off vs ((N_sw i j b).2 hN) hb hc fun k p hp => rp_sw i j (hr k p hp)
  | optr hi h => exact .optr hi (own_sw i j h)
  | agg hs h ih =>
    show RA _ _ _ (.agg (AV.swL i j _))
    rw [AV.swL_eq]
    refine .agg (by simp [hs]) fun k u c hu hc => ?_
    rw [List.getElem?_map] at hc
    obtain ⟨c', hc', rfl⟩ := Option.map_eq_some_iff.1 hc
    exact ih k u c' hu hc'
  | tup hs h ih =>
    show RA _ _ _ (.tup (AV.swL i j _))
    rw [AV.swL_eq]
    refine .tup (by simp [hs]) fun k u c hu hc => ?_
    rw [List.getElem?_map] at hc
    obtain ⟨c', hc', rfl⟩ := Option.map_eq_some_iff.1 hc
    exact ih k u c' hu hc'
  | clo hs h ht h' ih ih' =>
    show RA _ _ _ (.clo _ (AV.swL i j _) (AV.swL i j _))
    rw [AV.swL_eq, AV.swL_eq]
    refine .clo (by simp [hs]) (fun k u c hu hc => ?_) (by simp [ht]) (fun k u c hu hc => ?_)
    · rw [List.getElem?_map] at hc
      obtain ⟨c', hc', rfl⟩ := Option.map_eq_some_iff.1 hc
      exact ih k u c' hu hc'
    · rw [List.getElem?_map] at hc
      obtain ⟨c', hc', rfl⟩ := Option.map_eq_some_iff.1 hc
      exact ih' k u c' hu hc'
  | mapr hl hκ => exact .mapr ((lb_sw i j _).2 (by rw [swN_sw]; exact hl)) (by show κ (swN i j (swN i j _)) = _; rw [swN_sw]; exact hκ)
  | yld hl hκ => exact .yld ((lb_sw i j _).2 (by rw [swN_sw]; exact hl)) (by show κ (swN i j (swN i j _)) = _; rw [swN_sw]; exact hκ)
theorem noOwn_sw (i j : Nat) (v : AV) : (v.sw i j).noOwn = v.noOwn := by cases v <;> rfl
theorem ObIs.sw (i j : Nat) {x : Nat} {o : Ob} (h : ObIs (δ.cx g κ) w x o) : ObIs ((δ.sw i j).cx g (swK i j κ)) w (swN i j x) (o.sw i j) := by
  have hκ : ∀ y, ((δ.sw i j).cx g (swK i j κ)).κ (swN i j y) = κ y := fun y => by show κ (swN i j (swN i j y)) = _; rw [swN_sw]
  cases o with
  | row =>
    intro b hb
    rw [hκ] at hb
    exact h b hb
  | box cs =>
    obtain ⟨b, c, e, h1, h2, h3, h4⟩ := h
    show ObIs _ _ _ (.box (AV.swL i j cs))
    rw [AV.swL_eq]
    refine ⟨b, c, e, (hκ x).trans h1, h2, by simp [h3], fun k u av h5 h6 => ?_⟩
    rw [List.getElem?_map] at h6
    obtain ⟨c', hc', rfl⟩ := Option.map_eq_some_iff.1 h6
    exact ⟨ra_sw i j (h4 k u c' h5 hc').1, (h4 k u c' h5 hc').2⟩
  | mp l =>
    obtain ⟨b, es, clock, h1, h2, h3, h4, h5⟩ := h
    refine ⟨b, es, clock, (hκ x).trans h1, h2, ⟨by simp [h3.1], fun k e p h6 h7 => ?_⟩, h4, fun p hp => ?_⟩
    · rw [List.getElem?_map] at h7
      obtain ⟨p', hp', rfl⟩ := Option.map_eq_some_iff.1 h7
      exact ⟨(h3.2 k e p' h6 hp').1, ra_sw i j (h3.2 k e p' h6 hp').2⟩
    · obtain ⟨p', hp', rfl⟩ := List.mem_map.1 hp
      show (p'.2.sw i j).noOwn = true
      rw [noOwn_sw]; exact h5 p' hp'
  | mpl l kk v =>
    obtain ⟨b, es, clock, h1, h2, h3, h4, h5⟩ := h
    refine ⟨b, es, clock, (hκ x).trans h1, h2, ⟨by simpa using h3.1, fun k e p h6 h7 => ?_⟩, h4, fun p hp => ?_⟩
    · have h8 : ((l ++ [(kk, v)]).map fun p => (p.1, p.2.sw i j))[k]? = some p := by simpa using h7
      rw [List.getElem?_map] at h8
      obtain ⟨p', hp', rfl⟩ := Option.map_eq_some_iff.1 h8
      exact ⟨(h3.2 k e p' h6 hp').1, ra_sw i j (h3.2 k e p' h6 hp').2⟩
    · obtain ⟨p', hp', rfl⟩ := List.mem_map.1 hp
      show (p'.2.sw i j).noOwn = true
      rw [noOwn_sw]; exact h5 p' hp'
  | it l seen =>
    obtain ⟨b, h1, h2⟩ := h
    exact ⟨b, (hκ x).trans h1, h2.mono (Nat.le_refl _) (fun b _ hb => ⟨(N_sw i j b).2 hb, rfl⟩) rfl⟩
  | loop l tm ps asg body st =>
    obtain ⟨b, r, h1, h2⟩ := h
    exact ⟨b, r, (hκ x).trans h1, h2⟩
/-- two names exchanged. -/
theorem Rel.sw (i j : Nat) (hi : i < δ.nx) (hj : j < δ.nx) (hw : ∀ k, g.wt = some k → k.2.2 ≤ i ∧ k.2.2 ≤ j) (r : Rel g δ κ a w) : Rel g (δ.sw i j) (swK i j κ) a w where
  n := r.n
  dfr := r.dfr
  env := fun k => by
    have e : (δ.sw i j).get k = (δ.get k).sw i j := look_sw i j k δ.env
    rw [e]; exact ra_sw i j (r.env k)
  obj := fun x o h => by
    rw [ob_sw] at h
    obtain ⟨o', ho', rfl⟩ := Option.map_eq_some_iff.1 h
    have := (r.obj _ o' ho').sw i j
    rwa [swN_sw] at this
  inj := fun x y b hx hy h1 h2 => by
    have := r.inj _ _ b ((live_sw i j x).1 hx) ((live_sw i j y).1 hy) h1 h2
    rw [← swN_sw i j x, this, swN_sw]
  lo := fun x b hx h1 => r.lo _ b ((live_sw i j x).1 hx) h1
  nx := fun x hx => by
    have := r.nx _ ((live_sw i j x).1 hx)
    show x < δ.nx
    rw [swN_if] at this
    split at this
    · omega
    · split at this <;> omega
  wt := fun k hk => by
    obtain ⟨h1, h2⟩ := hw k hk
    refine ⟨(r.wt k hk).1, fun x b hx hor hκ => (r.wt k hk).2 (swN i j x) b ((live_sw i j x).1 hx) ?_ hκ⟩
    rcases hor with hor | hor
    · exact .inl ((lr_sw i j x).1 hor)
    · right
      rw [swN_if]
      split
      · exact h2
      · split
        · exact h1
        · exact hor
  below := r.below
  hB := r.hB
  N0 := r.N0
namespace Nf
variable {n x : Nat} {e : List (Nat × AV)} {o : List (Nat × Option Ob)} {i j k : Nat}
theorem sw : DS.sw ⟨n, e, o, x⟩ i j = ⟨n, swE i j e, swO i j o, x⟩ := rfl
theorem swE0 : swE i j [] = [] := rfl
theorem swE1 (v : AV) (r : List (Nat × AV)) : swE i j ((k, v) :: r) = (k, v.sw i j) :: swE i j r := rfl
theorem swO0 : swO i j [] = [] := rfl
theorem swOn (r : List (Nat × Option Ob)) : swO i j ((k, none) :: r) = (swN i j k, none) :: swO i j r := rfl
theorem swOr (r : List (Nat × Option Ob)) : swO i j ((k, some .row) :: r) = (swN i j k, some .row) :: swO i j r := rfl
theorem swOb (cs : List AV) (r : List (Nat × Option Ob)) : swO i j ((k, some (.box cs)) :: r) = (swN i j k, some (.box (AV.swL i j cs))) :: swO i j r := rfl
theorem swOi (l : List (Value × PV)) (s : List Nat) (r : List (Nat × Option Ob)) : swO i j ((k, some (.it l s)) :: r) = (swN i j k, some (.it l s)) :: swO i j r := rfl
theorem swOl (l tm ps asg body st) (r : List (Nat × Option Ob)) : swO i j ((k, some (.loop l tm ps asg body st)) :: r) = (swN i j k, some (.loop l tm ps asg body st)) :: swO i j r := rfl
theorem swL0 : AV.swL i j [] = [] := rfl
theorem swL1 (v : AV) (r : List AV) : AV.swL i j (v :: r) = v.sw i j :: AV.swL i j r := rfl
theorem swA0 : AV.sw i j .any = .any := rfl
theorem swA1 (p : PV) : AV.sw i j (.pv p) = .pv p := rfl
theorem swA2 (e m els) : AV.sw i j (.own k e m els) = .own (swN i j k) e m els := rfl
theorem swA3 (m : Nat) : AV.sw i j (.ptr k m) = .ptr (swN i j k) m := rfl
theorem swA4 (c : List PV) : AV.sw i j (.rptr c) = .rptr c := rfl
theorem swA5 (e m els m') : AV.sw i j (.optr k e m els m') = .optr (swN i j k) e m els m' := rfl
theorem swA6 (c : List AV) : AV.sw i j (.agg c) = .agg (AV.swL i j c) := rfl
theorem swA7 (c : List AV) : AV.sw i j (.tup c) = .tup (AV.swL i j c) := rfl
theorem swA8 (f) (c d : List AV) : AV.sw i j (.clo f c d) = .clo f (AV.swL i j c) (AV.swL i j d) := rfl
theorem swA9 : AV.sw i j (.mapr k) = .mapr (swN i j k) := rfl
theorem swAa : AV.sw i j (.yld k) = .yld (swN i j k) := rfl
theorem swNd : swN i j k = bif Nat.beq i k then j else bif Nat.beq j k then i else k := rfl
set_option linter.defProp false in
def swR := And.intro @sw (And.intro @swE0 (And.intro @swE1 (And.intro @swO0 (And.intro @swOn (And.intro @swOr (And.intro @swOb (And.intro @swOi (And.intro @swOl (And.intro @swL0 (And.intro @swL1 (And.intro @swA0 (And.intro @swA1 (And.intro @swA2 (And.intro @swA3 (And.intro @swA4 (And.intro @swA5 (And.intro @swA6 (And.intro @swA7 (And.intro @swA8 (And.intro @swA9 (And.intro @swAa @swNd)))))))))))))))))))))
end Nf
variable {k : Wt} {late : List Nat} {l : List Oper} {dn : List Nat} {QD : Exit → DS → Prop}
theorem AR.weakG {δ' : DS} (hw : ∀ g' : Ghost, (∀ k', g'.wt = some k' → k' = k) → Weak g' δ δ') (h : AR P g k late l QD dn δ') : AR P g k late l QD dn δ := by
  intro hdc κ a w r
  obtain ⟨κ', r'⟩ := hw _ (fun k' hk' => by
    have : (if lateIn late (setL l.length dn) = true then none else some k) = some k' := hk'
    split at this
    · cases this
    · cases this; rfl) κ a w r
  exact h hdc κ' a w r'
theorem AR.sw (i j : Nat) {m : Nat} (hk : k.2.2 = m) (hi : (Nat.ble m i && Nat.blt i δ.nx) = true) (hj : (Nat.ble m j && Nat.blt j δ.nx) = true) (h : AR P g k late l QD dn (δ.sw i j)) : AR P g k late l QD dn δ := by
  simp only [Bool.and_eq_true, Nat.ble_eq, Nat.blt_eq] at hi hj
  exact AR.weakG (fun g' hg κ a w r => ⟨_, r.sw i j hi.2 hj.2 fun k' hk' => by rw [hg k' hk', hk]; exact ⟨hi.1, hj.1⟩⟩) h
theorem setL_size (n : Nat) (d : List Nat) : (setL n d).size = n := by
  induction d with
  | nil => simp [setL]
  | cons i d ih => simp [setL, ih]
theorem setL_mask {n : Nat} {d d' : List Nat} (h : maskL n d = maskL n d') : setL n d = setL n d' := by
  apply Array.ext
  · rw [setL_size, setL_size]
  · intro i h1 h2
    have e1 := maskL_spec (n := n) (d := d) (j := i)
    have e2 := maskL_spec (n := n) (d := d') (j := i)
    rw [h] at e1
    rw [e1] at e2
    rw [Array.getD_eq_getD_getElem?, Array.getD_eq_getD_getElem?, Array.getElem?_eq_getElem h1, Array.getElem?_eq_getElem h2] at e2
    exact e2
theorem AR.perm {J : List Nat} (hm : (maskL l.length dn == maskL l.length J && Nat.beq dn.length J.length) = true) (h : AR P g k late l QD J δ) : AR P g k late l QD dn δ := by
  simp only [Bool.and_eq_true, beq_iff_eq] at hm
  have hm : maskL l.length dn = maskL l.length J ∧ dn.length = J.length := ⟨hm.1, Nat.eq_of_beq_eq_true hm.2⟩
  have e := setL_mask hm.1
  intro hdc κ a w r
  rw [hm.2]
  have h1 := h (by rw [← e]; exact hdc) κ a w (by rw [← e]; exact r)
  rw [e]; exact h1
/-- all orders up to J come together. -/
theorem AR.cut (J : List Nat) {δc : DS} (h1 : AR P g k late l QD J δc → AR P g k late l QD dn δ) (h2 : AR P g k late l QD J δc) : AR P g k late l QD dn δ := h1 h2
theorem AR.meet {J : List Nat} {δc : DS} (hJ : AR P g k late l QD J δc) (hm : (maskL l.length dn == maskL l.length J && Nat.beq dn.length J.length) = true) (hw : ∀ g' : Ghost, Weak g' δ δc) : AR P g k late l QD dn δ :=
  AR.weakG (fun g' _ => hw g') (AR.perm hm hJ)
/-- three that may come up. -/
theorem AR.step3M {i j m : Nat} {o p q : Oper} (hl : Nat.blt dn.length l.length = true) (hr : (readyM (maskL l.length dn) 0 l == [i, j, m]) = true) (ho : l[i]? = some o) (hp : l[j]? = some p) (hq : l[m]? = some q)
    (h : ∀ g' : Ghost, g'.ro = g.ro → (∀ j, k.2.2 ≤ j → g'.wtOk j) → AOps .plain P g' l.toArray [o] (onlyN (AR P g k late l QD (i :: dn))) δ)
    (h' : ∀ g' : Ghost, g'.ro = g.ro → (∀ j, k.2.2 ≤ j → g'.wtOk j) → AOps .plain P g' l.toArray [p] (onlyN (AR P g k late l QD (j :: dn))) δ)
    (h'' : ∀ g' : Ghost, g'.ro = g.ro → (∀ j, k.2.2 ≤ j → g'.wtOk j) → AOps .plain P g' l.toArray [q] (onlyN (AR P g k late l QD (m :: dn))) δ) : AR P g k late l QD dn δ :=
  AR.all hl (readyIs_M hr) (by simp) fun i' hi' => by
    have hw : ∀ i', ∀ j, k.2.2 ≤ j → (gOf g k late (setL l.length (i' :: dn))).wtOk j := by
      intro i' j hj k' hk'
      have : (if lateIn late (setL l.length (i' :: dn)) = true then none else some k) = some k' := hk'
      split at this
      · cases this
      · cases this; exact hj
    simp only [List.mem_cons, List.not_mem_nil, or_false] at hi'
    rcases hi' with rfl | rfl | rfl
    · exact ⟨o, ho, h _ rfl (hw _)⟩
    · exact ⟨p, hp, h' _ rfl (hw _)⟩
    · exact ⟨q, hq, h'' _ rfl (hw _)⟩
/-! ### what lies shadowed is left out -/
def memB (k : Nat) : List Nat → Bool
  | [] => false
  | x :: r => bif Nat.beq x k then true else memB k r
def ddE (s : List Nat) : List (Nat × AV) → List (Nat × AV)
  | [] => []
  | (k, v) :: r => bif memB k s then ddE s r else (k, v) :: ddE (k :: s) r
def ddO (s : List Nat) : List (Nat × Option Ob) → List (Nat × Option Ob)
  | [] => []
  | (k, v) :: r => bif memB k s then ddO s r else (k, v) :: ddO (k :: s) r
theorem memB_iff {k : Nat} : ∀ {s : List Nat}, memB k s = true ↔ k ∈ s
  | [] => by simp [memB]
  | x :: r => by
    unfold memB
    by_cases h : x = k
    · subst h; simp
    · rw [beq_ne h, cond_false, memB_iff, List.mem_cons]
      constructor
      · exact .inr
      · rintro (h' | h')
        · exact absurd h'.symm h
        · exact h'
theorem look_ddE {j : Nat} : ∀ {e : List (Nat × AV)} {s : List Nat}, j ∉ s → look (ddE s e) j = look e j
  | [], _, _ => rfl
  | (k, v) :: r, s, h => by
    unfold ddE
    cases hm : memB k s with
    | true =>
      have : k ≠ j := by rintro rfl; exact h (memB_iff.1 hm)
      rw [cond_true, look_cons, if_neg this, look_ddE h]
    | false =>
      rw [cond_false, look_cons, look_cons]
      by_cases e : k = j
      · rw [if_pos e, if_pos e]
      · rw [if_neg e, if_neg e, look_ddE (by simp only [List.mem_cons, not_or]; exact ⟨fun h' => e h'.symm, h⟩)]
theorem lookOb_ddO {j : Nat} : ∀ {e : List (Nat × Option Ob)} {s : List Nat}, j ∉ s → lookOb (ddO s e) j = lookOb e j
  | [], _, _ => rfl
  | (k, v) :: r, s, h => by
    unfold ddO
    cases hm : memB k s with
    | true =>
      have : k ≠ j := by rintro rfl; exact h (memB_iff.1 hm)
      rw [cond_true, lookOb_cons, if_neg this, lookOb_ddO h]
    | false =>
      rw [cond_false, lookOb_cons, lookOb_cons]
      by_cases e : k = j
      · rw [if_pos e, if_pos e]
      · rw [if_neg e, if_neg e, lookOb_ddO (by simp only [List.mem_cons, not_or]; exact ⟨fun h' => e h'.symm, h⟩)]
def DS.dd (δ : DS) : DS := ⟨δ.n, ddE [] δ.env, ddO [] δ.objs, δ.nx⟩
theorem Rel.congr {δ' : DS} (hn : δ'.n = δ.n) (hx : δ'.nx = δ.nx) (he : ∀ j, δ'.get j = δ.get j) (ho : ∀ j, δ'.ob j = δ.ob j) (r : Rel g δ κ a w) : Rel g δ' κ a w := by
  have hob : δ'.ob = δ.ob := funext ho
  have hl : δ'.live = δ.live := by unfold DS.live; rw [hob]
  have hlr : δ'.lr = δ.lr := by unfold DS.lr; rw [hob]
  have hlb : δ'.lb = δ.lb := by unfold DS.lb; rw [hob]
  have hcx : δ'.cx g κ = δ.cx g κ := by unfold DS.cx; rw [hl, hlr, hlb]
  exact
    { n := r.n.trans hn.symm, dfr := r.dfr
      env := fun j => by rw [hcx, he]; exact r.env j
      obj := fun i o h => by rw [hcx]; rw [ho] at h; exact r.obj i o h
      inj := by rw [hl]; exact r.inj
      lo := by rw [hl]; exact r.lo
      nx := by rw [hl, hx]; exact r.nx
      wt := by rw [hl, hlr]; exact r.wt
      below := r.below, hB := r.hB, N0 := r.N0 }
theorem Weak.dd : Weak g δ δ.dd := fun κ _ _ r => ⟨κ, Rel.congr (δ := δ) (δ' := δ.dd) rfl rfl (fun j => look_ddE (s := []) (by simp)) (fun j => lookOb_ddO (s := []) (by simp)) r⟩
theorem AR.dd (h : AR P g k late l QD dn δ.dd) : AR P g k late l QD dn δ := AR.weakG (fun _ _ => Weak.dd) h
def ddEc (b : Bool) (s : List Nat) (k : Nat) (v : AV) (r : List (Nat × AV)) : List (Nat × AV) := bif b then ddE s r else (k, v) :: ddE (k :: s) r
def ddOc (b : Bool) (s : List Nat) (k : Nat) (v : Option Ob) (r : List (Nat × Option Ob)) : List (Nat × Option Ob) := bif b then ddO s r else (k, v) :: ddO (k :: s) r
namespace Nf
variable {n x : Nat} {e : List (Nat × AV)} {o : List (Nat × Option Ob)} {i j m : Nat}
theorem dd : DS.dd ⟨n, e, o, x⟩ = ⟨n, ddE [] e, ddO [] o, x⟩ := rfl
theorem ddE0 (s : List Nat) : ddE s [] = [] := rfl
theorem ddE1 (s : List Nat) (v : AV) (r : List (Nat × AV)) : ddE s ((m, v) :: r) = ddEc (memB m s) s m v r := rfl
theorem ddEt (s : List Nat) (v : AV) (r : List (Nat × AV)) : ddEc true s m v r = ddE s r := rfl
theorem ddEf (s : List Nat) (v : AV) (r : List (Nat × AV)) : ddEc false s m v r = (m, v) :: ddE (m :: s) r := rfl
theorem ddO0 (s : List Nat) : ddO s [] = [] := rfl
theorem ddO1 (s : List Nat) (v : Option Ob) (r : List (Nat × Option Ob)) : ddO s ((m, v) :: r) = ddOc (memB m s) s m v r := rfl
theorem ddOt (s : List Nat) (v : Option Ob) (r : List (Nat × Option Ob)) : ddOc true s m v r = ddO s r := rfl
theorem ddOf (s : List Nat) (v : Option Ob) (r : List (Nat × Option Ob)) : ddOc false s m v r = (m, v) :: ddO (m :: s) r := rfl
theorem me0 : memB m [] = false := rfl
theorem me1 (y : Nat) (r : List Nat) : memB m (y :: r) = bif Nat.beq y m then true else memB m r := rfl
set_option linter.defProp false in
def ddR := And.intro @dd (And.intro @ddE0 (And.intro @ddE1 (And.intro @ddEt (And.intro @ddEf (And.intro @ddO0 (And.intro @ddO1 (And.intro @ddOt (And.intro @ddOf (And.intro @me0 @me1)))))))))
end Nf
end Go.Ab
/- Maps from whole numbers to slices: elder entries told whole, the last one over a row of the walk's own. -/
namespace Go.Ab
open Go Go.RowKit
variable {q : Md} {P : Program} {g : Ghost} {δ : DS} {κ : Nat → Option Nat} {a : Act} {w : World}
variable {gd : Option (Tmp × Bool)} {ops : Array Oper} {rest : List Oper} {Q : Exit → DS → Prop} {dst : Option Nat} {ty : TypeId} {pos : String} {af : Array Edge}
/-- rows told whole, by their keys. -/
def rowsM (D : List (Int × List Int)) : List (Int × AV) := D.map fun p => (p.1, .pv (ints p.2))
theorem rows_ids (D : List (Int × List Int)) (A B : Nat → Bool) : ∀ p ∈ mpI (rowsM D), p.2.ids A B = true := by
  intro p hp
  simp only [mpI, rowsM, List.map_map, List.mem_map] at hp
  obtain ⟨x, _, rfl⟩ := hp
  rfl
theorem WO.rows0 {δ δ' : DS} {i : Nat} (h : δ.ob i = some (.mp (mpI []))) : WO δ δ' i (.mp (mpI (rowsM []))) := .mp h (fun p hp => by simp [mpI, rowsM] at hp)
theorem WO.rows {δ δ' : DS} {i : Nat} {D : List (Int × List Int)} (h : δ.ob i = some (.mp (mpI (rowsM D)))) : WO δ δ' i (.mp (mpI (rowsM D))) := .mp h (rows_ids D _ _)
/-- two objects' numbers exchanged. -/
theorem Weak.sw (i j : Nat) {δ δ' : DS} (hwt : g.wt = none) (hi : Nat.blt i δ.nx = true) (hj : Nat.blt j δ.nx = true) (h : Weak g (δ.sw i j) δ') : Weak g δ δ' :=
  fun _ a w r => h _ a w (r.sw i j (by simpa using hi) (by simpa using hj) (fun k hk => by rw [hwt] at hk; cases hk))
section
variable {k : Wt} {late : List Nat} {l : List Oper} {dn : List Nat} {QD : Exit → DS → Prop}
end
end Go.Ab
/- v, is := m[k] over a map whose entries are told one by one. -/
namespace Go.Ab
open Go Go.RowKit
variable {q : Md} {P : Program} {g : Ghost} {δ : DS} {ops : Array Oper} {rest : List Oper} {Q : Exit → DS → Prop} {dst : Option Nat} {ty : TypeId} {pos : String} {af : Array Edge}
/-- an entry of a map's literal: a function; kept as a plain value. -/
abbrev fnV (f : Go.Fn) : AV := .pv (.lit (.func f #[] #[]))
theorem ra_fn {C : Cx} {w : World} {u : Value} {f : Go.Fn} (h : RA C w u (.clo f [] [])) : u = .func f #[] #[] := by
  cases h with
  | clo hs h ht h' =>
    rename_i vs us
    have e1 : vs = #[] := Array.eq_empty_of_size_eq_zero (by simpa using hs)
    have e2 : us = #[] := Array.eq_empty_of_size_eq_zero (by simpa using ht)
    rw [e1, e2]
theorem lookI_of_at : ∀ {l : List (Int × AV)} {j : Nat} {m : Int} {v : AV}, l[j]? = some (m, v) → lookI l m ≠ none
  | [], j, m, v, h => by simp at h
  | (k, u) :: l, 0, m, v, h => by
    simp at h
    obtain ⟨rfl, rfl⟩ := h
    simp [lookI]
  | (k, u) :: l, j + 1, m, v, h => by
    unfold lookI
    split
    · simp
    · exact lookI_of_at (by simpa using h)
theorem ra_litv {C : Cx} {w : World} {u v : Value} (h : RA C w u (.pv (.lit v))) : u = v := by
  cases h with
  | pv h => cases h; rfl
theorem Eff.insertF {gd : Option (Tmp × Bool)} {x y z : Operand} {t kt et : TypeId} {i : Nat} {l : List (Int × AV)} {m : Int} {f : Go.Fn} (hx : δ.ev x = .mapr i) (hob : δ.ob i = some (.mp (mpI l))) (hy : δ.ev y = litI m) (hz : δ.ev z = .clo f [] []) (ht : P.underlying t = some (.map kt et)) (hk : P.underlying kt = some (.int .i64))
    (ho : okT x = true) (ho' : okT y = true) (hoz : okT z = true) (hd : okD δ.n dst = true) (hwk : g.wtOk i) (hn : lookI l m = none) :
    Eff P g ⟨dst, .insert t x y z, ty, pos, af, gd⟩ δ ((δ.setOb i (some (.mp (mpI (l ++ [(m, fnV f)]))))).putd dst .any) := by
  intro κ a w r
  obtain ⟨b, es, clock, h1, h2, h3, h4, h5, hnoo⟩ := r.mpo (r.ra hx ho) hob
  obtain ⟨h6, h7⟩ := h4.mpI
  have hzv : RA (δ.cx g κ) w (a.eval z) (fnV f) := by rw [ra_fn (r.ra hz hoz)]; exact .pv (.lit _)
  have hik : MapKept.IsKey (.int .i64) (.int .i64 m) := by simp [MapKept.IsKey]
  have hck : ∀ e, (Instr.checkKey e (9999 + 1) kt (.int .i64 m)).run P w = .ok () w := fun e => MapKept.run_checkKey hk hik e 9999
  rcases findNow_first m es.toList l 0 h6 h7 with ⟨h8, h9⟩ | ⟨j, e, u, h9, h10, h11, h12, h13⟩
  · have hrun : (execOp a.eval ⟨dst, .insert t x y z, ty, pos, af, gd⟩).run P w = .ok .skip { w with heap := w.heap.setIfInBounds b (.map (es.push { key := .int .i64 m, val := a.eval z, born := clock }) (clock + 1)) } := by
      simp [execOp, r.lit hy ho', h1, Instr.mapUpdate, run_underlying ht, MapKept.run_getObj_map h3, hck, run_findMap hk h9, MapKept.run_setObj_map _ h3]
    obtain ⟨r', G⟩ := r.modify (o' := .mp (mpI (l ++ [(m, fnV f)]))) hob rfl rfl h2 hwk (Turns.setHeap w b (.map (es.push { key := .int .i64 m, val := a.eval z, born := clock }) (clock + 1))) (by simp) (fun C hC G => by
      have h14 : MapIs C { w with heap := w.heap.setIfInBounds b (.map (es.push { key := .int .i64 m, val := a.eval z, born := clock }) (clock + 1)) } es (mpI l) := h4.goes G
      obtain ⟨h15, h16⟩ := h14.push h5 m (G.ra hzv)
      exact ⟨b, _, _, by rw [hC]; exact h2, setHeap_same h3, h15, h16, fun p hp => by
        rw [mpI_append] at hp
        rcases List.mem_append.1 hp with hp | hp
        · exact hnoo p hp
        · simp [mpI] at hp; subst hp; rfl⟩)
    exact .inl ⟨_, _, _, _, hrun, .inr ⟨rfl, rfl⟩, r'.putd (okD_spec hd) (.any _)⟩
  · exfalso
    exact lookI_of_at h11 hn
theorem AOps.insertF {x y z : Operand} {t kt et : TypeId} {i : Nat} {l : List (Int × AV)} {m : Int} {f : Go.Fn} (hx : δ.ev x = .mapr i) (hob : δ.ob i = some (.mp (mpI l))) (hy : δ.ev y = litI m) (hz : δ.ev z = .clo f [] []) (ht : P.underlying t = some (.map kt et)) (hk : P.underlying kt = some (.int .i64))
    (ho : okT x = true) (ho' : okT y = true) (hoz : okT z = true) (hd : okD δ.n dst = true) (hwt : g.wt = none) (hn : lookI l m = none)
    (hK : AOps .plain P g ops rest Q ((δ.setOb i (some (.mp (mpI (l ++ [(m, fnV f)]))))).putd dst .any)) :
    AOps .plain P g ops (⟨dst, .insert t x y z, ty, pos, af, none⟩ :: rest) Q δ :=
  AOps.eff rfl rfl (Eff.insertF hx hob hy hz ht hk ho ho' hoz hd (wtOk_none hwt i) hn) hK
def fnL (l : List (Int × Go.Fn)) : List (Int × AV) := l.map fun p => (p.1, fnV p.2)
def fnP (l : List (Int × Go.Fn)) : List (Value × PV) := l.map fun p => (.int .i64 p.1, .lit (.func p.2 #[] #[]))
/-- a map of functions is told whole. -/
theorem WV.fns {δ' : DS} {i : Nat} {l : List (Int × Go.Fn)} (hb : δ.ob i = some (.mp (mpI (fnL l)))) (hd : δ'.ob i = none) : WV δ δ' (.mapr i) (.pv (.mp (fnP l))) :=
  .fmap hb hd (by simp [mpI, fnL, fnP]) (fun j p p' h1 h2 => by
    simp only [mpI, fnL, fnP, List.getElem?_map, Option.map_eq_some_iff] at h1 h2
    obtain ⟨a, ⟨b, hb, rfl⟩, rfl⟩ := h1
    obtain ⟨c, hc, rfl⟩ := h2
    obtain rfl : b = c := Option.some.inj (hb.symm.trans hc)
    exact ⟨rfl, .pv _⟩)
theorem told_fns {κ : Nat → Option Nat} {w : World} {v : Value} {l : List (Int × Go.Fn)} (h1 : RA (δ.cx g κ) w v (.pv (.mp (fnP l)))) : ∃ b es clock, v = .map (some b) ∧ (∀ w', Held δ κ w w' → w'.heap[b]? = some (.map es clock)) ∧ es.toList.length = (fnL l).length ∧
    ∀ (j : Nat) (e : MapEntry) (p : Int × AV), es.toList[j]? = some e → (fnL l)[j]? = some p → e.key = .int .i64 p.1 ∧ RA (δ.cx g κ) w e.val p.2 := by
  cases h1 with
  | pv h =>
    cases h with
    | mp b clock es hN hb hh hs hst hk hr =>
      refine ⟨b, es, clock, rfl, fun w' hw' => (hw' b hb (fun i hi => hN.2 i (DS.lr_live hi))).trans hh, by simpa [fnL, fnP] using hs, fun j e p h1 h2 => ?_⟩
      have h1' : es[j]? = some e := by simpa using h1
      simp only [fnL, List.getElem?_map, Option.map_eq_some_iff] at h2
      obtain ⟨a, ha, rfl⟩ := h2
      have h3 : (fnP l)[j]? = some (.int .i64 a.1, .lit (.func a.2 #[] #[])) := by simp [fnP, ha]
      exact ⟨hk j e _ h1' h3, .pv (hr j e _ h1' h3)⟩
/-- f, is := m[k] over a map of functions that is told. -/
theorem AOps.lookup_pfn {x y : Operand} {t kt et : TypeId} {l : List (Int × Go.Fn)} {m : Int} {z : Value} {f : Go.Fn} (hx : δ.ev x = .pv (.mp (fnP l))) (hy : δ.ev y = litI m) (ht : P.underlying t = some (.map kt et)) (hk : P.underlying kt = some (.int .i64)) (hz : (P.info? et).bind (·.zero) = some z)
    (ho : okT x = true) (ho' : okT y = true) (hd : okD δ.n dst = true) (hv : lookI (fnL l) m = some (fnV f)) (hK : AOps q P g ops rest Q (δ.putd dst (.tup [.clo f [] [], litB true]))) : AOps q P g ops (⟨dst, .lookup t x y true, ty, pos, af, none⟩ :: rest) Q δ :=
  AOps.valw _ hd (fun κ a w r => by
    obtain ⟨b, es, clock, h1, hb, h6, h7⟩ := told_fns (r.ra hx ho)
    rcases findNow_mp m es.toList (fnL l) 0 h6 h7 with ⟨h8, h9⟩ | ⟨j, e, v', h8, h9, h10, h11, h12⟩
    · rw [hv] at h8; cases h8
    · rw [hv] at h8; cases h8
      have he : e.val = .func f #[] #[] := ra_litv h12
      refine ⟨.tuple #[e.val, .bool true], fun w' hw' => ?_, .tup rfl (fun k u c h => ?_)⟩
      · have := run_lookup ht hk hz (hb w' hw') h9 true
        simp [execOp, r.lit hy ho', h1, this]
      · intro hc
        match k with
        | 0 => simp at h hc; subst h; subst hc; rw [he]; exact .clo rfl (fun j u c h => by simp at h) rfl (fun j u c h => by simp at h)
        | 1 => simp at h hc; subst h; subst hc; exact .pv (.lit _)
        | k + 2 => simp at hc) hK
theorem AOps.lookup_pno {x y : Operand} {t kt et : TypeId} {l : List (Int × Go.Fn)} {m : Int} {z : Value} (hx : δ.ev x = .pv (.mp (fnP l))) (hy : δ.ev y = litI m) (ht : P.underlying t = some (.map kt et)) (hk : P.underlying kt = some (.int .i64)) (hz : (P.info? et).bind (·.zero) = some z)
    (ho : okT x = true) (ho' : okT y = true) (hd : okD δ.n dst = true) (hv : lookI (fnL l) m = none) (hK : AOps q P g ops rest Q (δ.putd dst (.tup [.pv (.lit z), litB false]))) : AOps q P g ops (⟨dst, .lookup t x y true, ty, pos, af, none⟩ :: rest) Q δ :=
  AOps.valw _ hd (fun κ a w r => by
    obtain ⟨b, es, clock, h1, hb, h6, h7⟩ := told_fns (r.ra hx ho)
    rcases findNow_mp m es.toList (fnL l) 0 h6 h7 with ⟨h8, h9⟩ | ⟨j, e, v', h8, h9, h10, h11, h12⟩
    · refine ⟨.tuple #[z, .bool false], fun w' hw' => ?_, .tup rfl (fun k u c h => ?_)⟩
      · have := run_lookup ht hk hz (hb w' hw') h9 true
        simp [execOp, r.lit hy ho', h1, this]
      · intro hc
        match k with
        | 0 => simp at h hc; subst h; subst hc; exact .pv (.lit _)
        | 1 => simp at h hc; subst h; subst hc; exact .pv (.lit _)
        | k + 2 => simp at hc
    · rw [hv] at h8; cases h8) hK
/-- x[m:] of elements told one by one. -/
theorem AOps.slice_frL {t e : TypeId} {x z : Operand} {k : Nat} {m : Int} {els els' : List (List PV)} (hx : δ.ev x = .pv (.slice k els)) (hz : δ.ev z = litI m) (ht : P.underlying t = some (.slice e)) (hk : (P.info? e).map (·.size) = some k)
    (ho : okT x = true) (ho'' : okT z = true) (hd : okD δ.n dst = true) (h0 : (decide (0 ≤ m)) = true) (hn : Nat.ble m.toNat els.length = true) (hv : els.drop m.toNat = els') (hK : AOps q P g ops rest Q (δ.putd dst (.pv (.slice k els')))) :
    AOps q P g ops (⟨dst, .slice t x (some z) none none, ty, pos, af, none⟩ :: rest) Q δ :=
  AOps.slice (l := m.toNat) (h := els.length) (hi := none) (lo := some z) hx ht hk ⟨ho'', by rw [hz, Int.toNat_of_nonneg (by simpa using h0)]⟩ rfl (by simpa using hn) (Nat.le_refl _) ho hd (by
    have : (els.drop m.toNat).take (els.length - m.toNat) = els' := by rw [List.take_of_length_le (by simp), hv]
    rw [this]; exact hK)
/-- a branch whose Bool is known. -/
theorem AW.condYb {c : Operand} {x y : Code} {b : Bool} (ho : okT c = true) (hc : δ.ev c = litB b) (hb : b = true) (h1 : AW P g x Q δ) : AW P g (.cond c x y) Q δ := AW.condT hb ho hc h1
theorem AW.condNb {c : Operand} {x y : Code} {b : Bool} (ho : okT c = true) (hc : δ.ev c = litB b) (hb : b = false) (h1 : AW P g y Q δ) : AW P g (.cond c x y) Q δ := AW.condF hb ho hc h1
/-- a call by contract whose second argument is a function told by its name. -/
theorem AOps.callF {f fn : FuncId} {x : Operand} {tys : Array TypeId} {v r : AV} (hf : Fn P f [v, .clo (.func fn) [] []] r) (hargs : Args true δ [x] [v]) (hdet : r.det = true) (hd : okD δ.n dst = true) (hq : q ≠ .held)
    (hK : AOps q P g ops rest Q (δ.putd dst r)) : AOps q P g ops (⟨dst, .call { callee := .value (.func f), args := [x, .func fn].toArray, argTypes := tys }, ty, pos, af, none⟩ :: rest) Q δ := by
  intro κ a w r0
  have hc : ∀ w', Below w.heap.size w w' → Calls P f ([x, .func fn].toArray.map a.eval) w' fun e w'' => e = .returned r.out ∧ Below w'.heap.size w' w'' := fun w' hw' =>
    (hf.calls (fun _ => True) w' _ (fun _ _ => trivial) (by simp) (fun j u av h1 h2 => by
      match j with
      | 0 => exact hargs.ras (r0.ext hw') (fun _ _ _ => trivial) (fun _ _ _ _ _ => trivial) 0 u av (by simpa using h1) (by simpa using h2)
      | 1 =>
        simp at h1 h2
        subst h1; subst h2
        exact .clo rfl (fun j u c h => by simp at h) rfl (fun j u c h => by simp at h)
      | j + 2 => simp at h2)).mono (by
      rintro e w'' ⟨v, rfl, hv, hb⟩
      exact ⟨by rw [hv.det (AV.out_ra (C := pcx (fun _ => True)) (w := w) hdet) hdet], hb⟩)
  have hK1 := hK κ _ _ (r0.putd (okD_spec hd) (AV.out_ra hdet))
  cases q with
  | quiet =>
    show wpQuiet P ops _ _ (_ :: rest) a
    unfold wpQuiet
    rw [if_pos (by simp [Region.wanted])]
    refine ⟨r.out, fun w' hw' => ?_, hK1⟩
    unfold Oper.quietAt
    rw [run_call (f := f) rfl hf.enters]
    exact ⟨rfl, (hc w' hw').mono fun e w'' ⟨h1, h2⟩ => ⟨h1, hw'.trans (h2.mono hw'.size)⟩⟩
  | held => exact absurd rfl hq
  | plain =>
    show wpListIn _ _ P ops _ (_ :: rest) a w
    refine wpl_plain rfl rfl fun K hK' => ?_
    unfold Oper.wpF
    rw [run_call (f := f) rfl hf.enters, Oper.uponIn_enter]
    refine ⟨fun h => by simp at h, (callsIn_any (hc w (Below.refl _ _))).mono ?_⟩
    rintro e w' ⟨rfl, hb⟩
    exact hK' _ _ (hK κ _ _ ((r0.ext hb).putd (okD_spec hd) (AV.out_ra hdet)))
end Go.Ab
/- Strings: joined, compared, measured, indexed, cut; numbers of any kind compared. -/
namespace Go.Ab
open Go Go.RowKit
variable {q : Md} {P : Program} {g : Ghost} {δ : DS} {κ : Nat → Option Nat} {a : Act} {w : World}
variable {ops : Array Oper} {rest : List Oper} {Q : Exit → DS → Prop} {dst : Option Nat} {ty : TypeId} {pos : String} {af : Array Edge}
abbrev litS (s : ByteArray) : AV := .pv (.lit (.string s))
section strs
variable {x y : Operand} {t t' : TypeId} {s u : ByteArray} (hx : δ.ev x = litS s) (hy : δ.ev y = litS u) (ho : okT x = true) (ho' : okT y = true) (hd : okD δ.n dst = true)
include hx hy ho ho' hd
end strs
end Go.Ab
/- A struct stored into a part of a box: an element of an array, a struct's field that is a struct. -/
namespace Go.Ab
open Go Go.RowKit
/-- `PutP k cs l l'`: l' is l with the cells cs put at k. -/
inductive PutP : Nat → List AV → List AV → List AV → Prop where
  | nil {l} : PutP 0 [] l l
  | take {a b cs l l'} : PutP 0 cs l l' → PutP 0 (b :: cs) (a :: l) (b :: l')
  | skip {k a cs l l'} : PutP k cs l l' → PutP (k + 1) cs (a :: l) (a :: l')
theorem PutP.spec {k : Nat} {cs l l' : List AV} (h : PutP k cs l l') : k + cs.length ≤ l.length ∧ l'.length = l.length ∧ (∀ j, j < k → l'[j]? = l[j]?) ∧ (∀ j, k ≤ j → j < k + cs.length → l'[j]? = cs[j - k]?) ∧ (∀ j, k + cs.length ≤ j → l'[j]? = l[j]?) := by
  induction h with
  | nil => exact ⟨by simp, rfl, fun j h => rfl, fun j h1 h2 => by simp at h2, fun j h => rfl⟩
  | take _ ih =>
    obtain ⟨h1, h2, _, h4, h5⟩ := ih
    refine ⟨by simp at h1 ⊢; omega, by simp [h2], fun j h => by omega, fun j _ h => ?_, fun j h => ?_⟩
    · cases j with
      | zero => rfl
      | succ j => exact h4 j (by omega) (by simp at h ⊢; omega)
    · cases j with
      | zero => simp at h
      | succ j => exact h5 j (by simp at h ⊢; omega)
  | skip _ ih =>
    obtain ⟨h1, h2, h3, h4, h5⟩ := ih
    refine ⟨by simp at h1 ⊢; omega, by simp [h2], fun j h => ?_, fun j h0 h => ?_, fun j h => ?_⟩
    · cases j with
      | zero => rfl
      | succ j => exact h3 j (by omega)
    · cases j with
      | zero => omega
      | succ j =>
        rw [Nat.add_sub_add_right]
        exact h4 j (by omega) (by omega)
    · cases j with
      | zero => omega
      | succ j => exact h5 j (by omega)
variable {P : Program} {g : Ghost} {δ : DS} {ops : Array Oper} {rest : List Oper} {Q : Exit → DS → Prop} {dst : Option Nat} {ty : TypeId} {pos : String} {af : Array Edge} {gd : Option (Tmp × Bool)}
end Go.Ab
/- Callees that rewrite a row of numbers in place: Go's slices.Sort, slices.Compact. -/
namespace Go.Ab
open Go Go.RowKit
variable {P : Program} {g : Ghost} {δ : DS} {κ : Nat → Option Nat} {a : Act} {w : World}
def nI (z : Int) : List PV := [.lit (.int .i64 z)]
/-- f, called with a row of numbers zs, leaves (out zs) there and returns the first (ret zs) of them (none: nothing). -/
structure RowC (P : Program) (f : FuncId) (out : List Int → List Int) (ret : Option (List Int → Nat)) : Prop where
  enters : ∀ vals w, (callFunc f vals).run P w = .ok (.enter f vals) w
  len : ∀ zs, (out zs).length = zs.length
  retle : ∀ r, ret = some r → ∀ zs, r zs ≤ zs.length
  calls : ∀ (b cap : Nat) (zs : List Int) (w : World), Sort.Holds (Value.int .i64) w b 0 zs.toArray → b < w.heap.size → zs.length ≤ 140737488355328 → zs.length ≤ cap →
    Calls P f #[.slice (some ⟨b, 0, none⟩) zs.length cap] w fun e w' => e = .returned (match ret with | none => .tuple #[] | some r => .slice (some ⟨b, 0, none⟩) (r zs) cap) ∧
      ∃ n os, w' = Sort.grow (Sort.putRow (Value.int .i64) (Sort.ahead w n) b 0 (out zs).toArray) os
  nil : ∀ w, Calls P f #[.slice none 0 0] w fun e w' => e = .returned (match ret with | none => .tuple #[] | some _ => .slice none 0 0) ∧ Below w.heap.size w w'

theorem putRow_heap {w : World} {b n : Nat} {c : Array Value} {e : TypeId} {d : Array Int} {os : Array Obj} (h : w.heap[b]? = some (.cells c e (0, 0))) :
    (Sort.grow (Sort.putRow (Value.int .i64) (Sort.ahead w n) b 0 d) os).heap[b]? = some (.cells (Sort.putCells (Value.int .i64) 0 d c) e (0, 0)) := by
  have hb : b < w.heap.size := (Array.getElem?_eq_some_iff.1 h).1
  unfold Sort.grow Sort.putRow Sort.mapBlock Sort.ahead
  simp only
  rw [Array.getElem?_append_left (by simpa using hb), Array.getElem?_modify, if_pos rfl, h]
  rfl
theorem putRow_other {w : World} {b n k : Nat} {d : Array Int} {os : Array Obj} (hk : k < w.heap.size) (hne : b ≠ k) :
    (Sort.grow (Sort.putRow (Value.int .i64) (Sort.ahead w n) b 0 d) os).heap[k]? = w.heap[k]? := by
  unfold Sort.grow Sort.putRow Sort.mapBlock Sort.ahead
  simp only
  rw [Array.getElem?_append_left (by simpa using hk), Array.getElem?_modify, if_neg hne]
theorem putRow_turns (w : World) (b n : Nat) (d : Array Int) (os : Array Obj) : Turns w (Sort.grow (Sort.putRow (Value.int .i64) (Sort.ahead w n) b 0 d) os) (some b) :=
  ⟨rfl, rfl, rfl, by simp [Sort.grow, Sort.putRow, Sort.mapBlock, Sort.ahead], fun k hk hne => putRow_other hk (fun e => hne (by rw [e]))⟩
theorem putCells_take {c : Array Value} {d : List Int} (hc : d.length ≤ c.size) : (Sort.putCells (Value.int .i64) 0 d.toArray c).toList.take d.length = d.map (Value.int .i64) := by
  apply List.ext_getElem
  · simp [Sort.putCells]; omega
  · intro j h1 h2
    have hj : j < d.length := by simpa using h2
    simp [Sort.putCells, hj]
theorem xs_nums {w : World} {N : Nat → Prop} {xs : List Value} {zs : List Int} (hl : xs.length = zs.length * 1) (hx : ∀ i' j p, cellAt (zs.map nI) i' j = some p → ∃ u, xs[i' * 1 + j]? = some u ∧ RP N w u p) : xs = zs.map (Value.int .i64) := by
  apply List.ext_getElem
  · simp [hl]
  · intro j h1 h2
    have hj : j < zs.length := by simpa using h2
    obtain ⟨u, hu, hr⟩ := hx j 0 (.lit (.int .i64 zs[j])) (by simp [cellAt, hj, nI])
    cases hr
    rw [Nat.mul_one, Nat.add_zero, List.getElem?_eq_getElem h1] at hu
    simpa using hu
/-- the slots that held the row's slice hold it again. -/
def putAll (δ : DS) (v : AV) : List Nat → DS
  | [] => δ
  | t :: ts => (putAll δ v ts).put t v
theorem putAll_n (δ : DS) (v : AV) (ts : List Nat) : (putAll δ v ts).n = δ.n := by induction ts with | nil => rfl | cons t ts ih => exact ih
def allAt (δ : DS) (v : AV) : List Nat → Prop
  | [] => True
  | t :: ts => δ.get t = v ∧ allAt δ v ts
theorem cx_put (δ : DS) (t : Nat) (v : AV) : (δ.put t v).cx g κ = δ.cx g κ := rfl
theorem cx_putAll (δ : DS) (v : AV) : ∀ ts, (putAll δ v ts).cx g κ = δ.cx g κ
  | [] => rfl
  | t :: ts => by show ((putAll δ v ts).put t v).cx g κ = _; rw [cx_put, cx_putAll δ v ts]
theorem Rel.learn (r : Rel g δ κ a w) {t : Nat} {v : AV} (h : RA (δ.cx g κ) w (g.val a t) v) : Rel g (δ.put t v) κ a w where
  n := r.n
  dfr := r.dfr
  env := fun j => by
    rw [get_put]
    by_cases e : t = j
    · subst e; rw [if_pos rfl]; exact h
    · rw [if_neg e]; exact r.env j
  obj := r.obj
  inj := r.inj
  lo := r.lo
  nx := r.nx
  wt := r.wt
  below := r.below
  hB := r.hB
  N0 := r.N0
theorem Rel.learnAll (r : Rel g δ κ a w) {v : AV} : ∀ ts : List Nat, (∀ t ∈ ts, RA (δ.cx g κ) w (g.val a t) v) → Rel g (putAll δ v ts) κ a w
  | [], _ => r
  | t :: ts, h => (Rel.learnAll r ts fun t ht => h t (by simp [ht])).learn (by rw [cx_putAll]; exact h t (by simp))
theorem allAt_mem {δ : DS} {v : AV} : ∀ {ts : List Nat}, allAt δ v ts → ∀ t ∈ ts, δ.get t = v
  | [], _, t, h => by simp at h
  | x :: ts, h, t, ht => by
    rcases List.mem_cons.1 ht with rfl | ht
    · exact h.1
    · exact allAt_mem h.2 t ht
variable {ops : Array Oper} {rest : List Oper} {Q : Exit → DS → Prop} {dst : Option Nat} {ty : TypeId} {pos : String} {af : Array Edge} {gd : Option (Tmp × Bool)}
/-- what such a callee hands back. -/
def rowRet (i : Nat) (e : TypeId) (zs os : List Int) : Option (List Int → Nat) → AV
  | none => .tup []
  | some r => .own i e 1 ((os.take (r zs)).map nI)
theorem OwnV.nums {C : Cx} {w : World} {v : Value} {i : Nat} {e : TypeId} {zs : List Int} (h : OwnV C w v i e 1 (zs.map nI)) :
    (v = .slice none 0 0 ∧ zs = []) ∨ ∃ b cap c, v = .slice (some ⟨b, 0, none⟩) zs.length cap ∧ C.κ i = some b ∧ C.B ≤ b ∧ w.heap[b]? = some (.cells c e (0, 0)) ∧ zs.length ≤ cap ∧ cap ≤ maxLen ∧ c.size = cap ∧ c.toList.take zs.length = zs.map (Value.int .i64) := by
  obtain ⟨xs, ⟨hl, hown⟩, _, hx⟩ := h.row
  rw [List.length_map] at hl hown
  have hxs := xs_nums hl hx
  rcases hown with ⟨rfl, h0⟩ | ⟨b, cap, c, rfl, h1, h2, h3, h4, h5, h6⟩
  · exact .inl ⟨rfl, List.eq_nil_of_length_eq_zero h0⟩
  · refine .inr ⟨b, cap, c, rfl, h.blk b rfl, h1, h2, h3, h4, by omega, ?_⟩
    rw [← hxs, ← h6, Nat.mul_one]
theorem OwnV.mkNums {C : Cx} {w : World} {i b cap : Nat} {e : TypeId} {zs : List Int} {c : Array Value} (hl : C.Lr i) (hκ : C.κ i = some b) (hB : C.B ≤ b) (h2 : w.heap[b]? = some (.cells c e (0, 0))) (h3 : zs.length ≤ cap) (h4 : cap ≤ maxLen) (h5 : c.size = cap)
    (h6 : c.toList.take zs.length = zs.map (Value.int .i64)) (hlim : zs.length ≤ 140737488355328) : OwnV C w (.slice (some ⟨b, 0, none⟩) zs.length cap) i e 1 (zs.map nI) := by
  refine ⟨hl, by simpa using hlim, fun c hc => ?_, fun b' hb' => ?_, zs.map (Value.int .i64), ⟨by simp, .inr ⟨b, cap, c, by simp, hB, h2, by simpa using h3, h4, by omega, by simpa using h6⟩⟩, fun u hu => ?_, fun i' j p hp => ?_⟩
  · obtain ⟨z, _, rfl⟩ := List.mem_map.1 hc; rfl
  · cases hb'; exact hκ
  · obtain ⟨z, _, rfl⟩ := List.mem_map.1 hu; rfl
  · unfold cellAt at hp
    rw [List.getElem?_map] at hp
    cases hz : zs[i']? with
    | none => rw [hz] at hp; simp at hp
    | some z =>
      rw [hz] at hp
      cases j with
      | zero =>
        simp [nI] at hp
        subst hp
        exact ⟨.int .i64 z, by rw [Nat.mul_one, Nat.add_zero, List.getElem?_map, hz]; rfl, .lit _⟩
      | succ j => simp [nI] at hp
theorem Eff.rowC {f : FuncId} {x : Operand} {tys : Array TypeId} {out : List Int → List Int} {ret : Option (List Int → Nat)} (hf : RowC P f out ret) (ts : List Nat) {i : Nat} {e : TypeId} {zs : List Int} (hx : δ.ev x = .own i e 1 (zs.map nI)) (hts : allAt δ (.own i e 1 (zs.map nI)) ts) (hr : δ.ob i = some .row)
    (ho : okT x = true) (hd : okD δ.n dst = true) :
    Eff P g ⟨dst, .call { callee := .value (.func f), args := #[x], argTypes := tys }, ty, pos, af, none⟩ δ ((putAll (δ.mapV (AV.kill i)) (.own i e 1 ((out zs).map nI)) ts).putd dst (rowRet i e zs (out zs) ret)) := by
  intro κ a w r
  right
  have hxv := (r.ra hx ho).own_inv
  have hrun := run_call (dst := dst) (ty := ty) (pos := pos) (af := af) (xs := #[x]) (tys := tys) (ρ := a.eval) (x := .func f) (f := f) rfl hf.enters w
  have hlim : zs.length ≤ 140737488355328 := by simpa using hxv.lim
  refine ⟨f, #[a.eval x], by simpa using hrun, ?_⟩
  have hnn : ∀ ts, okD (putAll (δ.mapV (AV.kill i)) (.own i e 1 ((out zs).map nI)) ts).n dst = true := fun ts => by rw [putAll_n]; exact hd
  have hlr : ∀ κ', ((δ.mapV (AV.kill i)).cx g κ').Lr i := fun κ' => by
    show (δ.mapV (AV.kill i)).ob i = some .row
    rw [ob_mapV, hr]; rfl
  have hoth : ∀ t ∈ ts, OwnV (δ.cx g κ) w (g.val a t) i e 1 (zs.map nI) := fun t ht => by
    have := r.env t
    rw [allAt_mem hts t ht] at this
    exact this.own_inv
  have hnil : ∀ {w' : World}, OwnV ((δ.mapV (AV.kill i)).cx g κ) w' (.slice none 0 0) i e 1 (([] : List Int).map nI) := fun {w'} =>
    ⟨hlr κ, (by simp), (fun c hc => by simp at hc), (fun b hb => by cases hb), ⟨[], ⟨by simp, .inl ⟨rfl, rfl⟩⟩, (fun u hu => by simp at hu), (fun i' j p hp => by simp [cellAt] at hp)⟩⟩
  rcases hxv.nums with ⟨hv, rfl⟩ | ⟨b, cap, c, hv, hκ, hB, hb, hcap, hmax, hcs, htk⟩
  · -- nothing there
    rw [hv]
    refine (hf.nil w).mono fun e' w' ⟨he, hbel⟩ => ?_
    have r1 := r.ext hbel
    have e0 : out [] = [] := List.eq_nil_of_length_eq_zero (by rw [hf.len]; rfl)
    have rk : Rel g (δ.mapV (AV.kill i)) κ a w' := by
      refine (r1.row hr (κ' := κ) (fun _ _ => rfl) ⟨rfl, rfl, rfl, Nat.le_refl _, fun _ _ _ => rfl⟩ (fun b hb' => ?_) (AV.kill i) rfl (fun G v av h => h.kill G)).1
      obtain ⟨c, e', h1⟩ := r1.obj i .row hr b hb'
      exact ⟨.inl hb', (Array.getElem?_eq_some_iff.1 h1).1, c, e', h1⟩
    have ra : Rel g (putAll (δ.mapV (AV.kill i)) (.own i e 1 ((out []).map nI)) ts) κ a w' := by
      refine rk.learnAll ts fun t ht => .own ?_
      have h1 := r1.env t
      rw [allAt_mem hts t ht] at h1
      rw [e0]
      rcases h1.own_inv.nums with ⟨h2, _⟩ | ⟨b, cap, c, h2, hκ, hB, hb, hcap, hmax, hcs, htk⟩
      · rw [h2]; exact hnil
      · rw [h2]; exact OwnV.mkNums (hlr κ) hκ hB hb hcap hmax hcs htk (by simp)
    refine ⟨_, κ, he, ra.putd (okD_spec (hnn ts)) ?_⟩
    cases ret with
    | none => exact .tup rfl (fun j u c h => by simp at h)
    | some rr =>
      show RA _ _ _ (.own i e 1 (((out []).take (rr [])).map nI))
      rw [e0, cx_putAll]
      exact .own (by simpa using hnil)
  · rw [hv]
    have hκ0 : κ i = some b := hκ
    have hblt : b < w.heap.size := (Array.getElem?_eq_some_iff.1 hb).1
    have hold : Sort.Holds (Value.int .i64) w b 0 zs.toArray := by
      intro j hj
      have hj' : j < zs.length := by simpa using hj
      refine ⟨?_, by rw [Nat.zero_add]; exact frozen_of hb _⟩
      rw [Nat.zero_add, cell_of hb]
      have h1 : (c.toList.take zs.length)[j]? = (zs.map (Value.int .i64))[j]? := by rw [htk]
      rw [List.getElem?_take, if_pos hj', Array.getElem?_toList, List.getElem?_map, List.getElem?_eq_getElem hj'] at h1
      rw [h1]
      simp [hj']
    refine (hf.calls b cap zs w hold hblt hlim hcap).mono fun e' w' ⟨he, n, os, hw'⟩ => ?_
    have hh : w'.heap[b]? = some (.cells (Sort.putCells (Value.int .i64) 0 (out zs).toArray c) e (0, 0)) := by rw [hw']; exact putRow_heap hb
    have hsz : (Sort.putCells (Value.int .i64) 0 (out zs).toArray c).size = c.size := by simp [Sort.putCells]
    have htk2 := putCells_take (c := c) (d := out zs) (by rw [hf.len]; omega)
    have rk : Rel g (δ.mapV (AV.kill i)) κ a w' := by
      refine (r.row hr (κ' := κ) (fun _ _ => rfl) (by rw [hκ0, hw']; exact putRow_turns _ _ _ _ _) (fun b' hb' => ?_) (AV.kill i) rfl (fun G v av h => h.kill G)).1
      obtain rfl : b = b' := Option.some.inj (hκ.symm.trans hb')
      exact ⟨.inl hκ, (Array.getElem?_eq_some_iff.1 hh).1, _, _, hh⟩
    have ra : Rel g (putAll (δ.mapV (AV.kill i)) (.own i e 1 ((out zs).map nI)) ts) κ a w' := by
      refine rk.learnAll ts fun t ht => .own ?_
      rcases (hoth t ht).nums with ⟨h2, h0⟩ | ⟨b', cap', c', h2, hκ', hB', hb', hcap', hmax', hcs', htk'⟩
      · have e0 : out zs = [] := List.eq_nil_of_length_eq_zero (by rw [hf.len, h0]; rfl)
        rw [h2, e0]; exact hnil
      · obtain rfl : b = b' := Option.some.inj (hκ.symm.trans hκ')
        rw [hb] at hb'
        simp only [Option.some.injEq, Obj.cells.injEq] at hb'
        obtain ⟨rfl, _⟩ := hb'
        rw [h2, ← hf.len zs]
        exact OwnV.mkNums (hlr κ) hκ hB hh (by rw [hf.len]; exact hcap') hmax' (by omega) htk2 (by rw [hf.len]; exact hlim)
    refine ⟨_, κ, he, ra.putd (okD_spec (hnn ts)) ?_⟩
    rw [cx_putAll]
    cases ret with
    | none => exact .tup rfl (fun j u c h => by simp at h)
    | some rr =>
      have hle := hf.retle rr rfl zs
      have hl2 : ((out zs).take (rr zs)).length = rr zs := by rw [List.length_take, hf.len]; omega
      show RA _ _ (.slice (some ⟨b, 0, none⟩) (rr zs) cap) (.own i e 1 (((out zs).take (rr zs)).map nI))
      refine .own ?_
      have := OwnV.mkNums (C := (δ.mapV (AV.kill i)).cx g κ) (w := w') (i := i) (b := b) (cap := cap) (e := e) (zs := (out zs).take (rr zs)) (hlr κ) hκ hB hh (by omega) hmax (by omega)
        (by rw [hl2, List.map_take, ← htk2, List.take_take, hf.len, Nat.min_eq_left (by omega)]) (by omega)
      rwa [hl2] at this
theorem AOps.rowC {f : FuncId} {x : Operand} {tys : Array TypeId} {out : List Int → List Int} {ret : Option (List Int → Nat)} (hf : RowC P f out ret) (ts : List Nat) {i : Nat} {e : TypeId} {zs : List Int} (hx : δ.ev x = .own i e 1 (zs.map nI)) (hts : allAt δ (.own i e 1 (zs.map nI)) ts) (hr : δ.ob i = some .row)
    (ho : okT x = true) (hd : okD δ.n dst = true) (hK : AOps .plain P g ops rest Q ((putAll (δ.mapV (AV.kill i)) (.own i e 1 ((out zs).map nI)) ts).putd dst (rowRet i e zs (out zs) ret))) :
    AOps .plain P g ops (⟨dst, .call { callee := .value (.func f), args := #[x], argTypes := tys }, ty, pos, af, none⟩ :: rest) Q δ :=
  AOps.eff rfl rfl (Eff.rowC hf ts hx hts hr ho hd) hK
theorem enters_of {f : FuncId} {fn : Func} {c : Code} (hf : P.funcs[f]? = some fn) (hb : fn.body = some c) (he : (fn.name == "runtime.NumGoroutine") = false) : ∀ vals w, (callFunc f vals).run P w = .ok (.enter f vals) w := fun vals w => by
  simp [callFunc, hf, hb]; simpa using he
end Go.Ab
/- A row's first part; append of made zeros to nothing; a capacity. -/
namespace Go.Ab
open Go Go.RowKit
variable {q : Md} {P : Program} {g : Ghost} {δ : DS} {κ : Nat → Option Nat} {a : Act} {w : World}
variable {ops : Array Oper} {rest : List Oper} {Q : Exit → DS → Prop} {dst : Option Nat} {ty : TypeId} {pos : String} {af : Array Edge} {gd : Option (Tmp × Bool)}
namespace Nf
variable {n x : Nat} {e : List (Nat × AV)} {o : List (Nat × Option Ob)}
theorem pum (d : Nat) (v : AV) : DS.put ⟨n, e, o, x⟩ d v = ⟨n, (d, v) :: e, o, x⟩ := rfl
theorem pu0 (δ : DS) (v : AV) : putAll δ v [] = δ := rfl
theorem pu1 (δ : DS) (v : AV) (t : Nat) (ts : List Nat) : putAll δ v (t :: ts) = (putAll δ v ts).put t v := rfl
theorem rr0 (i : Nat) (e : TypeId) (zs os : List Int) : rowRet i e zs os none = .tup [] := rfl
theorem rr1 (i : Nat) (e : TypeId) (zs os : List Int) (r : List Int → Nat) : rowRet i e zs os (some r) = .own i e 1 ((os.take (r zs)).map nI) := rfl
set_option linter.defProp false in
def rwR := And.intro @pum (And.intro @pu0 (And.intro @pu1 (And.intro @rr0 @rr1)))
end Nf
end Go.Ab
/- Contracts of callees that return a row of their own making; the caller owns it from then on. -/
namespace Go.Ab
open Go Go.RowKit
variable {P : Program} {g : Ghost} {δ : DS} {κ : Nat → Option Nat} {a : Act} {w : World}
variable {ops : Array Oper} {rest : List Oper} {Q : Exit → DS → Prop} {dst : Option Nat} {ty : TypeId} {pos : String} {af : Array Edge}
/-- A row that a callee has made (or nothing). -/
theorem Rel.adoptB (r : Rel g δ κ a w) {w' : World} (hb : Below w.heap.size w w') (bo : Option Nat) (hbo : ∀ b, bo = some b → w.heap.size ≤ b ∧ b < w'.heap.size ∧ ∃ c e, w'.heap[b]? = some (.cells c e (0, 0))) :
    Rel g (δ.addOb .row) (upd κ δ.nx bo) a w' ∧ Goes (δ.cx g κ) w ((δ.addOb .row).cx g (upd κ δ.nx bo)) w' := by
  have hold : ∀ k, k < w.heap.size → w'.heap[k]? = w.heap[k]? := hb.block
  have hnl : ¬ δ.live δ.nx := fun h => Nat.lt_irrefl _ (r.nx _ h)
  have hne : ∀ i, δ.live i → δ.nx ≠ i := fun i h e => hnl (e ▸ h)
  have hlive : ∀ i, (δ.addOb .row).live i → i = δ.nx ∨ δ.live i := by
    intro i ⟨o', h⟩
    rw [ob_addOb] at h
    by_cases e : δ.nx = i
    · exact .inl e.symm
    · rw [if_neg e] at h; exact .inr ⟨o', h⟩
  have G : Goes (δ.cx g κ) w ((δ.addOb .row).cx g (upd κ δ.nx bo)) w' :=
    { B := rfl, size := hb.size
      N := fun b h1 h2 => ⟨⟨h2.1, fun i hi => by
        show upd κ δ.nx bo i ≠ some b
        rcases hlive i hi with rfl | hi
        · simp only [upd, if_true]; intro e; have := (hbo b e).1; omega
        · simp only [upd, hne i hi, if_false]; exact h2.2 i hi⟩, hold b h1⟩
      Lr := fun i hi => by
        have hi' := hne i (DS.lr_live hi)
        refine ⟨?_, by show upd _ _ _ i = κ i; simp [upd, hi'], fun b hκ => hold b (r.lo i b (DS.lr_live hi) hκ).2⟩
        show (δ.addOb .row).ob i = _
        rw [ob_addOb, if_neg hi']; exact hi
      Lb := fun i hi => by
        have hi' := hne i (DS.lb_live hi)
        refine ⟨?_, by show upd _ _ _ i = κ i; simp [upd, hi']⟩
        obtain ⟨o', h1, h2⟩ := hi
        exact ⟨o', by rw [ob_addOb, if_neg hi']; exact h1, h2⟩ }
  refine ⟨?_, G⟩
  exact
    { n := r.n, dfr := r.dfr.goes fun k _ hk => hold k (heap_lt hk), env := fun j => G.ra (r.env j)
      obj := fun i o' h => by
        rw [ob_addOb] at h
        by_cases e : δ.nx = i
        · rw [if_pos e] at h; cases h; subst e
          intro b hκ
          have hκ' : bo = some b := by
            have : upd κ δ.nx bo δ.nx = some b := hκ
            simpa [upd] using this
          exact (hbo b hκ').2.2
        · rw [if_neg e] at h
          exact (r.obj i o' h).goes G (by show upd _ _ _ i = κ i; simp [upd, e]) (fun b hκ => hold b (r.lo i b ⟨o', h⟩ hκ).2)
      inj := fun i j b h1 h2 h3 h4 => by
        rcases hlive i h1 with rfl | h1
        · rcases hlive j h2 with rfl | h2
          · rfl
          · simp only [upd, if_true] at h3
            simp only [upd, hne j h2, if_false] at h4
            exact absurd (r.lo j _ h2 h4).2 (by have := (hbo b h3).1; omega)
        · rcases hlive j h2 with rfl | h2
          · simp only [upd, if_true] at h4
            simp only [upd, hne i h1, if_false] at h3
            exact absurd (r.lo i _ h1 h3).2 (by have := (hbo b h4).1; omega)
          · simp only [upd, hne i h1, hne j h2, if_false] at h3 h4
            exact r.inj i j b h1 h2 h3 h4
      lo := fun i b h1 h2 => by
        rcases hlive i h1 with rfl | h1
        · simp only [upd, if_true] at h2
          have := hbo b h2
          have := r.hB
          omega
        · simp only [upd, hne i h1, if_false] at h2
          have := r.lo i b h1 h2
          have := hb.size
          omega
      nx := fun i h => by
        show i < δ.nx + 1
        rcases hlive i h with rfl | h
        · omega
        · have := r.nx i h; omega
      wt := fun k hk => ⟨fun b hkb => ⟨((r.wt k hk).1 b hkb).1, (hold b (wt_lt ((r.wt k hk).1 b hkb))).trans ((r.wt k hk).1 b hkb).2⟩, fun i b hl hi hκ hkb => by
        rcases hlive i hl with rfl | hi'
        · simp only [upd, if_true] at hκ
          have := (hbo b hκ).1
          exact absurd (wt_lt ((r.wt k hk).1 _ hkb)) (by omega)
        · simp only [upd, hne i hi', if_false] at hκ
          refine (r.wt k hk).2 i b hi' ?_ hκ hkb
          refine hi.imp (fun hi => ?_) id
          have hi2 : (δ.addOb .row).ob i = some .row := hi
          rw [ob_addOb, if_neg (hne i hi')] at hi2
          exact hi2⟩
      below := r.below.trans (hb.mono r.hB)
      hB := Nat.le_trans r.hB hb.size
      N0 := r.N0 }
/-- a fresh row: v is a slice over it. -/
structure Fresh (N : Nat → Prop) (w : World) (B : Nat) (v : Value) (e : TypeId) (k : Nat) (els : List (List PV)) : Prop where
  lim : els.length ≤ 140737488355328
  hk : ∀ c ∈ els, c.length = k
  row : ∃ xs, w.ownsRow B e k v els.length xs ∧ (∀ u ∈ xs, u.oneCell' = true) ∧ ∀ i' j p, cellAt els i' j = some p → ∃ u, xs[i' * k + j]? = some u ∧ RP (fun b => N b ∧ v.ownBlock ≠ some b) w u p
structure FnO (P : Program) (f : FuncId) (args : List AV) (e : TypeId) (k : Nat) (els : List (List PV)) : Prop where
  enters : ∀ vals w, (callFunc f vals).run P w = .ok (.enter f vals) w
  calls : ∀ (N : Nat → Prop) (w : World) (vals : Array Value), (∀ b, w.heap.size ≤ b → N b) → vals.size = args.length →
    (∀ (j : Nat) (v : Value) (av : AV), vals[j]? = some v → args[j]? = some av → RA (pcx N) w v av) →
    Calls P f vals w fun en w' => ∃ v, en = .returned v ∧ Below w.heap.size w w' ∧ Fresh N w' w.heap.size v e k els
theorem AOps.callo {f : FuncId} {xs : List Operand} {tys : Array TypeId} {args : List AV} {e : TypeId} {k : Nat} {els : List (List PV)} (hf : FnO P f args e k els) (hargs : Args false δ xs args) (hd : okD δ.n dst = true)
    (hK : AOps .plain P g ops rest Q ((δ.addOb .row).putd dst (.own δ.nx e k els))) : AOps .plain P g ops (⟨dst, .call { callee := .value (.func f), args := xs.toArray, argTypes := tys }, ty, pos, af, none⟩ :: rest) Q δ := by
  intro κ a w r0
  show wpListIn _ _ P ops _ (_ :: rest) a w
  refine wpl_plain rfl rfl fun K hK' => ?_
  unfold Oper.wpF
  rw [run_call (f := f) rfl hf.enters, Oper.uponIn_enter]
  refine ⟨fun h => by simp at h, (callsIn_any (hf.calls (fun b => (δ.cx g κ).N b ∨ w.heap.size ≤ b) w _ (fun _ h => .inr h) (by simp [hargs.len]) (hargs.ras r0 (fun _ _ h => .inl h) (fun h => by simp at h)))).mono ?_⟩
  rintro en w' ⟨v, rfl, hb, hv⟩
  have hbo : ∀ b, v.ownBlock = some b → w.heap.size ≤ b ∧ b < w'.heap.size ∧ ∃ c e, w'.heap[b]? = some (.cells c e (0, 0)) := by
    intro b hbv
    obtain ⟨xs, ⟨_, hown⟩, _⟩ := hv.row
    rcases hown with ⟨rfl, _⟩ | ⟨b0, cap, cur, rfl, h1, h2, _⟩
    · cases hbv
    · cases hbv
      exact ⟨h1, (Array.getElem?_eq_some_iff.1 h2).1, cur, e, h2⟩
  obtain ⟨r1, G⟩ := r0.adoptB hb v.ownBlock hbo
  refine hK' _ _ (hK _ _ _ (r1.putd (okD_spec hd) (.own ?_)))
  obtain ⟨xs, ⟨hxl, hown⟩, h1, hx⟩ := hv.row
  refine ⟨by show (δ.addOb .row).ob _ = _; rw [ob_addOb, if_pos rfl], hv.lim, hv.hk, fun b hbv => by show upd _ _ _ _ = _; simp [upd, hbv], xs, ⟨hxl, ?_⟩, h1, fun i' j p hp => ?_⟩
  · rcases hown with h | ⟨b0, cap, cur, h2, h3, h4⟩
    · exact .inl h
    · exact .inr ⟨b0, cap, cur, h2, Nat.le_trans r0.hB h3, h4⟩
  · obtain ⟨u, hu, hr⟩ := hx i' j p hp
    refine ⟨u, hu, hr.mono (Nat.le_refl _) fun b _ hN => ⟨?_, rfl⟩⟩
    have hlive : ∀ i, (δ.addOb .row).live i → i = δ.nx ∨ δ.live i := by
      intro i ⟨o', h⟩
      rw [ob_addOb] at h
      by_cases e : δ.nx = i
      · exact .inl e.symm
      · rw [if_neg e] at h; exact .inr ⟨o', h⟩
    have hnl : ∀ i, δ.live i → δ.nx ≠ i := fun i h e => Nat.lt_irrefl _ (r0.nx _ (e ▸ h))
    refine ⟨?_, fun i hi => ?_⟩
    · rcases hN.1 with h | h
      · exact h.1
      · exact r0.N0 b (Nat.le_trans r0.hB h)
    · show upd κ δ.nx v.ownBlock i ≠ some b
      rcases hlive i hi with rfl | hi
      · simp only [upd, if_true]; exact hN.2
      · simp only [upd, hnl i hi, if_false]
        rcases hN.1 with h | h
        · exact h.2 i hi
        · intro e
          have := (r0.lo i b hi e).2
          omega
/-- the function's end, a row handed out. -/
def EndsO (P : Program) (rs : List ResultVar) (e : TypeId) (k : Nat) (els : List (List PV)) : Exit → DS → Prop
  | .normal, δ | .ret, δ => (∃ i, Res P δ rs (.own i e k els)) ∨ (els = [] ∧ Res P δ rs (.pv (.lit (.slice none 0 0))))
  | _, _ => False
theorem FnO.enter {f : FuncId} {fn : Func} {c : Code} {rs : List ResultVar} {n : Nat} {args : List AV} {e : TypeId} {k : Nat} {els : List (List PV)} (hf : P.funcs[f]? = some fn) (hb : fn.body = some c) (hrs : fn.results = rs.toArray) (hn : fn.ntmps = n) (hna : Nat.ble args.length n = true)
    (hna' : Nat.ble n HS = true) (he : (fn.name == "runtime.NumGoroutine") = false) (h : ∀ g : Ghost, g.ro = none → g.wt = none → AW P g c (EndsO P rs e k els) (start n args)) : FnO P f args e k els := by
  refine ⟨fun vals w => by simp [callFunc, hf, hb]; simpa using he, fun N w vals hN hs hargs => ?_⟩
  have hle : args.length ≤ n := by simpa using hna
  have hnH : n ≤ HS := by simpa using hna'
  let g : Ghost := { B := w.heap.size, w0 := w, N0 := N, held := fun _ => undef, ro := none, mks := [], wt := none }
  have hnl : ∀ i, ¬ (start n args).live i := fun i ⟨o, h⟩ => by cases h
  refine callsIn_wide.1 (callsIn_of_wp_marks (n := 0) hf hb trivial (wpIn_mono (h g rfl rfl (fun _ => none) _ w ?_) ?_))
  · exact
    { n := by simp [hn, start]; omega
      dfr := ⟨[], rfl, by simp [g], by simp [g]⟩
      env := fun j => by
        by_cases hj : j < args.length
        · have h1 : (start n args).get j = args[j] := look_enum args 0 j _ (Nat.zero_le _) (by simp [hj])
          have h2 : g.val { tmps := vals ++ Array.replicate (fn.ntmps - vals.size) undef, defers := [] } j = vals[j]'(by omega) := by
            unfold Ghost.val
            rw [if_pos (by omega)]
            simp [Array.getD_eq_getD_getElem?, Array.getElem?_append, hs, hj]
          rw [h1, h2]
          exact (hargs j _ _ (Array.getElem?_eq_getElem (by omega)) (List.getElem?_eq_getElem hj)).of_pcx _ fun b _ h => ⟨h, fun i hi => absurd hi (hnl i)⟩
        · have h1 : (start n args).get j = .any := look_enum_out args 0 j (by omega)
          rw [h1]; exact .any _
      obj := fun i o h => by cases h
      inj := fun i j b h => absurd h (hnl i)
      lo := fun i b h => absurd h (hnl i)
      nx := fun i h => absurd h (hnl i)
      wt := fun k hk => by cases hk
      below := Below.refl _ _
      hB := Nat.le_refl _
      N0 := hN }
  · rintro ex a' w' ⟨δ', κ', hq, r'⟩
    have fin : ∀ i, Res P δ' rs (.own i e k els) → LeavesInM Fence.wide 0 P fn a'.tmps (fun en w' => ∃ v, en = .returned v ∧ Below w.heap.size w w' ∧ Fresh N w' w.heap.size v e k els) a'.defers .returning w' := by
      intro i h1
      exact leaves (g := g) rfl hrs h1 r' (fun w2 r2 u hu => by
        have ho := hu.own_inv
        refine ⟨u, rfl, r2.below, ho.lim, ho.hk, ?_⟩
        obtain ⟨xs, h3, h4, h5⟩ := ho.row
        refine ⟨xs, h3, h4, fun i' j p hp => ?_⟩
        obtain ⟨v, hv, hr⟩ := h5 i' j p hp
        refine ⟨v, hv, hr.mono (Nat.le_refl _) fun b _ hN => ⟨⟨hN.1, fun hb => ?_⟩, rfl⟩⟩
        exact hN.2 i (DS.lr_live ho.live) (ho.blk b hb))
    have finN : els = [] → Res P δ' rs (.pv (.lit (.slice none 0 0))) → LeavesInM Fence.wide 0 P fn a'.tmps (fun en w' => ∃ v, en = .returned v ∧ Below w.heap.size w w' ∧ Fresh N w' w.heap.size v e k els) a'.defers .returning w' := by
      intro h0 h1
      exact leaves (g := g) rfl hrs h1 r' (fun w2 r2 u hu => by
        have hu := hu.lit
        subst hu
        subst h0
        exact ⟨_, rfl, r2.below, by simp, fun c hc => by simp at hc, [], World.ownsRow_nil _ _ _ _, fun u hu => by simp at hu, fun i' j p hp => by simp [cellAt] at hp⟩)
    cases ex with
    | normal =>
      rcases hq with ⟨i, h1⟩ | ⟨h0, h1⟩
      · exact fin i h1
      · exact finN h0 h1
    | ret =>
      rcases hq with ⟨i, h1⟩ | ⟨h0, h1⟩
      · exact fin i h1
      · exact finN h0 h1
    | _ => exact hq.elim
theorem endsO_ret {rs : List ResultVar} {i : Nat} {e : TypeId} {k : Nat} {els els' : List (List PV)} (h : Res P δ rs (.own i e k els')) (he : els' = els) : EndsO P rs e k els .ret δ := .inl ⟨i, he ▸ h⟩
theorem endsO_nil {rs : List ResultVar} {e : TypeId} {k : Nat} {els : List (List PV)} (h : Res P δ rs (.pv (.lit (.slice none 0 0)))) (he : els = []) : EndsO P rs e k els .ret δ := .inr ⟨he, h⟩
end Go.Ab
/- A callee that takes one value out of a row of one-cell values in place: Go's slices.Delete. -/
namespace Go.Ab
open Go Go.RowKit
variable {P : Program} {g : Ghost} {δ : DS} {κ : Nat → Option Nat} {a : Act} {w : World}
/-- f, called with a row of values us and with i, i + 1, leaves the row without its i-th value, the last cell z. -/
structure DelC (P : Program) (f : FuncId) (z : Value) : Prop where
  enters : ∀ vals w, (callFunc f vals).run P w = .ok (.enter f vals) w
  calls : ∀ (b cap i : Nat) (us : List Value) (w : World), Sort.Holds (fun u : Value => u) w b 0 us.toArray → (∀ u ∈ us, u.oneCell' = true) → us.length ≤ cap → cap ≤ maxLen → i < us.length →
    Calls P f #[.slice (some ⟨b, 0, none⟩) us.length cap, .int .i64 i, .int .i64 (i + 1)] w fun e w' => e = .returned (.slice (some ⟨b, 0, none⟩) (us.length - 1) cap) ∧
      ∃ n, w' = Sort.putRow (fun u : Value => u) (Sort.ahead w n) b 0 (us.take i ++ us.drop (i + 1) ++ [z]).toArray
theorem putRowV_heap {w : World} {b n : Nat} {c : Array Value} {e : TypeId} {d : Array Value} (h : w.heap[b]? = some (.cells c e (0, 0))) :
    (Sort.putRow (fun u : Value => u) (Sort.ahead w n) b 0 d).heap[b]? = some (.cells (Sort.putCells (fun u : Value => u) 0 d c) e (0, 0)) := by
  unfold Sort.putRow Sort.mapBlock Sort.ahead
  simp only
  rw [Array.getElem?_modify, if_pos rfl, h]
  rfl
theorem putRowV_turns (w : World) (b n : Nat) (d : Array Value) : Turns w (Sort.putRow (fun u : Value => u) (Sort.ahead w n) b 0 d) (some b) :=
  ⟨rfl, rfl, rfl, by simp [Sort.putRow, Sort.mapBlock, Sort.ahead], fun k hk hne => by
    unfold Sort.putRow Sort.mapBlock Sort.ahead
    simp only
    rw [Array.getElem?_modify, if_neg (fun e => hne (by rw [e]))]⟩
theorem putCellsV_take {c : Array Value} {d : List Value} {m : Nat} (hc : d.length ≤ c.size) (hm : m ≤ d.length) : (Sort.putCells (fun u : Value => u) 0 d.toArray c).toList.take m = d.take m := by
  apply List.ext_getElem
  · simp [Sort.putCells]; omega
  · intro j h1 h2
    have hj : j < d.length := by simp at h2; omega
    simp [Sort.putCells, hj]
theorem erase_get {α : Type} {l : List α} {i j : Nat} : (l.take i ++ l.drop (i + 1))[j]? = if j < i then l[j]? else l[j + 1]? := by
  by_cases h : i ≤ l.length
  · by_cases hj : j < i
    · rw [if_pos hj, List.getElem?_append_left (by rw [List.length_take]; omega), List.getElem?_take, if_pos hj]
    · rw [if_neg hj, List.getElem?_append_right (by rw [List.length_take]; omega), List.length_take, Nat.min_eq_left h, List.getElem?_drop]
      congr 1; omega
  · have h1 : l.take i = l := List.take_of_length_le (by omega)
    have h2 : l.drop (i + 1) = [] := List.drop_eq_nil_of_le (by omega)
    rw [h1, h2, List.append_nil]
    by_cases hj : j < i
    · rw [if_pos hj]
    · rw [if_neg hj, List.getElem?_eq_none (by omega), List.getElem?_eq_none (by omega)]
variable {ops : Array Oper} {rest : List Oper} {Q : Exit → DS → Prop} {dst : Option Nat} {ty : TypeId} {pos : String} {af : Array Edge} {gd : Option (Tmp × Bool)}
theorem Eff.delC {f : FuncId} {zv : Value} {x y z : Operand} {tys : Array TypeId} (hf : DelC P f zv) {r i : Nat} {e : TypeId} {els : List (List PV)} {m : Int} (hx : δ.ev x = .own r e 1 els) (hy : δ.ev y = litI (i : Nat)) (hz : δ.ev z = litI m) (hr : δ.ob r = some .row)
    (ho : okT x = true) (ho' : okT y = true) (hoz : okT z = true) (hd : okD δ.n dst = true) (hm : m = (i : Int) + 1) (hi : i < els.length) :
    Eff P g ⟨dst, .call { callee := .value (.func f), args := #[x, y, z], argTypes := tys }, ty, pos, af, none⟩ δ ((δ.mapV (AV.kill r)).putd dst (.own r e 1 (els.take i ++ els.drop (i + 1)))) := by
  subst hm
  intro κ a w rl
  right
  have hxv := (rl.ra hx ho).own_inv
  have hyv : a.eval y = .int .i64 (i : Nat) := rl.lit hy ho'
  have hzv : a.eval z = .int .i64 ((i : Int) + 1) := rl.lit hz hoz
  have hrun := run_call (dst := dst) (ty := ty) (pos := pos) (af := af) (xs := #[x, y, z]) (tys := tys) (ρ := a.eval) (x := .func f) (f := f) rfl hf.enters w
  have hlim : els.length ≤ 140737488355328 := hxv.lim
  refine ⟨f, #[a.eval x, a.eval y, a.eval z], by simpa using hrun, ?_⟩
  obtain ⟨xs, ⟨hl, hown⟩, hone, hcell⟩ := hxv.row
  rw [Nat.mul_one] at hl
  rcases hown with ⟨_, h0⟩ | ⟨b, cap, c, hv, hB, hb, hcap, hmax, hcs, htk⟩
  · exfalso; omega
  · have hκ : κ r = some b := hxv.blk b (by rw [hv]; rfl)
    rw [hv, hyv, hzv]
    have hblt : b < w.heap.size := (Array.getElem?_eq_some_iff.1 hb).1
    rw [Nat.mul_one] at hcs htk
    have hold : Sort.Holds (fun u : Value => u) w b 0 xs.toArray := by
      intro j hj
      have hj' : j < xs.length := by simpa using hj
      refine ⟨?_, by rw [Nat.zero_add]; exact frozen_of hb _⟩
      rw [Nat.zero_add, cell_of hb]
      have h1 : (c.toList.take els.length)[j]? = xs[j]? := by rw [htk]
      rw [List.getElem?_take, if_pos (by omega), Array.getElem?_toList, List.getElem?_eq_getElem hj'] at h1
      rw [h1]
      simp [hj']
    rw [← hl]
    refine (hf.calls b cap i xs w hold hone (by omega) hmax (by omega)).mono fun e' w' ⟨he, n, hw'⟩ => ?_
    obtain ⟨d, hd'⟩ : ∃ d, d = xs.take i ++ xs.drop (i + 1) := ⟨_, rfl⟩
    have hdl : d.length = xs.length - 1 := by rw [hd']; simp; omega
    rw [← hd'] at hw'
    have hh : w'.heap[b]? = some (.cells (Sort.putCells (fun u : Value => u) 0 (d ++ [zv]).toArray c) e (0, 0)) := by rw [hw']; exact putRowV_heap hb
    have hsz : (Sort.putCells (fun u : Value => u) 0 (d ++ [zv]).toArray c).size = c.size := by simp [Sort.putCells]
    have htk2 := putCellsV_take (c := c) (d := d ++ [zv]) (m := d.length) (by simp; omega) (by simp)
    rw [List.take_left] at htk2
    obtain ⟨rk, G⟩ := rl.row hr (κ' := κ) (w' := w') (fun _ _ => rfl) (by rw [hκ, hw']; exact putRowV_turns _ _ _ _) (fun b' hb' => by
      obtain rfl : b = b' := Option.some.inj (hκ.symm.trans hb')
      exact ⟨.inl hκ, (Array.getElem?_eq_some_iff.1 hh).1, _, _, hh⟩) (AV.kill r) rfl (fun G v av h => h.kill G)
    have hel : (els.take i ++ els.drop (i + 1)).length = d.length := by rw [hdl]; simp; omega
    refine ⟨_, κ, he, rk.putd (okD_spec hd) (.own ⟨?_, by omega, fun c hc => ?_, fun b' hb' => ?_, d, ⟨by rw [Nat.mul_one]; exact hel.symm, .inr ⟨b, cap, _, ?_, hB, hh, ?_, hmax, ?_, ?_⟩⟩, fun u hu => ?_, fun i' j p hp => ?_⟩)⟩
    · show (δ.mapV (AV.kill r)).ob r = some .row
      rw [ob_mapV, hr]; rfl
    · rcases List.mem_append.1 hc with hc | hc
      · exact hxv.hk c (List.mem_of_mem_take hc)
      · exact hxv.hk c (List.mem_of_mem_drop hc)
    · cases hb'; exact hκ
    · rw [hel, hdl]
    · rw [hel]; omega
    · rw [hsz, Nat.mul_one]; exact hcs
    · rw [hel, Nat.mul_one]; exact htk2
    · rw [hd'] at hu
      rcases List.mem_append.1 hu with hu | hu
      · exact hone u (List.mem_of_mem_take hu)
      · exact hone u (List.mem_of_mem_drop hu)
    · have hp' : cellAt els (if i' < i then i' else i' + 1) j = some p := by
        unfold cellAt at hp ⊢
        rw [erase_get] at hp
        split at hp
        · rename_i h; rw [if_pos h]; exact hp
        · rename_i h; rw [if_neg h]; exact hp
      obtain ⟨u, hu, hrp⟩ := hcell _ j p hp'
      have hj : j = 0 := by
        unfold cellAt at hp'
        rw [Option.bind_eq_some_iff] at hp'
        obtain ⟨c, hc1, hc2⟩ := hp'
        have := hxv.hk c (List.mem_of_getElem? hc1)
        have := (List.getElem?_eq_some_iff.1 hc2).1
        omega
      subst hj
      refine ⟨u, ?_, G.rp (C := (δ.cx g κ).less r) hrp⟩
      rw [Nat.mul_one, Nat.add_zero] at hu ⊢
      rw [hd', erase_get]
      split at hu
      · rename_i h; rw [if_pos h]; exact hu
      · rename_i h; rw [if_neg h]; exact hu
theorem AOps.delC {f : FuncId} {zv : Value} {x y z : Operand} {tys : Array TypeId} (hf : DelC P f zv) {α : Type} {h : α → List PV} {l : List α} {r i : Nat} {e : TypeId} {m : Int} (hx : δ.ev x = .own r e 1 (l.map h)) (hy : δ.ev y = litI (i : Nat)) (hz : δ.ev z = litI m) (hr : δ.ob r = some .row)
    (ho : okT x = true) (ho' : okT y = true) (hoz : okT z = true) (hd : okD δ.n dst = true) (hm : m = (i : Int) + 1) (hi : i < l.length) (hK : AOps .plain P g ops rest Q ((δ.mapV (AV.kill r)).putd dst (.own r e 1 ((l.eraseIdx i).map h)))) :
    AOps .plain P g ops (⟨dst, .call { callee := .value (.func f), args := #[x, y, z], argTypes := tys }, ty, pos, af, none⟩ :: rest) Q δ :=
  AOps.eff rfl rfl (Eff.delC hf hx hy hz hr ho ho' hoz hd hm (by simpa using hi)) (by
    have e1 : (l.map h).take i ++ (l.map h).drop (i + 1) = (l.eraseIdx i).map h := by rw [List.eraseIdx_eq_take_drop_succ, List.map_append, List.map_take, List.map_drop]
    rw [e1]; exact hK)
end Go.Ab
