/- Two objects' names exchanged; the orders of a drawn region brought together again. -/
import Derived.Test.YtblllokpdpecbaaAbL2
import Derived.Sort.Row
import Derived.Sort.Grow
import Derived.Lib.AppendZeros
import Derived.Test.YtblllokpdpecbaaAbL1
set_option linter.unusedSimpArgs false
set_option linter.unusedVariables false
namespace Go.Ab
open Go Go.RowKit
variable {P : Program} {g : Ghost} {δ : DS} {κ : Nat → Option Nat} {a : Act} {w : World}
/-- i and j exchanged. -/
def swN (i j x : Nat) : Nat := bif Nat.beq i x then j else bif Nat.beq j x then i else x
theorem swN_if (i j x : Nat) : swN i j x = if i = x then j else if j = x then i else x := by
  unfold swN
  by_cases h1 : i = x
  · subst h1; simp
  · rw [beq_ne h1, if_neg h1]
    by_cases h2 : j = x
    · subst h2; simp
    · rw [beq_ne h2, if_neg h2]; rfl
theorem swN_sw (i j x : Nat) : swN i j (swN i j x) = x := by
  simp only [swN_if]
  split <;> split <;> (try split) <;> omega
mutual
def AV.sw (i j : Nat) : AV → AV
  | .any => .any
  | .pv p => .pv p
  | .own x e k els => .own (swN i j x) e k els
  | .ptr x o => .ptr (swN i j x) o
  | .rptr c => .rptr c
  | .optr x e k els n => .optr (swN i j x) e k els n
  | .agg cs => .agg (AV.swL i j cs)
  | .tup cs => .tup (AV.swL i j cs)
  | .clo fn cs ds => .clo fn (AV.swL i j cs) (AV.swL i j ds)
  | .mapr x => .mapr (swN i j x)
  | .yld x => .yld (swN i j x)
def AV.swL (i j : Nat) : List AV → List AV
  | [] => []
  | c :: cs => AV.sw i j c :: AV.swL i j cs
end
theorem AV.swL_eq (i j : Nat) : ∀ l, AV.swL i j l = l.map (AV.sw i j)
  | [] => rfl
  | c :: cs => by simp [AV.swL, AV.swL_eq i j cs]
def Ob.sw (i j : Nat) : Ob → Ob
  | .row => .row
  | .box cs => .box (AV.swL i j cs)
  | .mp l => .mp (l.map fun p => (p.1, p.2.sw i j))
  | .mpl l k v => .mpl (l.map fun p => (p.1, p.2.sw i j)) k (v.sw i j)
  | .it l seen => .it l seen
  | .loop l tm ps asg body st => .loop l tm ps asg body st
theorem Ob.sw_row (i j : Nat) (o : Ob) : (o.sw i j).isRow = o.isRow := by cases o <;> rfl
def swE (i j : Nat) : List (Nat × AV) → List (Nat × AV)
  | [] => []
  | (x, v) :: r => (x, v.sw i j) :: swE i j r
def swO (i j : Nat) : List (Nat × Option Ob) → List (Nat × Option Ob)
  | [] => []
  | (x, none) :: r => (swN i j x, none) :: swO i j r
  | (x, some o) :: r => (swN i j x, some (o.sw i j)) :: swO i j r
def DS.sw (δ : DS) (i j : Nat) : DS := ⟨δ.n, swE i j δ.env, swO i j δ.objs, δ.nx⟩
theorem look_sw (i j : Nat) (k : Nat) : ∀ e, look (swE i j e) k = (look e k).sw i j
  | [] => rfl
  | (x, v) :: r => by
    unfold swE
    simp only [look_cons, look_sw i j k r]
    split <;> rfl
theorem lookOb_sw (i j : Nat) (k : Nat) : ∀ e, lookOb (swO i j e) (swN i j k) = (lookOb e k).map (Ob.sw i j)
  | [] => rfl
  | (x, o) :: r => by
    have hx : (swN i j x = swN i j k) = (x = k) := by
      apply propext
      constructor
      · intro h; rw [← swN_sw i j x, h, swN_sw]
      · intro h; rw [h]
    cases o with
    | none =>
      unfold swO
      simp only [lookOb_cons, lookOb_sw i j k r, hx]
      split <;> rfl
    | some o =>
      unfold swO
      simp only [lookOb_cons, lookOb_sw i j k r, hx]
      split <;> rfl
theorem ob_sw (i j k : Nat) : (δ.sw i j).ob k = (δ.ob (swN i j k)).map (Ob.sw i j) := by
  have := lookOb_sw i j (swN i j k) δ.objs
  rw [swN_sw] at this
  exact this
theorem live_sw (i j k : Nat) : (δ.sw i j).live k ↔ δ.live (swN i j k) := by
  unfold DS.live
  rw [ob_sw]
  cases δ.ob (swN i j k) <;> simp
theorem lr_sw (i j k : Nat) : (δ.sw i j).lr k ↔ δ.lr (swN i j k) := by
  unfold DS.lr
  rw [ob_sw]
  cases h : δ.ob (swN i j k) with
  | none => simp
  | some o => cases o <;> simp [Ob.sw]
theorem lb_sw (i j k : Nat) : (δ.sw i j).lb k ↔ δ.lb (swN i j k) := by
  unfold DS.lb
  rw [ob_sw]
  cases h : δ.ob (swN i j k) with
  | none => simp
  | some o => simp [Ob.sw_row]
def swK (i j : Nat) (κ : Nat → Option Nat) : Nat → Option Nat := fun x => κ (swN i j x)
theorem N_sw (i j b : Nat) : ((δ.sw i j).cx g (swK i j κ)).N b ↔ (δ.cx g κ).N b := by
  show (g.N0 b ∧ _) ↔ (g.N0 b ∧ _)
  constructor
  · rintro ⟨h1, h2⟩
    refine ⟨h1, fun x hx => ?_⟩
    have := h2 (swN i j x) ((live_sw i j _).2 (by rw [swN_sw]; exact hx))
    unfold swK at this
    rwa [swN_sw] at this
  · rintro ⟨h1, h2⟩
    exact ⟨h1, fun x hx => h2 _ ((live_sw i j _).1 hx)⟩
theorem rp_sw (i j : Nat) {v : Value} {p : PV} (h : RP (δ.cx g κ).N w v p) : RP ((δ.sw i j).cx g (swK i j κ)).N w v p :=
  h.mono (Nat.le_refl _) fun b _ hb => ⟨(N_sw i j b).2 hb, rfl⟩
theorem own_sw (i j : Nat) {v : Value} {x : Nat} {e : TypeId} {k : Nat} {els : List (List PV)} (h : OwnV (δ.cx g κ) w v x e k els) : OwnV ((δ.sw i j).cx g (swK i j κ)) w v (swN i j x) e k els := by
  obtain ⟨hl, hlim, hk, hb, xs, ho, h1, hx⟩ := h
  refine ⟨(lr_sw i j _).2 (by rw [swN_sw]; exact hl), hlim, hk, fun b hv => ?_, xs, ho, h1, fun i' j' p hp => let ⟨u, h1, h2⟩ := hx i' j' p hp; ⟨u, h1, rp_sw i j h2⟩⟩
  show κ (swN i j (swN i j x)) = some b
  rw [swN_sw]; exact hb b hv
theorem ra_sw (i j : Nat) {v : Value} {av : AV} (h : RA (δ.cx g κ) w v av) : RA ((δ.sw i j).cx g (swK i j κ)) w v (av.sw i j) := by
  induction h with
  | any v => exact .any v
  | pv h => exact .pv (rp_sw i j h)
  | own h => exact .own (own_sw i j h)
  | ptr hl hκ => exact .ptr ((lb_sw i j _).2 (by rw [swN_sw]; exact hl)) (by show κ (swN i j (swN i j _)) = _; rw [swN_sw]; exact hκ)
  | rptr b off vs hN hb hc hr => exact .rptr b off vs ((N_sw i j b).2 hN) hb hc fun k p hp => rp_sw i j (hr k p hp)
  | optr hi h => exact .optr hi (own_sw i j h)
  | agg hs h ih =>
    show RA _ _ _ (.agg (AV.swL i j _))
    rw [AV.swL_eq]
    refine .agg (by simp [hs]) fun k u c hu hc => ?_
    rw [List.getElem?_map] at hc
    obtain ⟨c', hc', rfl⟩ := Option.map_eq_some_iff.1 hc
    exact ih k u c' hu hc'
  | tup hs h ih =>
    show RA _ _ _ (.tup (AV.swL i j _))
    rw [AV.swL_eq]
    refine .tup (by simp [hs]) fun k u c hu hc => ?_
    rw [List.getElem?_map] at hc
    obtain ⟨c', hc', rfl⟩ := Option.map_eq_some_iff.1 hc
    exact ih k u c' hu hc'
  | clo hs h ht h' ih ih' =>
    show RA _ _ _ (.clo _ (AV.swL i j _) (AV.swL i j _))
    rw [AV.swL_eq, AV.swL_eq]
    refine .clo (by simp [hs]) (fun k u c hu hc => ?_) (by simp [ht]) (fun k u c hu hc => ?_)
    · rw [List.getElem?_map] at hc
      obtain ⟨c', hc', rfl⟩ := Option.map_eq_some_iff.1 hc
      exact ih k u c' hu hc'
    · rw [List.getElem?_map] at hc
      obtain ⟨c', hc', rfl⟩ := Option.map_eq_some_iff.1 hc
      exact ih' k u c' hu hc'
  | mapr hl hκ => exact .mapr ((lb_sw i j _).2 (by rw [swN_sw]; exact hl)) (by show κ (swN i j (swN i j _)) = _; rw [swN_sw]; exact hκ)
  | yld hl hκ => exact .yld ((lb_sw i j _).2 (by rw [swN_sw]; exact hl)) (by show κ (swN i j (swN i j _)) = _; rw [swN_sw]; exact hκ)
theorem noOwn_sw (i j : Nat) (v : AV) : (v.sw i j).noOwn = v.noOwn := by cases v <;> rfl
theorem ObIs.sw (i j : Nat) {x : Nat} {o : Ob} (h : ObIs (δ.cx g κ) w x o) : ObIs ((δ.sw i j).cx g (swK i j κ)) w (swN i j x) (o.sw i j) := by
  have hκ : ∀ y, ((δ.sw i j).cx g (swK i j κ)).κ (swN i j y) = κ y := fun y => by show κ (swN i j (swN i j y)) = _; rw [swN_sw]
  cases o with
  | row =>
    intro b hb
    rw [hκ] at hb
    exact h b hb
  | box cs =>
    obtain ⟨b, c, e, h1, h2, h3, h4⟩ := h
    show ObIs _ _ _ (.box (AV.swL i j cs))
    rw [AV.swL_eq]
    refine ⟨b, c, e, (hκ x).trans h1, h2, by simp [h3], fun k u av h5 h6 => ?_⟩
    rw [List.getElem?_map] at h6
    obtain ⟨c', hc', rfl⟩ := Option.map_eq_some_iff.1 h6
    exact ⟨ra_sw i j (h4 k u c' h5 hc').1, (h4 k u c' h5 hc').2⟩
  | mp l =>
    obtain ⟨b, es, clock, h1, h2, h3, h4, h5⟩ := h
    refine ⟨b, es, clock, (hκ x).trans h1, h2, ⟨by simp [h3.1], fun k e p h6 h7 => ?_⟩, h4, fun p hp => ?_⟩
    · rw [List.getElem?_map] at h7
      obtain ⟨p', hp', rfl⟩ := Option.map_eq_some_iff.1 h7
      exact ⟨(h3.2 k e p' h6 hp').1, ra_sw i j (h3.2 k e p' h6 hp').2⟩
    · obtain ⟨p', hp', rfl⟩ := List.mem_map.1 hp
      show (p'.2.sw i j).noOwn = true
      rw [noOwn_sw]; exact h5 p' hp'
  | mpl l kk v =>
    obtain ⟨b, es, clock, h1, h2, h3, h4, h5⟩ := h
    refine ⟨b, es, clock, (hκ x).trans h1, h2, ⟨by simpa using h3.1, fun k e p h6 h7 => ?_⟩, h4, fun p hp => ?_⟩
    · have h8 : ((l ++ [(kk, v)]).map fun p => (p.1, p.2.sw i j))[k]? = some p := by simpa using h7
      rw [List.getElem?_map] at h8
      obtain ⟨p', hp', rfl⟩ := Option.map_eq_some_iff.1 h8
      exact ⟨(h3.2 k e p' h6 hp').1, ra_sw i j (h3.2 k e p' h6 hp').2⟩
    · obtain ⟨p', hp', rfl⟩ := List.mem_map.1 hp
      show (p'.2.sw i j).noOwn = true
      rw [noOwn_sw]; exact h5 p' hp'
  | it l seen =>
    obtain ⟨b, h1, h2⟩ := h
    exact ⟨b, (hκ x).trans h1, h2.mono (Nat.le_refl _) (fun b _ hb => ⟨(N_sw i j b).2 hb, rfl⟩) rfl⟩
  | loop l tm ps asg body st =>
    obtain ⟨b, r, h1, h2⟩ := h
    exact ⟨b, r, (hκ x).trans h1, h2⟩
/-- two names exchanged. -/
theorem Rel.sw (i j : Nat) (hi : i < δ.nx) (hj : j < δ.nx) (hw : ∀ k, g.wt = some k → k.2.2 ≤ i ∧ k.2.2 ≤ j) (r : Rel g δ κ a w) : Rel g (δ.sw i j) (swK i j κ) a w where
  n := r.n
  dfr := r.dfr
  env := fun k => by
    have e : (δ.sw i j).get k = (δ.get k).sw i j := look_sw i j k δ.env
    rw [e]; exact ra_sw i j (r.env k)
  obj := fun x o h => by
    rw [ob_sw] at h
    obtain ⟨o', ho', rfl⟩ := Option.map_eq_some_iff.1 h
    have := (r.obj _ o' ho').sw i j
    rwa [swN_sw] at this
  inj := fun x y b hx hy h1 h2 => by
    have := r.inj _ _ b ((live_sw i j x).1 hx) ((live_sw i j y).1 hy) h1 h2
    rw [← swN_sw i j x, this, swN_sw]
  lo := fun x b hx h1 => r.lo _ b ((live_sw i j x).1 hx) h1
  nx := fun x hx => by
    have := r.nx _ ((live_sw i j x).1 hx)
    show x < δ.nx
    rw [swN_if] at this
    split at this
    · omega
    · split at this <;> omega
  wt := fun k hk => by
    obtain ⟨h1, h2⟩ := hw k hk
    refine ⟨(r.wt k hk).1, fun x b hx hor hκ => (r.wt k hk).2 (swN i j x) b ((live_sw i j x).1 hx) ?_ hκ⟩
    rcases hor with hor | hor
    · exact .inl ((lr_sw i j x).1 hor)
    · right
      rw [swN_if]
      split
      · exact h2
      · split
        · exact h1
        · exact hor
  below := r.below
  hB := r.hB
  N0 := r.N0
namespace Nf
variable {n x : Nat} {e : List (Nat × AV)} {o : List (Nat × Option Ob)} {i j k : Nat}
theorem sw : DS.sw ⟨n, e, o, x⟩ i j = ⟨n, swE i j e, swO i j o, x⟩ := rfl
theorem swE0 : swE i j [] = [] := rfl
theorem swE1 (v : AV) (r : List (Nat × AV)) : swE i j ((k, v) :: r) = (k, v.sw i j) :: swE i j r := rfl
theorem swO0 : swO i j [] = [] := rfl
theorem swOn (r : List (Nat × Option Ob)) : swO i j ((k, none) :: r) = (swN i j k, none) :: swO i j r := rfl
theorem swOr (r : List (Nat × Option Ob)) : swO i j ((k, some .row) :: r) = (swN i j k, some .row) :: swO i j r := rfl
theorem swOb (cs : List AV) (r : List (Nat × Option Ob)) : swO i j ((k, some (.box cs)) :: r) = (swN i j k, some (.box (AV.swL i j cs))) :: swO i j r := rfl
theorem swOi (l : List (Value × PV)) (s : List Nat) (r : List (Nat × Option Ob)) : swO i j ((k, some (.it l s)) :: r) = (swN i j k, some (.it l s)) :: swO i j r := rfl
theorem swOl (l tm ps asg body st) (r : List (Nat × Option Ob)) : swO i j ((k, some (.loop l tm ps asg body st)) :: r) = (swN i j k, some (.loop l tm ps asg body st)) :: swO i j r := rfl
theorem swL0 : AV.swL i j [] = [] := rfl
theorem swL1 (v : AV) (r : List AV) : AV.swL i j (v :: r) = v.sw i j :: AV.swL i j r := rfl
theorem swA0 : AV.sw i j .any = .any := rfl
theorem swA1 (p : PV) : AV.sw i j (.pv p) = .pv p := rfl
theorem swA2 (e m els) : AV.sw i j (.own k e m els) = .own (swN i j k) e m els := rfl
theorem swA3 (m : Nat) : AV.sw i j (.ptr k m) = .ptr (swN i j k) m := rfl
theorem swA4 (c : List PV) : AV.sw i j (.rptr c) = .rptr c := rfl
theorem swA5 (e m els m') : AV.sw i j (.optr k e m els m') = .optr (swN i j k) e m els m' := rfl
theorem swA6 (c : List AV) : AV.sw i j (.agg c) = .agg (AV.swL i j c) := rfl
theorem swA7 (c : List AV) : AV.sw i j (.tup c) = .tup (AV.swL i j c) := rfl
theorem swA8 (f) (c d : List AV) : AV.sw i j (.clo f c d) = .clo f (AV.swL i j c) (AV.swL i j d) := rfl
theorem swA9 : AV.sw i j (.mapr k) = .mapr (swN i j k) := rfl
theorem swAa : AV.sw i j (.yld k) = .yld (swN i j k) := rfl
theorem swNd : swN i j k = bif Nat.beq i k then j else bif Nat.beq j k then i else k := rfl
set_option linter.defProp false in
def swR := And.intro @sw (And.intro @swE0 (And.intro @swE1 (And.intro @swO0 (And.intro @swOn (And.intro @swOr (And.intro @swOb (And.intro @swOi (And.intro @swOl (And.intro @swL0 (And.intro @swL1 (And.intro @swA0 (And.intro @swA1 (And.intro @swA2 (And.intro @swA3 (And.intro @swA4 (And.intro @swA5 (And.intro @swA6 (And.intro @swA7 (And.intro @swA8 (And.intro @swA9 (And.intro @swAa @swNd)))))))))))))))))))))
end Nf
variable {k : Wt} {late : List Nat} {l : List Oper} {dn : List Nat} {QD : Exit → DS → Prop}
theorem AR.weakG {δ' : DS} (hw : ∀ g' : Ghost, (∀ k', g'.wt = some k' → k' = k) → Weak g' δ δ') (h : AR P g k late l QD dn δ') : AR P g k late l QD dn δ := by
  intro hdc κ a w r
  obtain ⟨κ', r'⟩ := hw _ (fun k' hk' => by
    have : (if lateIn late (setL l.length dn) = true then none else some k) = some k' := hk'
    split at this
    · cases this
    · cases this; rfl) κ a w r
  exact h hdc κ' a w r'
theorem AR.sw (i j : Nat) {m : Nat} (hk : k.2.2 = m) (hi : (Nat.ble m i && Nat.blt i δ.nx) = true) (hj : (Nat.ble m j && Nat.blt j δ.nx) = true) (h : AR P g k late l QD dn (δ.sw i j)) : AR P g k late l QD dn δ := by
  simp only [Bool.and_eq_true, Nat.ble_eq, Nat.blt_eq] at hi hj
  exact AR.weakG (fun g' hg κ a w r => ⟨_, r.sw i j hi.2 hj.2 fun k' hk' => by rw [hg k' hk', hk]; exact ⟨hi.1, hj.1⟩⟩) h
theorem setL_size (n : Nat) (d : List Nat) : (setL n d).size = n := by
  induction d with
  | nil => simp [setL]
  | cons i d ih => simp [setL, ih]
theorem setL_mask {n : Nat} {d d' : List Nat} (h : maskL n d = maskL n d') : setL n d = setL n d' := by
  apply Array.ext
  · rw [setL_size, setL_size]
  · intro i h1 h2
    have e1 := maskL_spec (n := n) (d := d) (j := i)
    have e2 := maskL_spec (n := n) (d := d') (j := i)
    rw [h] at e1
    rw [e1] at e2
    rw [Array.getD_eq_getD_getElem?, Array.getD_eq_getD_getElem?, Array.getElem?_eq_getElem h1, Array.getElem?_eq_getElem h2] at e2
    exact e2
theorem AR.perm {J : List Nat} (hm : (maskL l.length dn == maskL l.length J && Nat.beq dn.length J.length) = true) (h : AR P g k late l QD J δ) : AR P g k late l QD dn δ := by
  simp only [Bool.and_eq_true, beq_iff_eq] at hm
  have hm : maskL l.length dn = maskL l.length J ∧ dn.length = J.length := ⟨hm.1, Nat.eq_of_beq_eq_true hm.2⟩
  have e := setL_mask hm.1
  intro hdc κ a w r
  rw [hm.2]
  have h1 := h (by rw [← e]; exact hdc) κ a w (by rw [← e]; exact r)
  rw [e]; exact h1
/-- all orders up to J come together. -/
theorem AR.cut (J : List Nat) {δc : DS} (h1 : AR P g k late l QD J δc → AR P g k late l QD dn δ) (h2 : AR P g k late l QD J δc) : AR P g k late l QD dn δ := h1 h2
theorem AR.meet {J : List Nat} {δc : DS} (hJ : AR P g k late l QD J δc) (hm : (maskL l.length dn == maskL l.length J && Nat.beq dn.length J.length) = true) (hw : ∀ g' : Ghost, Weak g' δ δc) : AR P g k late l QD dn δ :=
  AR.weakG (fun g' _ => hw g') (AR.perm hm hJ)
theorem AR.step2LL {i j : Nat} {o p : Oper} (hl : Nat.blt dn.length l.length = true) (hr : (readyM (maskL l.length dn) 0 l == [i, j]) = true) (ho : l[i]? = some o) (hp : l[j]? = some p) (hlt : lateM late (maskL l.length dn) = true)
    (h : ∀ g' : Ghost, g'.ro = g.ro → g'.wt = none → AOps .plain P g' l.toArray [o] (onlyN (AR P g k late l QD (i :: dn))) δ)
    (h' : ∀ g' : Ghost, g'.ro = g.ro → g'.wt = none → AOps .plain P g' l.toArray [p] (onlyN (AR P g k late l QD (j :: dn))) δ) : AR P g k late l QD dn δ :=
  AR.all hl (readyIs_M hr) (by simp) fun i' hi' => by
    have hlt' : lateIn late (setL l.length dn) = true := by rw [lateM_eq]; exact hlt
    have hw : ∀ i', (gOf g k late (setL l.length (i' :: dn))).wt = none := fun i' => if_pos (lateIn_mono hlt')
    simp only [List.mem_cons, List.not_mem_nil, or_false] at hi'
    rcases hi' with rfl | rfl
    · exact ⟨o, ho, h _ rfl (hw _)⟩
    · exact ⟨p, hp, h' _ rfl (hw _)⟩
/-! ### what lies shadowed is left out -/
def memB (k : Nat) : List Nat → Bool
  | [] => false
  | x :: r => bif Nat.beq x k then true else memB k r
def ddE (s : List Nat) : List (Nat × AV) → List (Nat × AV)
  | [] => []
  | (k, v) :: r => bif memB k s then ddE s r else (k, v) :: ddE (k :: s) r
def ddO (s : List Nat) : List (Nat × Option Ob) → List (Nat × Option Ob)
  | [] => []
  | (k, v) :: r => bif memB k s then ddO s r else (k, v) :: ddO (k :: s) r
theorem memB_iff {k : Nat} : ∀ {s : List Nat}, memB k s = true ↔ k ∈ s
  | [] => by simp [memB]
  | x :: r => by
    unfold memB
    by_cases h : x = k
    · subst h; simp
    · rw [beq_ne h, cond_false, memB_iff, List.mem_cons]
      constructor
      · exact .inr
      · rintro (h' | h')
        · exact absurd h'.symm h
        · exact h'
theorem look_ddE {j : Nat} : ∀ {e : List (Nat × AV)} {s : List Nat}, j ∉ s → look (ddE s e) j = look e j
  | [], _, _ => rfl
  | (k, v) :: r, s, h => by
    unfold ddE
    cases hm : memB k s with
    | true =>
      have : k ≠ j := by rintro rfl; exact h (memB_iff.1 hm)
      rw [cond_true, look_cons, if_neg this, look_ddE h]
    | false =>
      rw [cond_false, look_cons, look_cons]
      by_cases e : k = j
      · rw [if_pos e, if_pos e]
      · rw [if_neg e, if_neg e, look_ddE (by simp only [List.mem_cons, not_or]; exact ⟨fun h' => e h'.symm, h⟩)]
theorem lookOb_ddO {j : Nat} : ∀ {e : List (Nat × Option Ob)} {s : List Nat}, j ∉ s → lookOb (ddO s e) j = lookOb e j
  | [], _, _ => rfl
  | (k, v) :: r, s, h => by
    unfold ddO
    cases hm : memB k s with
    | true =>
      have : k ≠ j := by rintro rfl; exact h (memB_iff.1 hm)
      rw [cond_true, lookOb_cons, if_neg this, lookOb_ddO h]
    | false =>
      rw [cond_false, lookOb_cons, lookOb_cons]
      by_cases e : k = j
      · rw [if_pos e, if_pos e]
      · rw [if_neg e, if_neg e, lookOb_ddO (by simp only [List.mem_cons, not_or]; exact ⟨fun h' => e h'.symm, h⟩)]
def DS.dd (δ : DS) : DS := ⟨δ.n, ddE [] δ.env, ddO [] δ.objs, δ.nx⟩
theorem Rel.congr {δ' : DS} (hn : δ'.n = δ.n) (hx : δ'.nx = δ.nx) (he : ∀ j, δ'.get j = δ.get j) (ho : ∀ j, δ'.ob j = δ.ob j) (r : Rel g δ κ a w) : Rel g δ' κ a w := by
  have hob : δ'.ob = δ.ob := funext ho
  have hl : δ'.live = δ.live := by unfold DS.live; rw [hob]
  have hlr : δ'.lr = δ.lr := by unfold DS.lr; rw [hob]
  have hlb : δ'.lb = δ.lb := by unfold DS.lb; rw [hob]
  have hcx : δ'.cx g κ = δ.cx g κ := by unfold DS.cx; rw [hl, hlr, hlb]
  exact
    { n := r.n.trans hn.symm, dfr := r.dfr
      env := fun j => by rw [hcx, he]; exact r.env j
      obj := fun i o h => by rw [hcx]; rw [ho] at h; exact r.obj i o h
      inj := by rw [hl]; exact r.inj
      lo := by rw [hl]; exact r.lo
      nx := by rw [hl, hx]; exact r.nx
      wt := by rw [hl, hlr]; exact r.wt
      below := r.below, hB := r.hB, N0 := r.N0 }
theorem Weak.dd : Weak g δ δ.dd := fun κ _ _ r => ⟨κ, Rel.congr (δ := δ) (δ' := δ.dd) rfl rfl (fun j => look_ddE (s := []) (by simp)) (fun j => lookOb_ddO (s := []) (by simp)) r⟩
theorem AR.dd (h : AR P g k late l QD dn δ.dd) : AR P g k late l QD dn δ := AR.weakG (fun _ _ => Weak.dd) h
def ddEc (b : Bool) (s : List Nat) (k : Nat) (v : AV) (r : List (Nat × AV)) : List (Nat × AV) := bif b then ddE s r else (k, v) :: ddE (k :: s) r
def ddOc (b : Bool) (s : List Nat) (k : Nat) (v : Option Ob) (r : List (Nat × Option Ob)) : List (Nat × Option Ob) := bif b then ddO s r else (k, v) :: ddO (k :: s) r
namespace Nf
variable {n x : Nat} {e : List (Nat × AV)} {o : List (Nat × Option Ob)} {i j m : Nat}
theorem dd : DS.dd ⟨n, e, o, x⟩ = ⟨n, ddE [] e, ddO [] o, x⟩ := rfl
theorem ddE0 (s : List Nat) : ddE s [] = [] := rfl
theorem ddE1 (s : List Nat) (v : AV) (r : List (Nat × AV)) : ddE s ((m, v) :: r) = ddEc (memB m s) s m v r := rfl
theorem ddEt (s : List Nat) (v : AV) (r : List (Nat × AV)) : ddEc true s m v r = ddE s r := rfl
theorem ddEf (s : List Nat) (v : AV) (r : List (Nat × AV)) : ddEc false s m v r = (m, v) :: ddE (m :: s) r := rfl
theorem ddO0 (s : List Nat) : ddO s [] = [] := rfl
theorem ddO1 (s : List Nat) (v : Option Ob) (r : List (Nat × Option Ob)) : ddO s ((m, v) :: r) = ddOc (memB m s) s m v r := rfl
theorem ddOt (s : List Nat) (v : Option Ob) (r : List (Nat × Option Ob)) : ddOc true s m v r = ddO s r := rfl
theorem ddOf (s : List Nat) (v : Option Ob) (r : List (Nat × Option Ob)) : ddOc false s m v r = (m, v) :: ddO (m :: s) r := rfl
theorem me0 : memB m [] = false := rfl
theorem me1 (y : Nat) (r : List Nat) : memB m (y :: r) = bif Nat.beq y m then true else memB m r := rfl
set_option linter.defProp false in
def ddR := And.intro @dd (And.intro @ddE0 (And.intro @ddE1 (And.intro @ddEt (And.intro @ddEf (And.intro @ddO0 (And.intro @ddO1 (And.intro @ddOt (And.intro @ddOf (And.intro @me0 @me1)))))))))
end Nf
end Go.Ab
/- Callees that rewrite a row of numbers in place: Go's slices.Sort, slices.Compact. -/
namespace Go.Ab
open Go Go.RowKit
variable {P : Program} {g : Ghost} {δ : DS} {κ : Nat → Option Nat} {a : Act} {w : World}
def nI (z : Int) : List PV := [.lit (.int .i64 z)]
/-- f, called with a row of numbers zs, leaves (out zs) there and returns the first (ret zs) of them (none: nothing). -/
structure RowC (P : Program) (f : FuncId) (out : List Int → List Int) (ret : Option (List Int → Nat)) : Prop where
  enters : ∀ vals w, (callFunc f vals).run P w = .ok (.enter f vals) w
  len : ∀ zs, (out zs).length = zs.length
  retle : ∀ r, ret = some r → ∀ zs, r zs ≤ zs.length
  calls : ∀ (b cap : Nat) (zs : List Int) (w : World), Sort.Holds (Value.int .i64) w b 0 zs.toArray → b < w.heap.size → zs.length ≤ 140737488355328 → zs.length ≤ cap →
    Calls P f #[.slice (some ⟨b, 0, none⟩) zs.length cap] w fun e w' => e = .returned (match ret with | none => .tuple #[] | some r => .slice (some ⟨b, 0, none⟩) (r zs) cap) ∧
      ∃ n os, w' = Sort.grow (Sort.putRow (Value.int .i64) (Sort.ahead w n) b 0 (out zs).toArray) os
  nil : ∀ w, Calls P f #[.slice none 0 0] w fun e w' => e = .returned (match ret with | none => .tuple #[] | some _ => .slice none 0 0) ∧ Below w.heap.size w w'

theorem putRow_heap {w : World} {b n : Nat} {c : Array Value} {e : TypeId} {d : Array Int} {os : Array Obj} (h : w.heap[b]? = some (.cells c e (0, 0))) :
    (Sort.grow (Sort.putRow (Value.int .i64) (Sort.ahead w n) b 0 d) os).heap[b]? = some (.cells (Sort.putCells (Value.int .i64) 0 d c) e (0, 0)) := by
  have hb : b < w.heap.size := (Array.getElem?_eq_some_iff.1 h).1
  unfold Sort.grow Sort.putRow Sort.mapBlock Sort.ahead
  simp only
  rw [Array.getElem?_append_left (by simpa using hb), Array.getElem?_modify, if_pos rfl, h]
  rfl
theorem putRow_other {w : World} {b n k : Nat} {d : Array Int} {os : Array Obj} (hk : k < w.heap.size) (hne : b ≠ k) :
    (Sort.grow (Sort.putRow (Value.int .i64) (Sort.ahead w n) b 0 d) os).heap[k]? = w.heap[k]? := by
  unfold Sort.grow Sort.putRow Sort.mapBlock Sort.ahead
  simp only
  rw [Array.getElem?_append_left (by simpa using hk), Array.getElem?_modify, if_neg hne]
theorem putRow_turns (w : World) (b n : Nat) (d : Array Int) (os : Array Obj) : Turns w (Sort.grow (Sort.putRow (Value.int .i64) (Sort.ahead w n) b 0 d) os) (some b) :=
  ⟨rfl, rfl, rfl, by simp [Sort.grow, Sort.putRow, Sort.mapBlock, Sort.ahead], fun k hk hne => putRow_other hk (fun e => hne (by rw [e]))⟩
theorem putCells_take {c : Array Value} {d : List Int} (hc : d.length ≤ c.size) : (Sort.putCells (Value.int .i64) 0 d.toArray c).toList.take d.length = d.map (Value.int .i64) := by
  apply List.ext_getElem
  · simp [Sort.putCells]; omega
  · intro j h1 h2
    have hj : j < d.length := by simpa using h2
    simp [Sort.putCells, hj]
theorem xs_nums {w : World} {N : Nat → Prop} {xs : List Value} {zs : List Int} (hl : xs.length = zs.length * 1) (hx : ∀ i' j p, cellAt (zs.map nI) i' j = some p → ∃ u, xs[i' * 1 + j]? = some u ∧ RP N w u p) : xs = zs.map (Value.int .i64) := by
  apply List.ext_getElem
  · simp [hl]
  · intro j h1 h2
    have hj : j < zs.length := by simpa using h2
    obtain ⟨u, hu, hr⟩ := hx j 0 (.lit (.int .i64 zs[j])) (by simp [cellAt, hj, nI])
    cases hr
    rw [Nat.mul_one, Nat.add_zero, List.getElem?_eq_getElem h1] at hu
    simpa using hu
/-- the slots that held the row's slice hold it again. -/
def putAll (δ : DS) (v : AV) : List Nat → DS
  | [] => δ
  | t :: ts => (putAll δ v ts).put t v
theorem putAll_n (δ : DS) (v : AV) (ts : List Nat) : (putAll δ v ts).n = δ.n := by induction ts with | nil => rfl | cons t ts ih => exact ih
def allAt (δ : DS) (v : AV) : List Nat → Prop
  | [] => True
  | t :: ts => δ.get t = v ∧ allAt δ v ts
theorem cx_put (δ : DS) (t : Nat) (v : AV) : (δ.put t v).cx g κ = δ.cx g κ := rfl
theorem cx_putAll (δ : DS) (v : AV) : ∀ ts, (putAll δ v ts).cx g κ = δ.cx g κ
  | [] => rfl
  | t :: ts => by show ((putAll δ v ts).put t v).cx g κ = _; rw [cx_put, cx_putAll δ v ts]
theorem Rel.learn (r : Rel g δ κ a w) {t : Nat} {v : AV} (h : RA (δ.cx g κ) w (g.val a t) v) : Rel g (δ.put t v) κ a w where
  n := r.n
  dfr := r.dfr
  env := fun j => by
    rw [get_put]
    by_cases e : t = j
    · subst e; rw [if_pos rfl]; exact h
    · rw [if_neg e]; exact r.env j
  obj := r.obj
  inj := r.inj
  lo := r.lo
  nx := r.nx
  wt := r.wt
  below := r.below
  hB := r.hB
  N0 := r.N0
theorem Rel.learnAll (r : Rel g δ κ a w) {v : AV} : ∀ ts : List Nat, (∀ t ∈ ts, RA (δ.cx g κ) w (g.val a t) v) → Rel g (putAll δ v ts) κ a w
  | [], _ => r
  | t :: ts, h => (Rel.learnAll r ts fun t ht => h t (by simp [ht])).learn (by rw [cx_putAll]; exact h t (by simp))
theorem allAt_mem {δ : DS} {v : AV} : ∀ {ts : List Nat}, allAt δ v ts → ∀ t ∈ ts, δ.get t = v
  | [], _, t, h => by simp at h
  | x :: ts, h, t, ht => by
    rcases List.mem_cons.1 ht with rfl | ht
    · exact h.1
    · exact allAt_mem h.2 t ht
variable {ops : Array Oper} {rest : List Oper} {Q : Exit → DS → Prop} {dst : Option Nat} {ty : TypeId} {pos : String} {af : Array Edge} {gd : Option (Tmp × Bool)}
/-- what such a callee hands back. -/
def rowRet (i : Nat) (e : TypeId) (zs os : List Int) : Option (List Int → Nat) → AV
  | none => .tup []
  | some r => .own i e 1 ((os.take (r zs)).map nI)
theorem OwnV.nums {C : Cx} {w : World} {v : Value} {i : Nat} {e : TypeId} {zs : List Int} (h : OwnV C w v i e 1 (zs.map nI)) :
    (v = .slice none 0 0 ∧ zs = []) ∨ ∃ b cap c, v = .slice (some ⟨b, 0, none⟩) zs.length cap ∧ C.κ i = some b ∧ C.B ≤ b ∧ w.heap[b]? = some (.cells c e (0, 0)) ∧ zs.length ≤ cap ∧ cap ≤ maxLen ∧ c.size = cap ∧ c.toList.take zs.length = zs.map (Value.int .i64) := by
  obtain ⟨xs, ⟨hl, hown⟩, _, hx⟩ := h.row
  rw [List.length_map] at hl hown
  have hxs := xs_nums hl hx
  rcases hown with ⟨rfl, h0⟩ | ⟨b, cap, c, rfl, h1, h2, h3, h4, h5, h6⟩
  · exact .inl ⟨rfl, List.eq_nil_of_length_eq_zero h0⟩
  · refine .inr ⟨b, cap, c, rfl, h.blk b rfl, h1, h2, h3, h4, by omega, ?_⟩
    rw [← hxs, ← h6, Nat.mul_one]
theorem OwnV.mkNums {C : Cx} {w : World} {i b cap : Nat} {e : TypeId} {zs : List Int} {c : Array Value} (hl : C.Lr i) (hκ : C.κ i = some b) (hB : C.B ≤ b) (h2 : w.heap[b]? = some (.cells c e (0, 0))) (h3 : zs.length ≤ cap) (h4 : cap ≤ maxLen) (h5 : c.size = cap)
    (h6 : c.toList.take zs.length = zs.map (Value.int .i64)) (hlim : zs.length ≤ 140737488355328) : OwnV C w (.slice (some ⟨b, 0, none⟩) zs.length cap) i e 1 (zs.map nI) := by
  refine ⟨hl, by simpa using hlim, fun c hc => ?_, fun b' hb' => ?_, zs.map (Value.int .i64), ⟨by simp, .inr ⟨b, cap, c, by simp, hB, h2, by simpa using h3, h4, by omega, by simpa using h6⟩⟩, fun u hu => ?_, fun i' j p hp => ?_⟩
  · obtain ⟨z, _, rfl⟩ := List.mem_map.1 hc; rfl
  · cases hb'; exact hκ
  · obtain ⟨z, _, rfl⟩ := List.mem_map.1 hu; rfl
  · unfold cellAt at hp
    rw [List.getElem?_map] at hp
    cases hz : zs[i']? with
    | none => rw [hz] at hp; simp at hp
    | some z =>
      rw [hz] at hp
      cases j with
      | zero =>
        simp [nI] at hp
        subst hp
        exact ⟨.int .i64 z, by rw [Nat.mul_one, Nat.add_zero, List.getElem?_map, hz]; rfl, .lit _⟩
      | succ j => simp [nI] at hp
theorem Eff.rowC {f : FuncId} {x : Operand} {tys : Array TypeId} {out : List Int → List Int} {ret : Option (List Int → Nat)} (hf : RowC P f out ret) (ts : List Nat) {i : Nat} {e : TypeId} {zs : List Int} (hx : δ.ev x = .own i e 1 (zs.map nI)) (hts : allAt δ (.own i e 1 (zs.map nI)) ts) (hr : δ.ob i = some .row)
    (ho : okT x = true) (hd : okD δ.n dst = true) :
    Eff P g ⟨dst, .call { callee := .value (.func f), args := #[x], argTypes := tys }, ty, pos, af, none⟩ δ ((putAll (δ.mapV (AV.kill i)) (.own i e 1 ((out zs).map nI)) ts).putd dst (rowRet i e zs (out zs) ret)) := by
  intro κ a w r
  right
  have hxv := (r.ra hx ho).own_inv
  have hrun := run_call (dst := dst) (ty := ty) (pos := pos) (af := af) (xs := #[x]) (tys := tys) (ρ := a.eval) (x := .func f) (f := f) rfl hf.enters w
  have hlim : zs.length ≤ 140737488355328 := by simpa using hxv.lim
  refine ⟨f, #[a.eval x], by simpa using hrun, ?_⟩
  have hnn : ∀ ts, okD (putAll (δ.mapV (AV.kill i)) (.own i e 1 ((out zs).map nI)) ts).n dst = true := fun ts => by rw [putAll_n]; exact hd
  have hlr : ∀ κ', ((δ.mapV (AV.kill i)).cx g κ').Lr i := fun κ' => by
    show (δ.mapV (AV.kill i)).ob i = some .row
    rw [ob_mapV, hr]; rfl
  have hoth : ∀ t ∈ ts, OwnV (δ.cx g κ) w (g.val a t) i e 1 (zs.map nI) := fun t ht => by
    have := r.env t
    rw [allAt_mem hts t ht] at this
    exact this.own_inv
  have hnil : ∀ {w' : World}, OwnV ((δ.mapV (AV.kill i)).cx g κ) w' (.slice none 0 0) i e 1 (([] : List Int).map nI) := fun {w'} =>
    ⟨hlr κ, (by simp), (fun c hc => by simp at hc), (fun b hb => by cases hb), ⟨[], ⟨by simp, .inl ⟨rfl, rfl⟩⟩, (fun u hu => by simp at hu), (fun i' j p hp => by simp [cellAt] at hp)⟩⟩
  rcases hxv.nums with ⟨hv, rfl⟩ | ⟨b, cap, c, hv, hκ, hB, hb, hcap, hmax, hcs, htk⟩
  · -- nothing there
    rw [hv]
    refine (hf.nil w).mono fun e' w' ⟨he, hbel⟩ => ?_
    have r1 := r.ext hbel
    have e0 : out [] = [] := List.eq_nil_of_length_eq_zero (by rw [hf.len]; rfl)
    have rk : Rel g (δ.mapV (AV.kill i)) κ a w' := by
      refine (r1.row hr (κ' := κ) (fun _ _ => rfl) ⟨rfl, rfl, rfl, Nat.le_refl _, fun _ _ _ => rfl⟩ (fun b hb' => ?_) (AV.kill i) rfl (fun G v av h => h.kill G)).1
      obtain ⟨c, e', h1⟩ := r1.obj i .row hr b hb'
      exact ⟨.inl hb', (Array.getElem?_eq_some_iff.1 h1).1, c, e', h1⟩
    have ra : Rel g (putAll (δ.mapV (AV.kill i)) (.own i e 1 ((out []).map nI)) ts) κ a w' := by
      refine rk.learnAll ts fun t ht => .own ?_
      have h1 := r1.env t
      rw [allAt_mem hts t ht] at h1
      rw [e0]
      rcases h1.own_inv.nums with ⟨h2, _⟩ | ⟨b, cap, c, h2, hκ, hB, hb, hcap, hmax, hcs, htk⟩
      · rw [h2]; exact hnil
      · rw [h2]; exact OwnV.mkNums (hlr κ) hκ hB hb hcap hmax hcs htk (by simp)
    refine ⟨_, κ, he, ra.putd (okD_spec (hnn ts)) ?_⟩
    cases ret with
    | none => exact .tup rfl (fun j u c h => by simp at h)
    | some rr =>
      show RA _ _ _ (.own i e 1 (((out []).take (rr [])).map nI))
      rw [e0, cx_putAll]
      exact .own (by simpa using hnil)
  · rw [hv]
    have hκ0 : κ i = some b := hκ
    have hblt : b < w.heap.size := (Array.getElem?_eq_some_iff.1 hb).1
    have hold : Sort.Holds (Value.int .i64) w b 0 zs.toArray := by
      intro j hj
      have hj' : j < zs.length := by simpa using hj
      refine ⟨?_, by rw [Nat.zero_add]; exact frozen_of hb _⟩
      rw [Nat.zero_add, cell_of hb]
      have h1 : (c.toList.take zs.length)[j]? = (zs.map (Value.int .i64))[j]? := by rw [htk]
      rw [List.getElem?_take, if_pos hj', Array.getElem?_toList, List.getElem?_map, List.getElem?_eq_getElem hj'] at h1
      rw [h1]
      simp [hj']
    refine (hf.calls b cap zs w hold hblt hlim hcap).mono fun e' w' ⟨he, n, os, hw'⟩ => ?_
    have hh : w'.heap[b]? = some (.cells (Sort.putCells (Value.int .i64) 0 (out zs).toArray c) e (0, 0)) := by rw [hw']; exact putRow_heap hb
    have hsz : (Sort.putCells (Value.int .i64) 0 (out zs).toArray c).size = c.size := by simp [Sort.putCells]
    have htk2 := putCells_take (c := c) (d := out zs) (by rw [hf.len]; omega)
    have rk : Rel g (δ.mapV (AV.kill i)) κ a w' := by
      refine (r.row hr (κ' := κ) (fun _ _ => rfl) (by rw [hκ0, hw']; exact putRow_turns _ _ _ _ _) (fun b' hb' => ?_) (AV.kill i) rfl (fun G v av h => h.kill G)).1
      obtain rfl : b = b' := Option.some.inj (hκ.symm.trans hb')
      exact ⟨.inl hκ, (Array.getElem?_eq_some_iff.1 hh).1, _, _, hh⟩
    have ra : Rel g (putAll (δ.mapV (AV.kill i)) (.own i e 1 ((out zs).map nI)) ts) κ a w' := by
      refine rk.learnAll ts fun t ht => .own ?_
      rcases (hoth t ht).nums with ⟨h2, h0⟩ | ⟨b', cap', c', h2, hκ', hB', hb', hcap', hmax', hcs', htk'⟩
      · have e0 : out zs = [] := List.eq_nil_of_length_eq_zero (by rw [hf.len, h0]; rfl)
        rw [h2, e0]; exact hnil
      · obtain rfl : b = b' := Option.some.inj (hκ.symm.trans hκ')
        rw [hb] at hb'
        simp only [Option.some.injEq, Obj.cells.injEq] at hb'
        obtain ⟨rfl, _⟩ := hb'
        rw [h2, ← hf.len zs]
        exact OwnV.mkNums (hlr κ) hκ hB hh (by rw [hf.len]; exact hcap') hmax' (by omega) htk2 (by rw [hf.len]; exact hlim)
    refine ⟨_, κ, he, ra.putd (okD_spec (hnn ts)) ?_⟩
    rw [cx_putAll]
    cases ret with
    | none => exact .tup rfl (fun j u c h => by simp at h)
    | some rr =>
      have hle := hf.retle rr rfl zs
      have hl2 : ((out zs).take (rr zs)).length = rr zs := by rw [List.length_take, hf.len]; omega
      show RA _ _ (.slice (some ⟨b, 0, none⟩) (rr zs) cap) (.own i e 1 (((out zs).take (rr zs)).map nI))
      refine .own ?_
      have := OwnV.mkNums (C := (δ.mapV (AV.kill i)).cx g κ) (w := w') (i := i) (b := b) (cap := cap) (e := e) (zs := (out zs).take (rr zs)) (hlr κ) hκ hB hh (by omega) hmax (by omega)
        (by rw [hl2, List.map_take, ← htk2, List.take_take, hf.len, Nat.min_eq_left (by omega)]) (by omega)
      rwa [hl2] at this
theorem AOps.rowC {f : FuncId} {x : Operand} {tys : Array TypeId} {out : List Int → List Int} {ret : Option (List Int → Nat)} (hf : RowC P f out ret) (ts : List Nat) {i : Nat} {e : TypeId} {zs : List Int} (hx : δ.ev x = .own i e 1 (zs.map nI)) (hts : allAt δ (.own i e 1 (zs.map nI)) ts) (hr : δ.ob i = some .row)
    (ho : okT x = true) (hd : okD δ.n dst = true) (hK : AOps .plain P g ops rest Q ((putAll (δ.mapV (AV.kill i)) (.own i e 1 ((out zs).map nI)) ts).putd dst (rowRet i e zs (out zs) ret))) :
    AOps .plain P g ops (⟨dst, .call { callee := .value (.func f), args := #[x], argTypes := tys }, ty, pos, af, none⟩ :: rest) Q δ :=
  AOps.eff rfl rfl (Eff.rowC hf ts hx hts hr ho hd) hK
theorem enters_of {f : FuncId} {fn : Func} {c : Code} (hf : P.funcs[f]? = some fn) (hb : fn.body = some c) (he : (fn.name == "runtime.NumGoroutine") = false) : ∀ vals w, (callFunc f vals).run P w = .ok (.enter f vals) w := fun vals w => by
  simp [callFunc, hf, hb]; simpa using he
end Go.Ab
/- A row's first part; append of made zeros to nothing; a capacity. -/
namespace Go.Ab
open Go Go.RowKit
variable {q : Md} {P : Program} {g : Ghost} {δ : DS} {κ : Nat → Option Nat} {a : Act} {w : World}
variable {ops : Array Oper} {rest : List Oper} {Q : Exit → DS → Prop} {dst : Option Nat} {ty : TypeId} {pos : String} {af : Array Edge} {gd : Option (Tmp × Bool)}
theorem zeroCells_one (z : Value) (n : Nat) : (Builtin.zeroCells #[z] n).toList = List.replicate n z := by
  apply List.ext_getElem
  · simp [Builtin.zeroCells]
  · intro j h1 h2
    have hj : j < n := by simpa using h2
    simp [Builtin.zeroCells, hj, Nat.mod_one]
theorem Eff.append_zeros {s x : Operand} {t tn e : TypeId} {n bytes : Nat} {z : Value} {kn : IntKind} (hs : δ.ev s = .pv (.lit (.slice none 0 0))) (hx : δ.ev x = litI (n : Nat)) (ht : P.underlying t = some (.slice e)) (htn : P.underlying tn = some (.int kn))
    (hi : (P.info? e).map (fun i => (i.size, i.zero, i.bytes)) = some (1, some z, bytes)) (hz1 : z.oneCell' = true) (ho : okT s = true) (ho' : okT x = true) (hd : okD δ.n dst = true) (h0 : 0 < n) (hl : n ≤ 140737488355328) (hb : n * bytes ≤ 281474976710656) :
    Eff P g ⟨dst, .call { callee := .builtin .append, args := #[s, x], argTypes := #[t, tn] }, ty, pos, af, gd⟩ δ ((δ.addOb .row).putd dst (.own δ.nx e 1 (List.replicate n [.lit z]))) := by
  intro κ a w r
  obtain ⟨i0, hi0, hs0, hz0, hb0⟩ : ∃ i0, P.info? e = some i0 ∧ i0.size = 1 ∧ i0.zero = some z ∧ i0.bytes = bytes := by
    cases h : P.info? e with
    | none => rw [h] at hi; simp at hi
    | some i0 => rw [h] at hi; simp at hi; exact ⟨i0, rfl, hi.1, hi.2.1, hi.2.2⟩
  have hrun := Lib.run_append_nil_zeros w t tn ty e i0 z .i64 kn ht htn hi0 hz0 n h0 (by omega) (by omega) (by rw [hb0]; exact hb)
  have hrun' : (execOp a.eval ⟨dst, .call { callee := .builtin .append, args := #[s, x], argTypes := #[t, tn] }, ty, pos, af, gd⟩).run P w = .ok (.value (.slice (some ⟨w.heap.size, 0, none⟩) n (grownCap w n 0 e))) (w.drew.alloc (.cells (Builtin.zeroCells z.cells n ++ Builtin.zeroCells z.cells (grownCap w n 0 e - n)) e)) := by
    simp only [execOp, resolve, invoke, builtin, Sem.run_bind, Sem.run_pure, Result.andThen_ok, List.map_toArray, List.map_cons, List.map_nil, r.lit hs ho, r.lit hx ho', hrun]
  have hge := grownCap_ge w n 0 e
  have hle := grownCap_le_maxLen w n 0 e (by simp only [maxLen]; omega)
  have r0 : Rel g δ κ a w.drew := r.ext (Below.drew (Below.refl _ _))
  have hsz : w.drew.heap.size = w.heap.size := rfl
  obtain ⟨r', G⟩ := r0.grow .row (.cells (Builtin.zeroCells z.cells n ++ Builtin.zeroCells z.cells (grownCap w n 0 e - n)) e) (fun C G hκ b hb => by
    have : w.drew.heap.size = b := Option.some.inj (hκ.symm.trans hb)
    subst this
    exact ⟨_, e, heap_alloc_new w.drew _⟩)
  refine .inl ⟨_, _, _, _, hrun', .inl rfl, r'.putd (okD_spec hd) (.own ?_)⟩
  have hc : z.cells = #[z] := cells_one hz1
  refine ⟨by show (δ.addOb .row).ob _ = _; rw [ob_addOb, if_pos rfl], by simpa using hl, fun c hc => ?_, fun b hb => ?_, List.replicate n z, ⟨by simp, .inr ⟨w.heap.size, _, _, by simp, r.hB, heap_alloc_new w.drew _, by simpa using hge, hle, ?_, ?_⟩⟩, fun u hu => ?_, fun i' j p hp => ?_⟩
  · rw [List.eq_of_mem_replicate hc]; rfl
  · simp only [Value.ownBlock, Option.some.injEq] at hb
    subst hb
    show upd _ _ _ _ = _
    simp [upd]
  · rw [hc]
    have h1 : (Builtin.zeroCells #[z] n).size = n := by have := congrArg List.length (zeroCells_one z n); simpa using this
    have h2 : (Builtin.zeroCells #[z] (grownCap w n 0 e - n)).size = grownCap w n 0 e - n := by have := congrArg List.length (zeroCells_one z (grownCap w n 0 e - n)); simpa using this
    rw [Array.size_append, h1, h2]; omega
  · rw [hc, Array.toList_append, zeroCells_one]
    simp
  · rw [List.eq_of_mem_replicate hu]; exact hz1
  · unfold cellAt at hp
    rw [List.getElem?_replicate] at hp
    by_cases hi' : i' < n
    · rw [if_pos hi'] at hp
      cases j with
      | zero =>
        simp at hp
        subst hp
        exact ⟨z, by rw [List.getElem?_replicate, if_pos (by omega)], .lit _⟩
      | succ j => simp at hp
    · rw [if_neg hi'] at hp; simp at hp
theorem AOps.append_zeros {s x : Operand} {t tn e : TypeId} {n bytes : Nat} {z : Value} {kn : IntKind} (hs : δ.ev s = .pv (.lit (.slice none 0 0))) (hx : δ.ev x = litI (n : Nat)) (ht : P.underlying t = some (.slice e)) (htn : P.underlying tn = some (.int kn))
    (hi : (P.info? e).map (fun i => (i.size, i.zero, i.bytes)) = some (1, some z, bytes)) (hz1 : z.oneCell' = true) (ho : okT s = true) (ho' : okT x = true) (hd : okD δ.n dst = true) (h0 : 0 < n) (hl : n ≤ 140737488355328) (hb : n * bytes ≤ 281474976710656)
    (hK : AOps .plain P g ops rest Q ((δ.addOb .row).putd dst (.own δ.nx e 1 (List.replicate n [.lit z])))) : AOps .plain P g ops (⟨dst, .call { callee := .builtin .append, args := #[s, x], argTypes := #[t, tn] }, ty, pos, af, none⟩ :: rest) Q δ :=
  AOps.eff rfl rfl (Eff.append_zeros hs hx ht htn hi hz1 ho ho' hd h0 hl hb) hK
theorem AOps.append_zerosI {s x : Operand} {t tn e : TypeId} {m : Int} {bytes : Nat} {z : Value} {kn : IntKind} (hs : δ.ev s = .pv (.lit (.slice none 0 0))) (hx : δ.ev x = litI m) (ht : P.underlying t = some (.slice e)) (htn : P.underlying tn = some (.int kn))
    (hi : (P.info? e).map (fun i => (i.size, i.zero, i.bytes)) = some (1, some z, bytes)) (hz1 : z.oneCell' = true) (ho : okT s = true) (ho' : okT x = true) (hd : okD δ.n dst = true) (hb : Nat.ble bytes 1000 = true) (h0 : 0 < m) (hl : m ≤ 100000000000)
    (hK : AOps .plain P g ops rest Q ((δ.addOb .row).putd dst (.own δ.nx e 1 (List.replicate m.toNat [.lit z])))) : AOps .plain P g ops (⟨dst, .call { callee := .builtin .append, args := #[s, x], argTypes := #[t, tn] }, ty, pos, af, none⟩ :: rest) Q δ :=
  AOps.append_zeros (n := m.toNat) hs (by rw [Int.toNat_of_nonneg (by omega)]; exact hx) ht htn hi hz1 ho ho' hd (by omega) (by omega) (by
    have h1 : bytes ≤ 1000 := by simpa using hb
    have h2 : m.toNat * bytes ≤ 100000000000 * 1000 := Nat.mul_le_mul (by omega) h1
    omega) hK
/-- cap of nothing. -/
theorem AOps.cap_nil {x : Operand} {t e : TypeId} (hx : δ.ev x = .pv (.lit (.slice none 0 0))) (ht : P.underlying t = some (.slice e)) (ho : okT x = true) (hd : okD δ.n dst = true)
    (hK : AOps q P g ops rest Q (δ.putd dst (litI 0))) : AOps q P g ops (⟨dst, .call { callee := .builtin .cap, args := #[x], argTypes := #[t] }, ty, pos, af, none⟩ :: rest) Q δ :=
  AOps.valw _ hd (fun κ a w r => ⟨.int .i64 0, fun w' _ => by
    have h1 := r.lit hx ho
    simp [execOp, resolve, invoke, builtin, Builtin.cap_, Sem.run_bind, Sem.run_pure, Result.andThen_ok, h1, run_underlying ht]; rfl, .pv (.lit _)⟩) hK
/-- the first elements of a row of the walk's own. -/
theorem AOps.slice_own {t e e' : TypeId} {x y : Operand} {i k : Nat} {m : Int} {els : List (List PV)} (hx : δ.ev x = .own i e' k els) (hy : δ.ev y = litI m) (ht : P.underlying t = some (.slice e)) (hk : (P.info? e).map (·.size) = some k)
    (ho : okT x = true) (ho' : okT y = true) (hd : okD δ.n dst = true) (h0 : 0 ≤ m) (hm : m.toNat ≤ els.length) (hK : AOps q P g ops rest Q (δ.putd dst (.own i e' k (els.take m.toNat)))) : AOps q P g ops (⟨dst, .slice t x none (some y) none, ty, pos, af, none⟩ :: rest) Q δ :=
  AOps.valw _ hd (fun κ a w r => by
    have h1 := (r.ra hx ho).own_inv
    obtain ⟨i0, hi0, hk0⟩ : ∃ i0, P.info? e = some i0 ∧ i0.size = k := by
      cases h : P.info? e with
      | none => rw [h] at hk; simp at hk
      | some i0 => rw [h] at hk; exact ⟨i0, rfl, by simpa using hk⟩
    have hyv : a.eval y = .int .i64 m := r.lit hy ho'
    obtain ⟨h, rfl⟩ : ∃ h : Nat, m = (h : Int) := ⟨m.toNat, by omega⟩
    rw [Int.toNat_natCast] at hm ⊢
    obtain ⟨a0, cap, hv, hcap, hb⟩ : ∃ a0 cap, a.eval x = .slice a0 els.length cap ∧ els.length ≤ cap ∧ OwnV (δ.cx g κ) w (.slice a0 h cap) i e' k (els.take h) := by
      obtain ⟨hl, hlim, hkk, hblk, xs, ⟨hxl, hown⟩, h1x, hxx⟩ := h1
      have mk : ∀ a0 cap, (∀ b, (Value.slice a0 h cap).ownBlock = some b → (δ.cx g κ).κ i = some b) → ((Value.slice a0 h cap = .slice none 0 0 ∧ h = 0) ∨ ∃ g0 cap' cur, Value.slice a0 h cap = .slice (some ⟨g0, 0, none⟩) h cap' ∧ (δ.cx g κ).B ≤ g0 ∧ w.heap[g0]? = some (.cells cur e' (0, 0)) ∧ h ≤ cap' ∧ cap' ≤ maxLen ∧ cur.size = cap' * k ∧ cur.toList.take (h * k) = xs.take (h * k)) → OwnV (δ.cx g κ) w (.slice a0 h cap) i e' k (els.take h) := by
        intro a0 cap hbk hor
        have hlen : (els.take h).length = h := by rw [List.length_take]; omega
        have hmul : h * k ≤ els.length * k := Nat.mul_le_mul_right k hm
        refine ⟨hl, by omega, fun c hc => hkk c (List.mem_of_mem_take hc), hbk, xs.take (h * k), ⟨by rw [hlen, List.length_take]; omega, by rw [hlen]; exact hor⟩, fun u hu => h1x u (List.mem_of_mem_take hu), fun i' j p hp => ?_⟩
        unfold cellAt at hp
        rw [List.getElem?_take] at hp
        by_cases hih : i' < h
        · rw [if_pos hih] at hp
          obtain ⟨u, hu, hu2⟩ := hxx i' j p (by unfold cellAt; exact hp)
          refine ⟨u, ?_, hu2⟩
          have hjk : j < k := by
            rw [Option.bind_eq_some_iff] at hp
            obtain ⟨c, hc1, hc2⟩ := hp
            have := hkk c (List.mem_of_getElem? hc1)
            have := (List.getElem?_eq_some_iff.1 hc2).1
            omega
          have : (i' + 1) * k ≤ h * k := Nat.mul_le_mul_right k hih
          rw [Nat.add_mul, Nat.one_mul] at this
          rw [List.getElem?_take, if_pos (by omega)]; exact hu
        · rw [if_neg hih] at hp; simp at hp
      rcases hown with ⟨hn, hz⟩ | ⟨g0, cap, cur, hv, hg, h3, hle, hcm, hcs, htk⟩
      · refine ⟨none, 0, by rw [hn, hz], by omega, mk none 0 (fun b hb => by cases hb) (.inl ⟨?_, by omega⟩)⟩
        rw [show h = 0 by omega]
      · refine ⟨_, cap, hv, hle, mk _ cap (fun b hb => hblk b (by rw [hv]; exact hb)) (.inr ⟨g0, cap, cur, rfl, hg, h3, by omega, hcm, hcs, ?_⟩)⟩
        rw [← htk, List.take_take, Nat.min_eq_left (Nat.mul_le_mul_right k hm)]
    have hrun : ∀ w, (execOp a.eval ⟨dst, .slice t x none (some y) none, ty, pos, af, none⟩).run P w = .ok (.value (.slice a0 h cap)) w := by
      intro w
      have hb1 : ∀ w, (Instr.sliceBounds true els.length cap none (some (.int .i64 (h : Int))) none).run P w = .ok (0, h, cap) w := by
        intro w
        have e1 : (0 : Int) ≤ (h : Int) ∧ (h : Int) ≤ (cap : Int) := by omega
        simp [Instr.sliceBounds, Instr.sliceBound, asIntOf, e1]
        intro h0; exfalso; omega
      simp only [execOp, Instr.sliceAt, Instr.slice, run_underlying ht, hv, hyv, Sem.run_bind, Result.andThen_ok, Option.map_none, Option.map_some, hb1, sizeOf, typeInfo, Sem.run_pure]
      cases a0 with
      | none => simp [hi0, hk0]
      | some ad =>
        simp [hi0, hk0]
        intro _
        cases ad; simp [Addr.add]
    exact ⟨_, fun w' _ => hrun w', .own hb⟩) hK
/-- a part of nothing. -/
theorem AOps.slice_nil {t e : TypeId} {x y : Operand} (hx : δ.ev x = .pv (.lit (.slice none 0 0))) (hy : δ.ev y = litI 0) (ht : P.underlying t = some (.slice e)) (hk : ((P.info? e).map (·.size)).isSome = true)
    (ho : okT x = true) (ho' : okT y = true) (hd : okD δ.n dst = true) (hK : AOps q P g ops rest Q (δ.putd dst (.pv (.lit (.slice none 0 0))))) : AOps q P g ops (⟨dst, .slice t x none (some y) none, ty, pos, af, none⟩ :: rest) Q δ :=
  AOps.valw _ hd (fun κ a w r => by
    obtain ⟨i0, hi0⟩ : ∃ i0, P.info? e = some i0 := by
      cases h : P.info? e with
      | none => rw [h] at hk; simp at hk
      | some i0 => exact ⟨i0, rfl⟩
    have h1 : a.eval x = .slice none 0 0 := r.lit hx ho
    have h2 : a.eval y = .int .i64 0 := r.lit hy ho'
    refine ⟨.slice none 0 0, fun w' _ => ?_, .pv (.lit _)⟩
    have hb1 : ∀ w, (Instr.sliceBounds true 0 0 none (some (.int .i64 (0 : Int))) none).run P w = .ok (0, 0, 0) w := by
      intro w
      simp [Instr.sliceBounds, Instr.sliceBound, asIntOf]
    simp only [execOp, Instr.sliceAt, Instr.slice, run_underlying ht, h1, h2, Sem.run_bind, Result.andThen_ok, Option.map_none, Option.map_some, hb1, sizeOf, typeInfo, Sem.run_pure]
    simp [hi0]) hK
namespace Nf
variable {n x : Nat} {e : List (Nat × AV)} {o : List (Nat × Option Ob)}
theorem pum (d : Nat) (v : AV) : DS.put ⟨n, e, o, x⟩ d v = ⟨n, (d, v) :: e, o, x⟩ := rfl
theorem pu0 (δ : DS) (v : AV) : putAll δ v [] = δ := rfl
theorem pu1 (δ : DS) (v : AV) (t : Nat) (ts : List Nat) : putAll δ v (t :: ts) = (putAll δ v ts).put t v := rfl
theorem rr0 (i : Nat) (e : TypeId) (zs os : List Int) : rowRet i e zs os none = .tup [] := rfl
theorem rr1 (i : Nat) (e : TypeId) (zs os : List Int) (r : List Int → Nat) : rowRet i e zs os (some r) = .own i e 1 ((os.take (r zs)).map nI) := rfl
set_option linter.defProp false in
def rwR := And.intro @pum (And.intro @pu0 (And.intro @pu1 (And.intro @rr0 @rr1)))
end Nf
end Go.Ab
/- Contracts of callees that return a row of their own making; the caller owns it from then on. -/
namespace Go.Ab
open Go Go.RowKit
variable {P : Program} {g : Ghost} {δ : DS} {κ : Nat → Option Nat} {a : Act} {w : World}
variable {ops : Array Oper} {rest : List Oper} {Q : Exit → DS → Prop} {dst : Option Nat} {ty : TypeId} {pos : String} {af : Array Edge}
/-- A row that a callee has made (or nothing). -/
theorem Rel.adoptB (r : Rel g δ κ a w) {w' : World} (hb : Below w.heap.size w w') (bo : Option Nat) (hbo : ∀ b, bo = some b → w.heap.size ≤ b ∧ b < w'.heap.size ∧ ∃ c e, w'.heap[b]? = some (.cells c e (0, 0))) :
    Rel g (δ.addOb .row) (upd κ δ.nx bo) a w' ∧ Goes (δ.cx g κ) w ((δ.addOb .row).cx g (upd κ δ.nx bo)) w' := by
  have hold : ∀ k, k < w.heap.size → w'.heap[k]? = w.heap[k]? := hb.block
  have hnl : ¬ δ.live δ.nx := fun h => Nat.lt_irrefl _ (r.nx _ h)
  have hne : ∀ i, δ.live i → δ.nx ≠ i := fun i h e => hnl (e ▸ h)
  have hlive : ∀ i, (δ.addOb .row).live i → i = δ.nx ∨ δ.live i := by
    intro i ⟨o', h⟩
    rw [ob_addOb] at h
    by_cases e : δ.nx = i
    · exact .inl e.symm
    · rw [if_neg e] at h; exact .inr ⟨o', h⟩
  have G : Goes (δ.cx g κ) w ((δ.addOb .row).cx g (upd κ δ.nx bo)) w' :=
    { B := rfl, size := hb.size
      N := fun b h1 h2 => ⟨⟨h2.1, fun i hi => by
        show upd κ δ.nx bo i ≠ some b
        rcases hlive i hi with rfl | hi
        · simp only [upd, if_true]; intro e; have := (hbo b e).1; omega
        · simp only [upd, hne i hi, if_false]; exact h2.2 i hi⟩, hold b h1⟩
      Lr := fun i hi => by
        have hi' := hne i (DS.lr_live hi)
        refine ⟨?_, by show upd _ _ _ i = κ i; simp [upd, hi'], fun b hκ => hold b (r.lo i b (DS.lr_live hi) hκ).2⟩
        show (δ.addOb .row).ob i = _
        rw [ob_addOb, if_neg hi']; exact hi
      Lb := fun i hi => by
        have hi' := hne i (DS.lb_live hi)
        refine ⟨?_, by show upd _ _ _ i = κ i; simp [upd, hi']⟩
        obtain ⟨o', h1, h2⟩ := hi
        exact ⟨o', by rw [ob_addOb, if_neg hi']; exact h1, h2⟩ }
  refine ⟨?_, G⟩
  exact
    { n := r.n, dfr := r.dfr.goes fun k _ hk => hold k (heap_lt hk), env := fun j => G.ra (r.env j)
      obj := fun i o' h => by
        rw [ob_addOb] at h
        by_cases e : δ.nx = i
        · rw [if_pos e] at h; cases h; subst e
          intro b hκ
          have hκ' : bo = some b := by
            have : upd κ δ.nx bo δ.nx = some b := hκ
            simpa [upd] using this
          exact (hbo b hκ').2.2
        · rw [if_neg e] at h
          exact (r.obj i o' h).goes G (by show upd _ _ _ i = κ i; simp [upd, e]) (fun b hκ => hold b (r.lo i b ⟨o', h⟩ hκ).2)
      inj := fun i j b h1 h2 h3 h4 => by
        rcases hlive i h1 with rfl | h1
        · rcases hlive j h2 with rfl | h2
          · rfl
          · simp only [upd, if_true] at h3
            simp only [upd, hne j h2, if_false] at h4
            exact absurd (r.lo j _ h2 h4).2 (by have := (hbo b h3).1; omega)
        · rcases hlive j h2 with rfl | h2
          · simp only [upd, if_true] at h4
            simp only [upd, hne i h1, if_false] at h3
            exact absurd (r.lo i _ h1 h3).2 (by have := (hbo b h4).1; omega)
          · simp only [upd, hne i h1, hne j h2, if_false] at h3 h4
            exact r.inj i j b h1 h2 h3 h4
      lo := fun i b h1 h2 => by
        rcases hlive i h1 with rfl | h1
        · simp only [upd, if_true] at h2
          have := hbo b h2
          have := r.hB
          omega
        · simp only [upd, hne i h1, if_false] at h2
          have := r.lo i b h1 h2
          have := hb.size
          omega
      nx := fun i h => by
        show i < δ.nx + 1
        rcases hlive i h with rfl | h
        · omega
        · have := r.nx i h; omega
      wt := fun k hk => ⟨fun b hkb => ⟨((r.wt k hk).1 b hkb).1, (hold b (wt_lt ((r.wt k hk).1 b hkb))).trans ((r.wt k hk).1 b hkb).2⟩, fun i b hl hi hκ hkb => by
        rcases hlive i hl with rfl | hi'
        · simp only [upd, if_true] at hκ
          have := (hbo b hκ).1
          exact absurd (wt_lt ((r.wt k hk).1 _ hkb)) (by omega)
        · simp only [upd, hne i hi', if_false] at hκ
          refine (r.wt k hk).2 i b hi' ?_ hκ hkb
          refine hi.imp (fun hi => ?_) id
          have hi2 : (δ.addOb .row).ob i = some .row := hi
          rw [ob_addOb, if_neg (hne i hi')] at hi2
          exact hi2⟩
      below := r.below.trans (hb.mono r.hB)
      hB := Nat.le_trans r.hB hb.size
      N0 := r.N0 }
/-- a fresh row: v is a slice over it. -/
structure Fresh (N : Nat → Prop) (w : World) (B : Nat) (v : Value) (e : TypeId) (k : Nat) (els : List (List PV)) : Prop where
  lim : els.length ≤ 140737488355328
  hk : ∀ c ∈ els, c.length = k
  row : ∃ xs, w.ownsRow B e k v els.length xs ∧ (∀ u ∈ xs, u.oneCell' = true) ∧ ∀ i' j p, cellAt els i' j = some p → ∃ u, xs[i' * k + j]? = some u ∧ RP (fun b => N b ∧ v.ownBlock ≠ some b) w u p
structure FnO (P : Program) (f : FuncId) (args : List AV) (e : TypeId) (k : Nat) (els : List (List PV)) : Prop where
  enters : ∀ vals w, (callFunc f vals).run P w = .ok (.enter f vals) w
  calls : ∀ (N : Nat → Prop) (w : World) (vals : Array Value), (∀ b, w.heap.size ≤ b → N b) → vals.size = args.length →
    (∀ (j : Nat) (v : Value) (av : AV), vals[j]? = some v → args[j]? = some av → RA (pcx N) w v av) →
    Calls P f vals w fun en w' => ∃ v, en = .returned v ∧ Below w.heap.size w w' ∧ Fresh N w' w.heap.size v e k els
theorem AOps.callo {f : FuncId} {xs : List Operand} {tys : Array TypeId} {args : List AV} {e : TypeId} {k : Nat} {els : List (List PV)} (hf : FnO P f args e k els) (hargs : Args false δ xs args) (hd : okD δ.n dst = true)
    (hK : AOps .plain P g ops rest Q ((δ.addOb .row).putd dst (.own δ.nx e k els))) : AOps .plain P g ops (⟨dst, .call { callee := .value (.func f), args := xs.toArray, argTypes := tys }, ty, pos, af, none⟩ :: rest) Q δ := by
  intro κ a w r0
  show wpListIn _ _ P ops _ (_ :: rest) a w
  refine wpl_plain rfl rfl fun K hK' => ?_
  unfold Oper.wpF
  rw [run_call (f := f) rfl hf.enters, Oper.uponIn_enter]
  refine ⟨fun h => by simp at h, (callsIn_any (hf.calls (fun b => (δ.cx g κ).N b ∨ w.heap.size ≤ b) w _ (fun _ h => .inr h) (by simp [hargs.len]) (hargs.ras r0 (fun _ _ h => .inl h) (fun h => by simp at h)))).mono ?_⟩
  rintro en w' ⟨v, rfl, hb, hv⟩
  have hbo : ∀ b, v.ownBlock = some b → w.heap.size ≤ b ∧ b < w'.heap.size ∧ ∃ c e, w'.heap[b]? = some (.cells c e (0, 0)) := by
    intro b hbv
    obtain ⟨xs, ⟨_, hown⟩, _⟩ := hv.row
    rcases hown with ⟨rfl, _⟩ | ⟨b0, cap, cur, rfl, h1, h2, _⟩
    · cases hbv
    · cases hbv
      exact ⟨h1, (Array.getElem?_eq_some_iff.1 h2).1, cur, e, h2⟩
  obtain ⟨r1, G⟩ := r0.adoptB hb v.ownBlock hbo
  refine hK' _ _ (hK _ _ _ (r1.putd (okD_spec hd) (.own ?_)))
  obtain ⟨xs, ⟨hxl, hown⟩, h1, hx⟩ := hv.row
  refine ⟨by show (δ.addOb .row).ob _ = _; rw [ob_addOb, if_pos rfl], hv.lim, hv.hk, fun b hbv => by show upd _ _ _ _ = _; simp [upd, hbv], xs, ⟨hxl, ?_⟩, h1, fun i' j p hp => ?_⟩
  · rcases hown with h | ⟨b0, cap, cur, h2, h3, h4⟩
    · exact .inl h
    · exact .inr ⟨b0, cap, cur, h2, Nat.le_trans r0.hB h3, h4⟩
  · obtain ⟨u, hu, hr⟩ := hx i' j p hp
    refine ⟨u, hu, hr.mono (Nat.le_refl _) fun b _ hN => ⟨?_, rfl⟩⟩
    have hlive : ∀ i, (δ.addOb .row).live i → i = δ.nx ∨ δ.live i := by
      intro i ⟨o', h⟩
      rw [ob_addOb] at h
      by_cases e : δ.nx = i
      · exact .inl e.symm
      · rw [if_neg e] at h; exact .inr ⟨o', h⟩
    have hnl : ∀ i, δ.live i → δ.nx ≠ i := fun i h e => Nat.lt_irrefl _ (r0.nx _ (e ▸ h))
    refine ⟨?_, fun i hi => ?_⟩
    · rcases hN.1 with h | h
      · exact h.1
      · exact r0.N0 b (Nat.le_trans r0.hB h)
    · show upd κ δ.nx v.ownBlock i ≠ some b
      rcases hlive i hi with rfl | hi
      · simp only [upd, if_true]; exact hN.2
      · simp only [upd, hnl i hi, if_false]
        rcases hN.1 with h | h
        · exact h.2 i hi
        · intro e
          have := (r0.lo i b hi e).2
          omega
/-- the function's end, a row handed out. -/
def EndsO (P : Program) (rs : List ResultVar) (e : TypeId) (k : Nat) (els : List (List PV)) : Exit → DS → Prop
  | .normal, δ | .ret, δ => (∃ i, Res P δ rs (.own i e k els)) ∨ (els = [] ∧ Res P δ rs (.pv (.lit (.slice none 0 0))))
  | _, _ => False
theorem FnO.enter {f : FuncId} {fn : Func} {c : Code} {rs : List ResultVar} {n : Nat} {args : List AV} {e : TypeId} {k : Nat} {els : List (List PV)} (hf : P.funcs[f]? = some fn) (hb : fn.body = some c) (hrs : fn.results = rs.toArray) (hn : fn.ntmps = n) (hna : Nat.ble args.length n = true)
    (hna' : Nat.ble n HS = true) (he : (fn.name == "runtime.NumGoroutine") = false) (h : ∀ g : Ghost, g.ro = none → g.wt = none → AW P g c (EndsO P rs e k els) (start n args)) : FnO P f args e k els := by
  refine ⟨fun vals w => by simp [callFunc, hf, hb]; simpa using he, fun N w vals hN hs hargs => ?_⟩
  have hle : args.length ≤ n := by simpa using hna
  have hnH : n ≤ HS := by simpa using hna'
  let g : Ghost := { B := w.heap.size, w0 := w, N0 := N, held := fun _ => undef, ro := none, mks := [], wt := none }
  have hnl : ∀ i, ¬ (start n args).live i := fun i ⟨o, h⟩ => by cases h
  refine callsIn_wide.1 (callsIn_of_wp_marks (n := 0) hf hb trivial (wpIn_mono (h g rfl rfl (fun _ => none) _ w ?_) ?_))
  · exact
    { n := by simp [hn, start]; omega
      dfr := ⟨[], rfl, by simp [g], by simp [g]⟩
      env := fun j => by
        by_cases hj : j < args.length
        · have h1 : (start n args).get j = args[j] := look_enum args 0 j _ (Nat.zero_le _) (by simp [hj])
          have h2 : g.val { tmps := vals ++ Array.replicate (fn.ntmps - vals.size) undef, defers := [] } j = vals[j]'(by omega) := by
            unfold Ghost.val
            rw [if_pos (by omega)]
            simp [Array.getD_eq_getD_getElem?, Array.getElem?_append, hs, hj]
          rw [h1, h2]
          exact (hargs j _ _ (Array.getElem?_eq_getElem (by omega)) (List.getElem?_eq_getElem hj)).of_pcx _ fun b _ h => ⟨h, fun i hi => absurd hi (hnl i)⟩
        · have h1 : (start n args).get j = .any := look_enum_out args 0 j (by omega)
          rw [h1]; exact .any _
      obj := fun i o h => by cases h
      inj := fun i j b h => absurd h (hnl i)
      lo := fun i b h => absurd h (hnl i)
      nx := fun i h => absurd h (hnl i)
      wt := fun k hk => by cases hk
      below := Below.refl _ _
      hB := Nat.le_refl _
      N0 := hN }
  · rintro ex a' w' ⟨δ', κ', hq, r'⟩
    have fin : ∀ i, Res P δ' rs (.own i e k els) → LeavesInM Fence.wide 0 P fn a'.tmps (fun en w' => ∃ v, en = .returned v ∧ Below w.heap.size w w' ∧ Fresh N w' w.heap.size v e k els) a'.defers .returning w' := by
      intro i h1
      exact leaves (g := g) rfl hrs h1 r' (fun w2 r2 u hu => by
        have ho := hu.own_inv
        refine ⟨u, rfl, r2.below, ho.lim, ho.hk, ?_⟩
        obtain ⟨xs, h3, h4, h5⟩ := ho.row
        refine ⟨xs, h3, h4, fun i' j p hp => ?_⟩
        obtain ⟨v, hv, hr⟩ := h5 i' j p hp
        refine ⟨v, hv, hr.mono (Nat.le_refl _) fun b _ hN => ⟨⟨hN.1, fun hb => ?_⟩, rfl⟩⟩
        exact hN.2 i (DS.lr_live ho.live) (ho.blk b hb))
    have finN : els = [] → Res P δ' rs (.pv (.lit (.slice none 0 0))) → LeavesInM Fence.wide 0 P fn a'.tmps (fun en w' => ∃ v, en = .returned v ∧ Below w.heap.size w w' ∧ Fresh N w' w.heap.size v e k els) a'.defers .returning w' := by
      intro h0 h1
      exact leaves (g := g) rfl hrs h1 r' (fun w2 r2 u hu => by
        have hu := hu.lit
        subst hu
        subst h0
        exact ⟨_, rfl, r2.below, by simp, fun c hc => by simp at hc, [], World.ownsRow_nil _ _ _ _, fun u hu => by simp at hu, fun i' j p hp => by simp [cellAt] at hp⟩)
    cases ex with
    | normal =>
      rcases hq with ⟨i, h1⟩ | ⟨h0, h1⟩
      · exact fin i h1
      · exact finN h0 h1
    | ret =>
      rcases hq with ⟨i, h1⟩ | ⟨h0, h1⟩
      · exact fin i h1
      · exact finN h0 h1
    | _ => exact hq.elim
theorem endsO_ret {rs : List ResultVar} {i : Nat} {e : TypeId} {k : Nat} {els els' : List (List PV)} (h : Res P δ rs (.own i e k els')) (he : els' = els) : EndsO P rs e k els .ret δ := .inl ⟨i, he ▸ h⟩
theorem endsO_nil {rs : List ResultVar} {e : TypeId} {k : Nat} {els : List (List PV)} (h : Res P δ rs (.pv (.lit (.slice none 0 0)))) (he : els = []) : EndsO P rs e k els .ret δ := .inr ⟨he, h⟩
theorem WV.nilpvE {δ δ' : DS} {k : Nat} {els : List (List PV)} (h : els = []) : WV δ δ' (.pv (.lit (.slice none 0 0))) (.pv (.slice k els)) := by rw [h]; exact .nilpv k
end Go.Ab
/- A field of an element of a row of the walk's own, read; a store of a whole element of several cells into such a row. -/
namespace Go.Ab
open Go Go.RowKit
variable {P : Program} {g : Ghost} {δ : DS} {q : Md}
variable {ops : Array Oper} {rest : List Oper} {Q : Exit → DS → Prop} {dst : Option Nat} {ty : TypeId} {pos : String} {af : Array Edge}
/-- values told whole, one by one. -/
inductive PvL : List AV → List PV → Prop
  | nil : PvL [] []
  | cons {p : PV} {vs : List AV} {ps : List PV} (h : PvL vs ps) : PvL (.pv p :: vs) (p :: ps)
theorem PvL.spec {vs : List AV} {ps : List PV} (h : PvL vs ps) : vs = ps.map .pv := by
  induction h with
  | nil => rfl
  | cons h ih => rw [ih]; rfl
/-! slices built of whole elements of several cells -/
inductive PvR (δ : DS) (k : Nat) : Nat → List (Nat × Operand) → List (List PV) → Prop
  | nil {i : Nat} : PvR δ k i [] []
  | cons {i : Nat} {x : Operand} {vs : List AV} {ps : List PV} {r : List (Nat × Operand)} {pss : List (List PV)} (h : δ.ev x = .agg vs) (hp : PvL vs ps) (hk : vs.length = k) (h1 : AV.ones vs = true) (ho : okT x = true) (hr : PvR δ k (i + 1) r pss) : PvR δ k i ((i, x) :: r) (ps :: pss)
theorem setsA_eq : ∀ (vs cells : List AV) (off : Nat), off + vs.length ≤ cells.length → setsA cells off vs = cells.take off ++ vs ++ cells.drop (off + vs.length)
  | [], cells, off, _ => by simp [setsA]
  | v :: vs, cells, off, h => by
    have h' : off + (vs.length + 1) ≤ cells.length := by simpa using h
    show setsA (cells.set off v) (off + 1) vs = _
    rw [setsA_eq vs (cells.set off v) (off + 1) (by rw [List.length_set]; omega)]
    have e1 : (cells.set off v).take (off + 1) = cells.take off ++ [v] := by
      rw [List.take_succ_eq_append_getElem (by rw [List.length_set]; omega), List.getElem_set_self]
      congr 1
      rw [List.take_set, List.set_eq_of_length_le (by rw [List.length_take]; omega)]
    have e2 : (cells.set off v).drop (off + 1 + vs.length) = cells.drop (off + (v :: vs).length) := by
      rw [List.drop_set_of_lt (by omega)]
      congr 1
      simp; omega
    rw [e1, e2]
    simp
theorem PvR.fill {δ : DS} {k : Nat} {i : Nat} {parts : List (Nat × Operand)} {pss : List (List PV)} (h : PvR δ k i parts pss) : ∀ cells : List AV, cells.length = (i + pss.length) * k → fillA (fun i => some (i * k, k)) cells (parts.map fun p => (p.1, δ.ev p.2)) = some (cells.take (i * k) ++ pss.flatten.map .pv) := by
  induction h with
  | nil =>
    intro cells hc
    simp [fillA]
    rw [List.take_of_length_le]
    simp at hc; omega
  | @cons i x vs ps r pss h hp hk h1 ho hr ih =>
    intro cells hc
    have hm : (i + (ps :: pss).length) * k = i * k + k + pss.length * k := by
      rw [List.length_cons, show i + (pss.length + 1) = i + 1 + pss.length by omega, Nat.add_mul, Nat.add_mul, Nat.one_mul]
    have hle : i * k + vs.length ≤ cells.length := by omega
    show (match some (i * k, k) with
      | none => none
      | some (off, size) => bif Nat.beq (δ.ev x).cellsOf.length size && Nat.ble (off + (δ.ev x).cellsOf.length) cells.length && AV.ones (δ.ev x).cellsOf then fillA _ (setsA cells off (δ.ev x).cellsOf) _ else none) = _
    rw [h]
    have hb1 : Nat.beq vs.length k = true := by rw [hk]; simp
    have hb2 : Nat.ble (i * k + vs.length) cells.length = true := by simpa using hle
    simp only [AV.cellsOf, hb1, hb2, h1, Bool.and_self, cond_true]
    rw [setsA_eq vs cells (i * k) hle, ih _ (by
      simp only [List.length_append, List.length_take, List.length_drop]
      rw [show (i + 1 + pss.length) * k = i * k + k + pss.length * k by rw [Nat.add_mul, Nat.add_mul, Nat.one_mul]]
      omega)]
    have e : ((cells.take (i * k) ++ vs ++ cells.drop (i * k + vs.length)).take ((i + 1) * k)) = cells.take (i * k) ++ vs := by
      rw [List.take_left' ]
      rw [List.length_append, List.length_take, Nat.add_mul, Nat.one_mul]
      omega
    rw [e, hp.spec]
    simp
/-! a struct's nil slices, told as slices without elements -/
inductive NilC : Bool → List AV → List AV → Prop
  | nil : NilC false [] []
  | here {b : Bool} {vs vs' : List AV} (h : NilC b vs vs') : NilC true (.pv (.lit (.slice none 0 0)) :: vs) (.pv (.slice 1 []) :: vs')
  | skip {b : Bool} {v : AV} {vs vs' : List AV} (h : NilC b vs vs') : NilC b (v :: vs) (v :: vs')
theorem ra_nil {C : Cx} {w : World} {v : Value} (h : RA C w v (.pv (.lit (.slice none 0 0)))) (k : Nat) : RA C w v (.pv (.slice k [])) := by
  have h1 := h.lit
  subst h1
  exact .pv (.slice 0 0 (fun _ _ => undef) rfl (by simp) (by simp) (fun h => absurd rfl h) (fun c hc => by simp at hc) (fun i j p hp => by simp [cellAt] at hp) (fun i j p hp => by simp [cellAt] at hp))
theorem NilC.ra {C : Cx} {w : World} {b : Bool} {vs vs' : List AV} (h : NilC b vs vs') : vs.length = vs'.length ∧ ∀ (j : Nat) (u : Value) (c c' : AV), vs[j]? = some c → vs'[j]? = some c' → RA C w u c → RA C w u c' := by
  induction h with
  | nil => exact ⟨rfl, fun j u c c' h => by simp at h⟩
  | here h ih =>
    refine ⟨by simp [ih.1], fun j u c c' h1 h2 h3 => ?_⟩
    cases j with
    | zero => simp at h1 h2; subst h1; subst h2; exact ra_nil h3 1
    | succ j => exact ih.2 j u c c' (by simpa using h1) (by simpa using h2) h3
  | skip h ih =>
    refine ⟨by simp [ih.1], fun j u c c' h1 h2 h3 => ?_⟩
    cases j with
    | zero => simp at h1 h2; subst h1; subst h2; exact h3
    | succ j => exact ih.2 j u c c' (by simpa using h1) (by simpa using h2) h3
/-! a struct built out of slots reads no memory -/
theorem Frees.build0 {gd : Option (Tmp × Bool)} {t : TypeId} {parts : List (Nat × Operand)} {fs : Array Field} {z : Value} {cells : List AV} (hs : P.underlying t = some (.struct fs)) (hz : (P.info? t).bind (·.zero) = some z) (h1 : z.cells.toList.all (·.oneCell') = true) (hall : fs.toList.all (fun f => (P.info? f.type).isSome) = true)
    (ho : parts.all (fun p => okT p.2) = true) (hf : fillA (placeOf P fs) (z.cells.toList.map fun v => .pv (.lit v)) (parts.map fun p => (p.1, δ.ev p.2)) = some cells) :
    Frees P ⟨dst, .build t parts.toArray, ty, pos, af, gd⟩ δ (.agg cells) := by
  intro g κ a w r
  obtain ⟨i0, hi0, hz0⟩ : ∃ i0, P.info? t = some i0 ∧ i0.zero = some z := by
    cases h : P.info? t with
    | none => rw [h] at hz; simp at hz
    | some i0 => rw [h] at hz; exact ⟨i0, rfl, by simpa using hz⟩
  have hpl := fun w1 => run_places (P := P) fs.toList w1 #[] hall
  obtain ⟨c', h2, h3⟩ := fill_sound (C := δ.cx g κ) (w := w) (place := placeOf P fs) (place' := fun i => ((#[] : Array (Nat × Nat)) ++ (fs.toList.map fun f => (f.offset, ((P.info? f.type).map (·.size)).getD 0)).toArray)[i]?)
    (fun i x h => by
      unfold placeOf at h
      cases hfi : fs[i]? with
      | none => rw [hfi] at h; simp at h
      | some f =>
        rw [hfi] at h
        simp only [Option.bind_some, Option.map_eq_some_iff] at h
        obtain ⟨ii, h4, rfl⟩ := h
        simp [hfi, h4])
    (parts.map fun p => (p.1, a.eval p.2)) (parts.map fun p => (p.1, δ.ev p.2)) z.cells _ cells (by simp) (fun j x y h4 h5 => by
      simp only [List.getElem?_map, Option.map_eq_some_iff] at h4 h5
      obtain ⟨p, h6, rfl⟩ := h4
      obtain ⟨p', h7, rfl⟩ := h5
      rw [h6] at h7; cases h7
      exact ⟨rfl, r.evc p.2 (okT_spec (by simpa using (List.all_eq_true.1 ho) p (List.mem_of_getElem? h6)))⟩)
    ⟨by simp, fun j u av h4 h5 => by
      simp only [List.getElem?_map, Option.map_eq_some_iff] at h5
      obtain ⟨v, h5, rfl⟩ := h5
      have : v = u := by have := h4; rw [← Array.getElem?_toList, h5] at this; exact Option.some.inj this
      subst this
      exact ⟨.pv (.lit _), by simpa using (List.all_eq_true.1 h1) _ (List.mem_of_getElem? h5)⟩⟩ hf
  refine ⟨.agg c', fun w1 => ?_, .agg h3.1 fun j u c h4 h5 => (h3.2 j u c h4 h5).1⟩
  have hmap : (fs.mapM fun (f : Field) => (do pure (f.offset, ← sizeOf f.type) : Sem (Nat × Nat))) = fs.toList.foldlM (fun (acc : Array (Nat × Nat)) (f : Field) => do let s ← sizeOf f.type; pure (acc.push (f.offset, s))) #[] := by
    rw [Array.mapM_eq_foldlM, ← Array.foldlM_toList]
    congr 1
    funext acc f
    simp
  have hzr : ∀ w, (zeroValue t).run P w = .ok z w := fun w => by simp [zeroValue, typeInfo, hi0, hz0]
  simp only [execOp, Instr.build, Sem.run_bind, hzr, Result.andThen_ok, run_underlying hs, hmap, hpl, List.map_toArray, h2, Sem.run_pure]
theorem Frees.build (t : TypeId) (offs : List Nat) {gd : Option (Tmp × Bool)} {l : List Value} {parts : List (Nat × Operand)} {fs : Array Field} {z : Value} {cells : List AV} (hs : P.underlying t = some (.struct fs)) (hz : (P.info? t).bind (·.zero) = some z) (hl : z.cells = l.toArray) (h1 : z.cells.toList.all (·.oneCell') = true) (hall : fs.toList.all (fun f => (P.info? f.type).isSome) = true)
    (ho : parts.all (fun p => okT p.2) = true) (hof : ((parts.map fun p => (p.1, δ.ev p.2)).map fun p => (placeOf P fs p.1).map (·.1)) = offs.map some) (hf : fillA (placeOf P fs) (z.cells.toList.map fun v => .pv (.lit v)) (parts.map fun p => (p.1, δ.ev p.2)) = some cells) :
    Frees P ⟨dst, .build t parts.toArray, ty, pos, af, gd⟩ δ (.agg (layN (litL l) (layP δ.env offs parts))) := by
  have h2 := Frees.build0 (gd := gd) (dst := dst) (ty := ty) (pos := pos) (af := af) hs hz h1 hall ho hf
  have := fillA_lay _ offs _ cells hf hof
  rw [layP_eq, hl, List.toList_toArray, litL_eq] at this
  rw [← this]
  exact h2
end Go.Ab
/- Maps from whole numbers to slices: elder entries told whole, the last one over a row of the walk's own. -/
namespace Go.Ab
open Go Go.RowKit
variable {q : Md} {P : Program} {g : Ghost} {δ : DS} {κ : Nat → Option Nat} {a : Act} {w : World}
variable {gd : Option (Tmp × Bool)} {ops : Array Oper} {rest : List Oper} {Q : Exit → DS → Prop} {dst : Option Nat} {ty : TypeId} {pos : String} {af : Array Edge}
abbrev mplI (l : List (Int × AV)) (k : Int) (v : AV) : Ob := .mpl (mpI l) (.int .i64 k) v
theorem mpI_snoc (l : List (Int × AV)) (k : Int) (v : AV) : mpI l ++ [(.int .i64 k, v)] = mpI (l ++ [(k, v)]) := by simp [mpI]
theorem Rel.mplo (r : Rel g δ κ a w) {u : Value} {i : Nat} {l : List (Value × AV)} {k : Value} {v : AV} (h : RA (δ.cx g κ) w u (.mapr i)) (ho : δ.ob i = some (.mpl l k v)) :
    ∃ b es clock, u = .map (some b) ∧ κ i = some b ∧ w.heap[b]? = some (.map es clock) ∧ MapIs (δ.cx g κ) w es (l ++ [(k, v)]) ∧ Stamps es clock ∧ ∀ p ∈ l, p.2.noOwn = true := by
  cases h with
  | @mapr _ b hl hκ =>
    obtain ⟨b', es, clock, h1, h2, h3, h4⟩ := r.obj i _ ho
    have : b' = b := Option.some.inj (h1.symm.trans hκ)
    subst this
    exact ⟨b', es, clock, rfl, h1, h2, h3, h4⟩
theorem lookI_snoc : ∀ {l : List (Int × AV)} {k m : Int} {v : AV}, lookI (l ++ [(k, v)]) m = (lookI l m).or (if m = k then some v else none)
  | [], k, m, v => by simp [lookI]
  | (k', u) :: l, k, m, v => by
    show (if m = k' then some u else lookI (l ++ [(k, v)]) m) = ((if m = k' then some u else lookI l m)).or _
    split
    · simp
    · exact lookI_snoc
/-- what stands at the last key. -/
theorem AOps.lookup_last {x y : Operand} {t kt et : TypeId} {i : Nat} {l : List (Int × AV)} {k m : Int} {z : Value} {v : AV} (hx : δ.ev x = .mapr i) (hob : δ.ob i = some (mplI l k v)) (hy : δ.ev y = litI m) (ht : P.underlying t = some (.map kt et)) (hk : P.underlying kt = some (.int .i64)) (hz : (P.info? et).bind (·.zero) = some z)
    (ho : okT x = true) (ho' : okT y = true) (hd : okD δ.n dst = true) (hm : m = k) (hn : lookI l m = none) (hK : AOps q P g ops rest Q (δ.putd dst v)) : AOps q P g ops (⟨dst, .lookup t x y false, ty, pos, af, none⟩ :: rest) Q δ :=
  AOps.valw _ hd (fun κ a w r => by
    obtain ⟨b, es, clock, h1, h2, h3, h4, h5, hnoo⟩ := r.mplo (r.ra hx ho) hob
    rw [mpI_snoc] at h4
    obtain ⟨h6, h7⟩ := h4.mpI
    have hb : ∀ w', Held δ κ w w' → w'.heap[b]? = some (.map es clock) := fun w' hw' => (hw' b (heap_lt h3) (r.notrow ⟨_, hob, rfl⟩ h2)).trans h3
    rcases findNow_mp m es.toList (l ++ [(k, v)]) 0 h6 h7 with ⟨h8, h9⟩ | ⟨j, e, v', h8, h9, h10, h11, h12⟩
    · rw [lookI_snoc, hn, if_pos hm] at h8; simp at h8
    · rw [lookI_snoc, hn, if_pos hm] at h8
      have hv : v = v' := by simpa using h8
      subst hv
      refine ⟨e.val, fun w' hw' => ?_, h12⟩
      have := run_lookup ht hk hz (hb w' hw') h9 false
      simp [execOp, r.lit hy ho', h1, this]) hK
/-- rows told whole, by their keys. -/
def rowsM (D : List (Int × List Int)) : List (Int × AV) := D.map fun p => (p.1, .pv (ints p.2))
def lkp : List (Int × List Int) → Int → Option (List Int)
  | [], _ => none
  | (k, v) :: l, m => if m = k then some v else lkp l m
theorem lookI_rows : ∀ (D : List (Int × List Int)) (m : Int), lookI (rowsM D) m = (lkp D m).map fun l => .pv (ints l)
  | [], m => rfl
  | (k, v) :: D, m => by
    show (if m = k then some _ else lookI (rowsM D) m) = Option.map _ (if m = k then some v else lkp D m)
    split
    · rfl
    · exact lookI_rows D m
theorem rowsM_snoc (D : List (Int × List Int)) (k : Int) (l : List Int) : rowsM (D ++ [(k, l)]) = rowsM D ++ [(k, .pv (ints l))] := by simp [rowsM]
/-- a row looked up among rows told whole: none is a slice without elements. -/
theorem AOps.lookup_rows {x y : Operand} {t kt et : TypeId} {i : Nat} {D : List (Int × List Int)} {m : Int} (hx : δ.ev x = .mapr i) (hob : δ.ob i = some (.mp (mpI (rowsM D)))) (hy : δ.ev y = litI m) (ht : P.underlying t = some (.map kt et)) (hk : P.underlying kt = some (.int .i64)) (hz : (P.info? et).bind (·.zero) = some (.slice none 0 0))
    (ho : okT x = true) (ho' : okT y = true) (hd : okD δ.n dst = true) (hK : AOps q P g ops rest Q (δ.putd dst (.pv (ints ((lkp D m).getD []))))) : AOps q P g ops (⟨dst, .lookup t x y false, ty, pos, af, none⟩ :: rest) Q δ :=
  AOps.valw _ hd (fun κ a w r => by
    obtain ⟨b, es, clock, h1, h2, h3, h4, h5, hnoo⟩ := r.mpo (r.ra hx ho) hob
    obtain ⟨h6, h7⟩ := h4.mpI
    have hb : ∀ w', Held δ κ w w' → w'.heap[b]? = some (.map es clock) := fun w' hw' => (hw' b (heap_lt h3) (r.notrow ⟨_, hob, rfl⟩ h2)).trans h3
    rcases findNow_mp m es.toList (rowsM D) 0 h6 h7 with ⟨h8, h9⟩ | ⟨j, e, v', h8, h9, h10, h11, h12⟩
    · rw [lookI_rows] at h8
      have h10 : lkp D m = none := by simpa using h8
      refine ⟨.slice none 0 0, fun w' hw' => ?_, by rw [h10]; exact ra_nil (.pv (.lit _)) 1⟩
      have := run_lookup ht hk hz (hb w' hw') h9 false
      simp [execOp, r.lit hy ho', h1, this]
    · rw [lookI_rows] at h8
      obtain ⟨l, hl, hv⟩ := Option.map_eq_some_iff.1 h8
      refine ⟨e.val, fun w' hw' => ?_, by rw [hl]; exact hv ▸ h12⟩
      have := run_lookup ht hk hz (hb w' hw') h9 false
      simp [execOp, r.lit hy ho', h1, this]) hK
/-- none yet: nil. -/
theorem AOps.lookup_none {x y : Operand} {t kt et : TypeId} {i : Nat} {D : List (Int × List Int)} {m : Int} (hx : δ.ev x = .mapr i) (hob : δ.ob i = some (.mp (mpI (rowsM D)))) (hy : δ.ev y = litI m) (ht : P.underlying t = some (.map kt et)) (hk : P.underlying kt = some (.int .i64)) (hz : (P.info? et).bind (·.zero) = some (.slice none 0 0))
    (ho : okT x = true) (ho' : okT y = true) (hd : okD δ.n dst = true) (hn : lkp D m = none) (hK : AOps q P g ops rest Q (δ.putd dst (.pv (.lit (.slice none 0 0))))) : AOps q P g ops (⟨dst, .lookup t x y false, ty, pos, af, none⟩ :: rest) Q δ :=
  AOps.lookup hx hob hy ht hk hz (by rw [lookI_rows, hn]; rfl) ho ho' hd hK
/-- m[k] = v, the key new, the value over a row of the walk's own. -/
theorem Eff.mapUpdate_fresh {x y z : Operand} {t kt et : TypeId} {i : Nat} {l : List (Int × AV)} {m : Int} {v : AV} (hx : δ.ev x = .mapr i) (hob : δ.ob i = some (.mp (mpI l))) (hy : δ.ev y = litI m) (hz : δ.ev z = v) (ht : P.underlying t = some (.map kt et)) (hk : P.underlying kt = some (.int .i64))
    (ho : okT x = true) (ho' : okT y = true) (hoz : okT z = true) (hd : okD δ.n dst = true) (hwk : g.wtOk i) (hn : lookI l m = none) :
    Eff P g ⟨dst, .mapUpdate t x y z, ty, pos, af, gd⟩ δ ((δ.setOb i (some (mplI l m v))).putd dst .any) := by
  intro κ a w r
  obtain ⟨b, es, clock, h1, h2, h3, h4, h5, hnoo⟩ := r.mpo (r.ra hx ho) hob
  obtain ⟨h6, h7⟩ := h4.mpI
  have hzv := r.ra hz hoz
  have hik : MapKept.IsKey (.int .i64) (.int .i64 m) := by simp [MapKept.IsKey]
  have hck : ∀ e, (Instr.checkKey e (9999 + 1) kt (.int .i64 m)).run P w = .ok () w := fun e => MapKept.run_checkKey hk hik e 9999
  rcases findNow_first m es.toList l 0 h6 h7 with ⟨h8, h9⟩ | ⟨j, e, u, h9, h10, h11, h12, h13⟩
  · have hrun : (execOp a.eval ⟨dst, .mapUpdate t x y z, ty, pos, af, gd⟩).run P w = .ok .skip { w with heap := w.heap.setIfInBounds b (.map (es.push { key := .int .i64 m, val := a.eval z, born := clock }) (clock + 1)) } := by
      simp [execOp, r.lit hy ho', h1, Instr.mapUpdate, run_underlying ht, MapKept.run_getObj_map h3, hck, run_findMap hk h9, MapKept.run_setObj_map _ h3]
    obtain ⟨r', G⟩ := r.modify (o' := mplI l m v) hob rfl rfl h2 hwk (Turns.setHeap w b (.map (es.push { key := .int .i64 m, val := a.eval z, born := clock }) (clock + 1))) (by simp) (fun C hC G => by
      have h14 : MapIs C { w with heap := w.heap.setIfInBounds b (.map (es.push { key := .int .i64 m, val := a.eval z, born := clock }) (clock + 1)) } es (mpI l) := h4.goes G
      obtain ⟨h15, h16⟩ := h14.push h5 m (G.ra hzv)
      exact ⟨b, _, _, by rw [hC]; exact h2, setHeap_same h3, by rw [mpI_snoc]; exact h15, h16, hnoo⟩)
    exact .inl ⟨_, _, _, _, hrun, .inr ⟨rfl, rfl⟩, r'.putd (okD_spec hd) (.any _)⟩
  · exfalso
    have : lookI l m ≠ none := by
      clear hn h9 h10 h13 h6 h7 h4 hob hnoo
      induction l generalizing j with
      | nil => simp at h11
      | cons p l ih =>
        obtain ⟨k, u'⟩ := p
        unfold lookI
        split
        · simp
        · rename_i hne
          cases j with
          | zero => simp at h11; exact absurd h11.1.symm hne
          | succ j => exact ih (j := j) (by simpa using h11)
    exact this hn
theorem AOps.mapUpdate_fresh {x y z : Operand} {t kt et : TypeId} {i : Nat} {l : List (Int × AV)} {m : Int} {v : AV} (hx : δ.ev x = .mapr i) (hob : δ.ob i = some (.mp (mpI l))) (hy : δ.ev y = litI m) (hz : δ.ev z = v) (ht : P.underlying t = some (.map kt et)) (hk : P.underlying kt = some (.int .i64))
    (ho : okT x = true) (ho' : okT y = true) (hoz : okT z = true) (hd : okD δ.n dst = true) (hwt : g.wt = none) (hn : lookI l m = none)
    (hK : AOps .plain P g ops rest Q ((δ.setOb i (some (mplI l m v))).putd dst .any)) : AOps .plain P g ops (⟨dst, .mapUpdate t x y z, ty, pos, af, none⟩ :: rest) Q δ :=
  AOps.eff rfl rfl (Eff.mapUpdate_fresh hx hob hy hz ht hk ho ho' hoz hd (wtOk_none hwt i) hn) hK
/-- m[k] = v at the last key. -/
theorem Eff.mapUpdate_last {x y z : Operand} {t kt et : TypeId} {i : Nat} {l : List (Int × AV)} {k m : Int} {v0 v : AV} (hx : δ.ev x = .mapr i) (hob : δ.ob i = some (mplI l k v0)) (hy : δ.ev y = litI m) (hz : δ.ev z = v) (ht : P.underlying t = some (.map kt et)) (hk : P.underlying kt = some (.int .i64))
    (ho : okT x = true) (ho' : okT y = true) (hoz : okT z = true) (hd : okD δ.n dst = true) (hwk : g.wtOk i) (hm : m = k) (hn : lookI l m = none) :
    Eff P g ⟨dst, .mapUpdate t x y z, ty, pos, af, gd⟩ δ ((δ.setOb i (some (mplI l k v))).putd dst .any) := by
  intro κ a w r
  obtain ⟨b, es, clock, h1, h2, h3, h4, h5, hnoo⟩ := r.mplo (r.ra hx ho) hob
  have h4' := h4
  rw [mpI_snoc] at h4'
  obtain ⟨h6, h7⟩ := h4'.mpI
  have hzv := r.ra hz hoz
  have hik : MapKept.IsKey (.int .i64) (.int .i64 m) := by simp [MapKept.IsKey]
  have hck : ∀ e, (Instr.checkKey e (9999 + 1) kt (.int .i64 m)).run P w = .ok () w := fun e => MapKept.run_checkKey hk hik e 9999
  have hsz : es.size = l.length + 1 := by have := h4.1; simpa [mpI] using this
  rcases findNow_first m es.toList (l ++ [(k, v0)]) 0 h6 h7 with ⟨h8, h9⟩ | ⟨j, e, u, h9, h10, h11, h12, h13⟩
  · rw [lookI_snoc, hn, if_pos hm] at h8; simp at h8
  · rw [Nat.zero_add] at h9
    have hej : es[j]? = some e := by simpa using h10
    have hj : j = l.length := by
      by_cases hlt : j < l.length
      · exfalso
        rw [List.getElem?_append_left hlt] at h11
        have : lookI l m ≠ none := by
          clear hn h9 h10 h13 h6 h7 h4 h4' hob hnoo hej hlt hsz
          induction l generalizing j with
          | nil => simp at h11
          | cons p l ih =>
            obtain ⟨k', u'⟩ := p
            unfold lookI
            split
            · simp
            · rename_i hne
              cases j with
              | zero => simp at h11; exact absurd h11.1.symm hne
              | succ j => exact ih (j := j) (by simpa using h11)
        exact this hn
      · have := (List.getElem?_eq_some_iff.1 h11).1
        simp at this
        omega
    have hrun : (execOp a.eval ⟨dst, .mapUpdate t x y z, ty, pos, af, gd⟩).run P w = .ok .skip { w with heap := w.heap.setIfInBounds b (.map (es.modify j fun e => { e with key := .int .i64 m, val := a.eval z }) clock) } := by
      simp [execOp, r.lit hy ho', h1, Instr.mapUpdate, run_underlying ht, MapKept.run_getObj_map h3, hck, run_findMap hk h9, hej, h12, MapKept.run_keyThatStays hik, MapKept.run_setObj_map _ h3]
    obtain ⟨r', G⟩ := r.modify (o' := mplI l k v) hob rfl rfl h2 hwk (Turns.setHeap w b (.map (es.modify j fun e => { e with key := .int .i64 m, val := a.eval z }) clock)) (by simp) (fun C hC G => by
      refine ⟨b, _, _, by rw [hC]; exact h2, setHeap_same h3, ⟨by simpa using h4.1, fun k' e' p h14 h15 => ?_⟩, ⟨by simp [h5.1], fun k' e' h14 => ?_⟩, hnoo⟩
      · rw [Array.getElem?_modify] at h14
        have hml : (mpI l).length = l.length := by simp [mpI]
        by_cases hjk : j = k'
        · subst hjk
          rw [if_pos rfl, Option.map_eq_some_iff] at h14
          obtain ⟨e0, h14, rfl⟩ := h14
          rw [List.getElem?_append_right (by omega), hml, hj, Nat.sub_self] at h15
          simp at h15
          subst h15
          exact ⟨by rw [hm], G.ra hzv⟩
        · rw [if_neg hjk] at h14
          have hlt : k' < l.length := by
            have := (List.getElem?_eq_some_iff.1 h15).1
            simp [hml] at this
            omega
          rw [List.getElem?_append_left (by omega)] at h15
          obtain ⟨h16, h17⟩ := h4.2 k' e' p h14 (by rw [List.getElem?_append_left (by omega)]; exact h15)
          exact ⟨h16, G.ra h17⟩
      · rw [Array.getElem?_modify] at h14
        by_cases hjk : j = k'
        · rw [if_pos hjk, Option.map_eq_some_iff] at h14
          obtain ⟨e0, h14, rfl⟩ := h14
          exact h5.2 k' e0 h14
        · rw [if_neg hjk] at h14; exact h5.2 k' e' h14)
    exact .inl ⟨_, _, _, _, hrun, .inr ⟨rfl, rfl⟩, r'.putd (okD_spec hd) (.any _)⟩
theorem AOps.mapUpdate_last {x y z : Operand} {t kt et : TypeId} {i : Nat} {l : List (Int × AV)} {k m : Int} {v0 v : AV} (hx : δ.ev x = .mapr i) (hob : δ.ob i = some (mplI l k v0)) (hy : δ.ev y = litI m) (hz : δ.ev z = v) (ht : P.underlying t = some (.map kt et)) (hk : P.underlying kt = some (.int .i64))
    (ho : okT x = true) (ho' : okT y = true) (hoz : okT z = true) (hd : okD δ.n dst = true) (hwt : g.wt = none) (hm : m = k) (hn : lookI l m = none)
    (hK : AOps .plain P g ops rest Q ((δ.setOb i (some (mplI l k v))).putd dst .any)) : AOps .plain P g ops (⟨dst, .mapUpdate t x y z, ty, pos, af, none⟩ :: rest) Q δ :=
  AOps.eff rfl rfl (Eff.mapUpdate_last hx hob hy hz ht hk ho ho' hoz hd (wtOk_none hwt i) hm hn) hK
theorem rows_ids (D : List (Int × List Int)) (A B : Nat → Bool) : ∀ p ∈ mpI (rowsM D), p.2.ids A B = true := by
  intro p hp
  simp only [mpI, rowsM, List.map_map, List.mem_map] at hp
  obtain ⟨x, _, rfl⟩ := hp
  rfl
theorem WO.rows0 {δ δ' : DS} {i : Nat} (h : δ.ob i = some (.mp (mpI []))) : WO δ δ' i (.mp (mpI (rowsM []))) := .mp h (fun p hp => by simp [mpI, rowsM] at hp)
theorem WO.rows {δ δ' : DS} {i : Nat} {D : List (Int × List Int)} (h : δ.ob i = some (.mp (mpI (rowsM D)))) : WO δ δ' i (.mp (mpI (rowsM D))) := .mp h (rows_ids D _ _)
theorem WO.rowsL {δ δ' : DS} {i : Nat} {D D' : List (Int × List Int)} {k k' : Int} {v v' : AV} (h : δ.ob i = some (mplI (rowsM D) k v)) (hD : D = D') (hk : k = k') (hv : WV δ δ' v v') : WO δ δ' i (mplI (rowsM D') k' v') := .mpl h (by rw [hD]) (by rw [hk]) (rows_ids D _ _) hv
theorem rows_sw (i j : Nat) (D : List (Int × List Int)) : (mpI (rowsM D)).map (fun p => (p.1, p.2.sw i j)) = mpI (rowsM D) := by
  simp only [mpI, rowsM, List.map_map]
  apply List.map_congr_left
  intro x _
  simp [AV.sw]
theorem Nf.swOq {i j k : Nat} (D : List (Int × List Int)) (kk : Int) (v : AV) (r : List (Nat × Option Ob)) : swO i j ((k, some (mplI (rowsM D) kk v)) :: r) = (swN i j k, some (mplI (rowsM D) kk (v.sw i j))) :: swO i j r := by
  show (swN i j k, some (Ob.mpl ((mpI (rowsM D)).map fun p => (p.1, p.2.sw i j)) (.int .i64 kk) (v.sw i j))) :: _ = _
  rw [rows_sw]
/-- two objects' numbers exchanged. -/
theorem Weak.sw (i j : Nat) {δ δ' : DS} (hwt : g.wt = none) (hi : Nat.blt i δ.nx = true) (hj : Nat.blt j δ.nx = true) (h : Weak g (δ.sw i j) δ') : Weak g δ δ' :=
  fun _ a w r => h _ a w (r.sw i j (by simpa using hi) (by simpa using hj) (fun k hk => by rw [hwt] at hk; cases hk))
/-- the last entry is told whole too: a map as it was. -/
theorem Rel.mplMp (hwt : g.wt = none) (r : Rel g δ κ a w) {i : Nat} {l : List (Int × AV)} {k : Int} {v : AV} (hob : δ.ob i = some (mplI l k v)) (hv : v.noOwn = true) : Rel g (δ.setOb i (some (.mp (mpI (l ++ [(k, v)]))))) κ a w := by
  obtain ⟨b, es, clock, h1, h2, h3, h4, h5⟩ := r.obj i _ hob
  obtain ⟨r', _⟩ := r.modify (o' := .mp (mpI (l ++ [(k, v)]))) (w' := w) hob rfl rfl h1 (wtOk_none hwt i) ⟨rfl, rfl, rfl, Nat.le_refl _, fun k _ _ => rfl⟩ rfl (fun C hC G => by
    have h6 := h3.goes G
    rw [mpI_snoc] at h6
    refine ⟨b, es, clock, by rw [hC]; exact h1, h2, h6, h4, fun p hp => ?_⟩
    rw [← mpI_snoc] at hp
    rcases List.mem_append.1 hp with hp | hp
    · exact h5 p hp
    · simp at hp; subst hp; exact hv)
  exact r'
/-- ahead of a look: the last row is told whole from here on; the map is one of rows told whole. -/
theorem AOps.mplMp {l0 : List Oper} {i : Nat} {l : List (Int × AV)} {k : Int} {v : AV} (hob : δ.ob i = some (mplI l k v)) (hv : v.noOwn = true) (hwt : g.wt = none) (hK : AOps .plain P g ops l0 Q (δ.setOb i (some (.mp (mpI (l ++ [(k, v)])))))) : AOps .plain P g ops l0 Q δ :=
  fun κ a w r => hK κ a w (r.mplMp hwt hob hv)
theorem AW.mplMp {c : Code} {i : Nat} {l : List (Int × AV)} {k : Int} {v : AV} (hob : δ.ob i = some (mplI l k v)) (hv : v.noOwn = true) (hwt : g.wt = none) (hK : AW P g c Q (δ.setOb i (some (.mp (mpI (l ++ [(k, v)])))))) : AW P g c Q δ :=
  fun κ a w r => hK κ a w (r.mplMp hwt hob hv)
/-- a row of the walk's own is told whole from here on. -/
theorem AW.frzI (i : Nat) {c : Code} (hi : δ.ob i = some .row) (hK : AW P g c Q (frzD δ i)) : AW P g c Q δ := by
  intro κ a w r
  obtain ⟨κ', r'⟩ := r.freeze hi
  exact hK κ' a w r'
theorem AOps.makeFunc_4 {fn : Go.Fn} {x y z t : Operand} {u1 u2 u3 u4 : AV} (hx : δ.ev x = u1) (hy : δ.ev y = u2) (hz : δ.ev z = u3) (ht : δ.ev t = u4) (ho : okT x = true) (ho' : okT y = true) (ho'' : okT z = true) (ho3 : okT t = true) (hd : okD δ.n dst = true) (hK : AOps q P g ops rest Q (δ.putd dst (.clo fn [] [u1, u2, u3, u4]))) : AOps q P g ops (⟨dst, .makeFunc fn #[] #[x, y, z, t], ty, pos, af, none⟩ :: rest) Q δ :=
  AOps.valw _ hd (fun κ a w r => ⟨.func fn #[] #[a.eval x, a.eval y, a.eval z, a.eval t], fun w' _ => by simp [execOp, Instr.makeFunc], .clo rfl (fun j u c h => by simp at h) rfl (fun j u c h1 h2 => by
    match j with
    | 0 => simp at h1 h2; subst h1; subst h2; exact r.ra hx ho
    | 1 => simp at h1 h2; subst h1; subst h2; exact r.ra hy ho'
    | 2 => simp at h1 h2; subst h1; subst h2; exact r.ra hz ho''
    | 3 => simp at h1 h2; subst h1; subst h2; exact r.ra ht ho3
    | j + 4 => simp at h2)⟩) hK
section
variable {k : Wt} {late : List Nat} {l : List Oper} {dn : List Nat} {QD : Exit → DS → Prop}
/-- a late operation under the walk's own ghost (a yield within a drawn region). -/
theorem AR.step1LS {i : Nat} {o : Oper} (hwt : g.wt = none) (hl : Nat.blt dn.length l.length = true) (hr : (readyM (maskL l.length dn) 0 l == [i]) = true) (ho : l[i]? = some o) (hlt : lateM late (maskL l.length (i :: dn)) = true)
    (h : AOps .plain P g l.toArray [o] (onlyN (AR P g k late l QD (i :: dn))) δ) : AR P g k late l QD dn δ :=
  AR.all hl (readyIs_M hr) (by simp) fun i' hi' => by
    simp only [List.mem_singleton] at hi'
    subst hi'
    refine ⟨o, ho, ?_⟩
    have hg : gOf g k late (setL l.length (i' :: dn)) = g := by
      have h1 : lateIn late (setL l.length (i' :: dn)) = true := by rw [lateM_eq]; exact hlt
      unfold gOf
      rw [if_pos h1, ← hwt]
    rw [hg]
    exact h
/-- three that may come up, the last of them late. -/
theorem AR.step3N {i j m : Nat} {o p q : Oper} (hl : Nat.blt dn.length l.length = true) (hr : (readyM (maskL l.length dn) 0 l == [i, j, m]) = true) (ho : l[i]? = some o) (hp : l[j]? = some p) (hq : l[m]? = some q) (hlt : lateM late (maskL l.length (m :: dn)) = true)
    (h : ∀ g' : Ghost, g'.ro = g.ro → (∀ j, k.2.2 ≤ j → g'.wtOk j) → AOps .plain P g' l.toArray [o] (onlyN (AR P g k late l QD (i :: dn))) δ)
    (h' : ∀ g' : Ghost, g'.ro = g.ro → (∀ j, k.2.2 ≤ j → g'.wtOk j) → AOps .plain P g' l.toArray [p] (onlyN (AR P g k late l QD (j :: dn))) δ)
    (h'' : ∀ g' : Ghost, g'.ro = g.ro → g'.wt = none → AOps .plain P g' l.toArray [q] (onlyN (AR P g k late l QD (m :: dn))) δ) : AR P g k late l QD dn δ :=
  AR.all hl (readyIs_M hr) (by simp) fun i' hi' => by
    have hw : ∀ i', ∀ j, k.2.2 ≤ j → (gOf g k late (setL l.length (i' :: dn))).wtOk j := by
      intro i' j hj k' hk'
      have : (if lateIn late (setL l.length (i' :: dn)) = true then none else some k) = some k' := hk'
      split at this
      · cases this
      · cases this; exact hj
    simp only [List.mem_cons, List.not_mem_nil, or_false] at hi'
    rcases hi' with rfl | rfl | rfl
    · exact ⟨o, ho, h _ rfl (hw _)⟩
    · exact ⟨p, hp, h' _ rfl (hw _)⟩
    · exact ⟨q, hq, h'' _ rfl (if_pos (by rw [lateM_eq]; exact hlt))⟩
end
theorem AOps.buildArrN (t : TypeId) (offs : List Nat) {e : TypeId} {len k : Nat} {l : List Value} {parts : List (Nat × Operand)} {z : Value} {cells : List AV} (hs : P.underlying t = some (.array len e)) (hk : (P.info? e).map (·.size) = some k) (hz : (P.info? t).bind (·.zero) = some z) (hl : z.cells = l.toArray) (h1 : z.cells.toList.all (·.oneCell') = true)
    (ho : parts.all (fun p => okT p.2) = true) (hof : ((parts.map fun p => (p.1, δ.ev p.2)).map fun p => ((fun i => some (i * k, k)) p.1 : Option (Nat × Nat)).map (·.1)) = offs.map some) (hf : fillA (fun i => some (i * k, k)) (z.cells.toList.map fun v => .pv (.lit v)) (parts.map fun p => (p.1, δ.ev p.2)) = some cells) (hd : okD δ.n dst = true)
    (hK : AOps q P g ops rest Q (δ.putd dst (.agg (layN (litL l) (layP δ.env offs parts))))) : AOps q P g ops (⟨dst, .build t parts.toArray, ty, pos, af, none⟩ :: rest) Q δ := by
  refine AOps.buildArr hs hk hz h1 ho hf hd ?_
  have := fillA_lay _ offs _ cells hf hof
  rw [layP_eq, hl, List.toList_toArray, litL_eq] at this
  rw [this]
  exact hK
end Go.Ab
