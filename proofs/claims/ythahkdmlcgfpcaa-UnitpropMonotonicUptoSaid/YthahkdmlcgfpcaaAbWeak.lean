/- One abstract state says no more than another: what is asked slot by slot. -/
import Derived.Test.YthahkdmlcgfpcaaAbFn
set_option linter.unusedSimpArgs false
set_option linter.unusedVariables false
namespace Go.Ab
open Go Go.RowKit
variable {P : Program} {g : Ghost} {δ δ' : DS} {κ : Nat → Option Nat} {a : Act} {w : World}

mutual
def AV.ids (lr lb : Nat → Bool) : AV → Bool
  | .any => true
  | .pv _ => true
  | .own i _ _ _ => lr i
  | .ptr i _ => lb i
  | .rptr _ => true
  | .optr i _ _ _ _ => lr i
  | .agg cs => AV.idsL lr lb cs
  | .tup cs => AV.idsL lr lb cs
  | .clo _ cs ds => AV.idsL lr lb cs && AV.idsL lr lb ds
  | .mapr i => lb i
  | .yld i => lb i
def AV.idsL (lr lb : Nat → Bool) : List AV → Bool
  | [] => true
  | c :: cs => AV.ids lr lb c && AV.idsL lr lb cs
end
theorem AV.idsL_at {lr lb : Nat → Bool} : ∀ (l : List AV), AV.idsL lr lb l = true → ∀ (j : Nat) (c : AV), l[j]? = some c → AV.ids lr lb c = true
  | [], _, j, c, h => by simp at h
  | x :: l, h, j, c, hj => by
    simp only [AV.idsL, Bool.and_eq_true] at h
    cases j with
    | zero => simp at hj; subst hj; exact h.1
    | succ j => exact AV.idsL_at l h.2 j c (by simpa using hj)

def DS.lrB (δ : DS) (i : Nat) : Bool := match δ.ob i with | some .row => true | _ => false
def DS.lbB (δ : DS) (i : Nat) : Bool := match δ.ob i with | some (.box _) => true | some (.mp _) => true | some (.it _ _) => true | some (.loop _ _ _ _ _ _) => true | _ => false
theorem lrB_spec {δ : DS} {i : Nat} (h : δ.lrB i = true) : δ.lr i := by
  unfold DS.lrB at h; unfold DS.lr
  cases ho : δ.ob i with
  | none => rw [ho] at h; simp at h
  | some o => cases o <;> rw [ho] at h <;> first | rfl | (simp at h)
theorem lbB_spec {δ : DS} {i : Nat} (h : δ.lbB i = true) : δ.lb i := by
  unfold DS.lbB at h; unfold DS.lb
  cases ho : δ.ob i with
  | none => rw [ho] at h; simp at h
  | some o => cases o <;> rw [ho] at h <;> first | exact ⟨_, rfl, rfl⟩ | (simp at h)

/-- The blocks behind the change: an object that was not there has none. -/
noncomputable def κof (δ : DS) (κ : Nat → Option Nat) : Nat → Option Nat := fun i => match δ.ob i with | some _ => κ i | none => none
theorem κof_live {δ : DS} {κ : Nat → Option Nat} {i : Nat} (h : δ.live i) : κof δ κ i = κ i := by obtain ⟨o, h⟩ := h; simp [κof, h]
theorem κof_some {δ : DS} {κ : Nat → Option Nat} {i b : Nat} (h : κof δ κ i = some b) : δ.live i ∧ κ i = some b := by
  unfold κof at h
  cases ho : δ.ob i with
  | none => rw [ho] at h; simp at h
  | some o => rw [ho] at h; exact ⟨⟨o, ho⟩, h⟩

theorem N_weak {b : Nat} (h : (δ.cx g κ).N b) : (δ'.cx g (κof δ κ)).N b := ⟨h.1, fun i _ e => let ⟨h1, h2⟩ := κof_some e; h.2 i h1 h2⟩

theorem RA.ids {v : Value} {av : AV} (h : RA (δ.cx g κ) w v av) (hi : av.ids δ'.lrB δ'.lbB = true) : RA (δ'.cx g (κof δ κ)) w v av := by
  have hp : ∀ {v : Value} {p : PV}, RP (δ.cx g κ).N w v p → RP (δ'.cx g (κof δ κ)).N w v p := fun h => h.mono (Nat.le_refl _) fun b _ h2 => ⟨N_weak h2, rfl⟩
  have ho : ∀ {v : Value} {i e k els}, OwnV (δ.cx g κ) w v i e k els → δ'.lr i → OwnV (δ'.cx g (κof δ κ)) w v i e k els := by
    intro v i e k els h hl
    obtain ⟨h1, h2, h3, h4, xs, h5, h6, h7⟩ := h
    exact ⟨hl, h2, h3, fun b hb => (κof_live (DS.lr_live h1)).trans (h4 b hb), xs, h5, h6, fun i' j p hp' => let ⟨u, h8, h9⟩ := h7 i' j p hp'; ⟨u, h8, hp h9⟩⟩
  induction h with
  | any v => exact .any v
  | pv h => exact .pv (hp h)
  | own h => exact .own (ho h (lrB_spec hi))
  | ptr hl hκ => exact .ptr (lbB_spec hi) ((κof_live (DS.lb_live hl)).trans hκ)
  | rptr b off vs hN hb hc hr => exact .rptr b off vs (N_weak hN) hb hc (fun j p h => hp (hr j p h))
  | optr hlt h => exact .optr hlt (ho h (lrB_spec hi))
  | agg hs h ih => exact .agg hs fun j u c h1 h2 => ih j u c h1 h2 (AV.idsL_at _ hi j c h2)
  | tup hs h ih => exact .tup hs fun j u c h1 h2 => ih j u c h1 h2 (AV.idsL_at _ hi j c h2)
  | clo hs h ht h' ih ih' =>
    simp only [AV.ids, Bool.and_eq_true] at hi
    exact .clo hs (fun j u c h1 h2 => ih j u c h1 h2 (AV.idsL_at _ hi.1 j c h2)) ht (fun j u c h1 h2 => ih' j u c h1 h2 (AV.idsL_at _ hi.2 j c h2))
  | mapr hl hκ => exact .mapr (lbB_spec hi) ((κof_live (DS.lb_live hl)).trans hκ)
  | yld hl hκ => exact .yld (lbB_spec hi) ((κof_live (DS.lb_live hl)).trans hκ)

/-- How a cell of a box that is given up is told. -/
inductive CV (δ δ' : DS) : AV → PV → Prop
  | any (v : AV) : CV δ δ' v .any
  | pv (p : PV) : CV δ δ' (.pv p) p
  | own {i e k els els'} (h : δ'.ob i = none) (he : els = els') : CV δ δ' (.own i e k els) (.slice k els')
  | nil (k) : CV δ δ' (.pv (.lit (.slice none 0 0))) (.slice k [])
inductive CVs (δ δ' : DS) : List AV → List PV → Prop
  | nil : CVs δ δ' [] []
  | cons {c : AV} {p : PV} {cs : List AV} {ps : List PV} (h : CV δ δ' c p) (hs : CVs δ δ' cs ps) : CVs δ δ' (c :: cs) (p :: ps)
theorem CVs.at {δ δ' : DS} : ∀ {cs : List AV} {ps : List PV}, CVs δ δ' cs ps → ∀ (j : Nat) (p : PV), ps[j]? = some p → ∃ c, cs[j]? = some c ∧ CV δ δ' c p := by
  intro cs ps h
  induction h with
  | nil => intro j p h; simp at h
  | cons h hs ih =>
    intro j p hj
    cases j with
    | zero => simp at hj; subst hj; exact ⟨_, rfl, h⟩
    | succ j => exact ih j p (by simpa using hj)

/-- How one told value is weakened. -/
inductive WV (δ δ' : DS) : AV → AV → Prop
  | any (v : AV) : WV δ δ' v .any
  | eq {u v : AV} (h : u = v) (hi : v.ids δ'.lrB δ'.lbB = true) : WV δ δ' u v
  | nilown (i e k) (h : δ'.lrB i = true) (hn : δ.ob i = none) : WV δ δ' (.pv (.lit (.slice none 0 0))) (.own i e k [])
  | nilpv (k) : WV δ δ' (.pv (.lit (.slice none 0 0))) (.pv (.slice k []))
  | freeze {i e k els} (h : δ'.ob i = none) : WV δ δ' (.own i e k els) (.pv (.slice k els))
  | agg {cs ds : List AV} (hl : cs.length = ds.length) (h : ∀ (j : Nat) (c d : AV), cs[j]? = some c → ds[j]? = some d → WV δ δ' c d) : WV δ δ' (.agg cs) (.agg ds)
  | fmap {i : Nat} {l : List (Value × AV)} {ps : List (Value × PV)} (hb : δ.ob i = some (.mp l)) (hd : δ'.ob i = none) (hl : l.length = ps.length) (hc : ∀ (j : Nat) (p : Value × AV) (p' : Value × PV), l[j]? = some p → ps[j]? = some p' → p.1 = p'.1 ∧ CV δ δ' p.2 p'.2) : WV δ δ' (.mapr i) (.pv (.mp ps))
  | fbox {i : Nat} {cells : List AV} {ps : List PV} (hb : δ.ob i = some (.box cells)) (hd : δ'.ob i = none) (hc : CVs δ δ' cells ps) : WV δ δ' (.ptr i 0) (.rptr ps)

theorem rp_nil {N : Nat → Prop} {w : World} {a0 : Option Addr} {c : Nat} (k : Nat) : RP N w (.slice a0 0 c) (.slice k []) :=
  .slice 0 0 (fun _ _ => undef) rfl (Nat.zero_le _) (by simp) (fun h => absurd rfl h) (by simp) (fun i j p h => by simp [cellAt] at h) (fun i j p h => by simp [cellAt] at h)

/-- a slice over a row that is given up. -/
theorem RA.frz (hdrop : ∀ i b, δ.live i → δ'.ob i = none → κ i = some b → (δ'.cx g (κof δ κ)).N b) {i e k els} (ho : δ'.ob i = none) {v : Value} (h : RA (δ.cx g κ) w v (.own i e k els)) : RP (δ'.cx g (κof δ κ)).N w v (.slice k els) := by
  have h1 := h.own_inv
  obtain ⟨hl, hlim, hk, hb, xs, hown, h1', hx⟩ := h1
  have hown' := hown
  rcases hown.2 with ⟨rfl, h0⟩ | ⟨b, cap, cur, rfl, h2, h3, h4⟩
  · have : els = [] := List.eq_nil_of_length_eq_zero h0
    subst this
    exact rp_nil k
  · refine .slice b 0 (fun i j => (xs[i * k + j]?).getD undef) rfl h4.1 hlim (fun _ => ⟨rfl, hdrop i b (DS.lr_live hl) ho (hb b rfl), (Array.getElem?_eq_some_iff.1 h3).1⟩) hk (fun i j p hp => ?_) (fun i j p hp => ?_)
    · obtain ⟨u, hu, _⟩ := hx i j p hp
      have hlt : i * k + j < els.length * k := by have := (List.getElem?_eq_some_iff.1 hu).1; rw [← hown.1]; exact this
      simp only [hu, Option.getD_some, Nat.zero_add]
      exact ⟨(hown'.cellAt _ hlt).trans hu, h1' u (List.mem_of_getElem? hu)⟩
    · obtain ⟨u, hu, hr⟩ := hx i j p hp
      simp only [hu, Option.getD_some]
      exact hr.mono (Nat.le_refl _) fun b _ h2 => ⟨N_weak h2, rfl⟩

theorem RA.wv (hdrop : ∀ i b, δ.live i → δ'.ob i = none → κ i = some b → (δ'.cx g (κof δ κ)).N b) (hobj : ∀ i o, δ.ob i = some o → ObIs (δ.cx g κ) w i o) {v : Value} {u av : AV} (h : RA (δ.cx g κ) w v u) (hw : WV δ δ' u av) : RA (δ'.cx g (κof δ κ)) w v av := by
  induction hw generalizing v with
  | any v => exact .any _
  | eq he hi => subst he; exact h.ids hi
  | nilown i e k hl hn =>
    cases h.lit
    exact .own ⟨lrB_spec hl, by simp, by simp, fun b hb => by simp [Value.ownBlock] at hb, [], World.ownsRow_nil _ _ _ _, by simp, fun i' j p hp => by simp [cellAt] at hp⟩
  | nilpv k => cases h.lit; exact .pv (rp_nil k)
  | @freeze i e k els ho => exact .pv (h.frz hdrop ho)
  | @agg cs ds hl _ ih =>
    cases h with
    | agg hs h =>
      refine .agg (hs.trans hl) fun j u d h1 h2 => ?_
      have hlt : j < cs.length := by rw [hl]; exact (List.getElem?_eq_some_iff.1 h2).1
      exact ih j _ d (List.getElem?_eq_getElem hlt) h2 (h j u _ h1 (List.getElem?_eq_getElem hlt))
  | @fmap i l ps hb hd hl hc =>
    cases h with
    | @mapr _ b hl' hκ =>
      obtain ⟨b', es, clock, h1, h2, h3, h4, _⟩ := hobj i _ hb
      have : b' = b := Option.some.inj (h1.symm.trans hκ)
      subst this
      have hat : ∀ (j : Nat) (e : MapEntry) (p : Value × PV), es[j]? = some e → ps[j]? = some p → e.key = p.1 ∧ RP (δ'.cx g (κof δ κ)).N w e.val p.2 := by
        intro j e p he hp
        have hlt : j < l.length := by rw [hl]; exact (List.getElem?_eq_some_iff.1 hp).1
        have hlj := List.getElem?_eq_getElem hlt
        obtain ⟨h5, hcv⟩ := hc j _ p hlj hp
        obtain ⟨h6, h7⟩ := h3.2 j e _ he hlj
        refine ⟨h6.trans h5, ?_⟩
        generalize l[j].2 = q at hcv h7
        generalize p.2 = q' at hcv
        cases hcv with
        | any => exact .any _
        | pv => exact h7.pv_inv.mono (Nat.le_refl _) fun b _ h2 => ⟨N_weak h2, rfl⟩
        | own ho he => subst he; exact h7.frz hdrop ho
        | nil k => rw [h7.lit]; exact rp_nil k
      exact .pv (.mp b' clock es (hdrop i b' ⟨_, hb⟩ hd hκ) (heap_lt h2) h2 (h3.1.trans hl) h4 (fun j e p h5 h6 => (hat j e p h5 h6).1) (fun j e p h5 h6 => (hat j e p h5 h6).2))
  | @fbox i cells ps hb hd hc =>
    cases h with
    | @ptr _ _ b hl hκ =>
      obtain ⟨b', c, e, h1, h2, h3, h4⟩ := hobj i _ hb
      have : b' = b := Option.some.inj (h1.symm.trans hκ)
      subst this
      have hcell : ∀ j, w.cell? ⟨b', 0 + j, none⟩ = c[j]? := fun j => by simp [World.cell?, h2]
      have hat : ∀ (j : Nat) (p : PV), ps[j]? = some p → ∃ (hj : j < c.size), (c[j]).oneCell' = true ∧ RP (δ'.cx g (κof δ κ)).N w c[j] p := by
        intro j p hp
        obtain ⟨av, hav, hcv⟩ := hc.at j p hp
        have hj : j < c.size := by rw [h3]; exact (List.getElem?_eq_some_iff.1 hav).1
        obtain ⟨h5, h6⟩ := h4 j _ av (Array.getElem?_eq_getElem hj) hav
        refine ⟨hj, h6, ?_⟩
        cases hcv with
        | any => exact .any _
        | pv => exact h5.pv_inv.mono (Nat.le_refl _) fun b _ h2 => ⟨N_weak h2, rfl⟩
        | own ho he => subst he; exact h5.frz hdrop ho
        | nil k => rw [h5.lit]; exact rp_nil k
      refine .rptr b' 0 (fun j => (c[j]?).getD undef) (hdrop i b' ⟨_, hb⟩ hd hκ) (heap_lt h2) (fun j p hp => ?_) (fun j p hp => ?_)
      · obtain ⟨hj, h5, _⟩ := hat j p hp
        rw [hcell, Array.getElem?_eq_getElem hj]
        exact ⟨rfl, h5⟩
      · obtain ⟨hj, _, h5⟩ := hat j p hp
        rw [Array.getElem?_eq_getElem hj]
        exact h5

theorem WV.ownE {i e k} {els els' : List (List PV)} (h : els = els') (hi : δ'.lrB i = true) : WV δ δ' (.own i e k els) (.own i e k els') := .eq (by rw [h]) hi
theorem WV.pvE {k} {els els' : List (List PV)} (h : els = els') : WV δ δ' (.pv (.slice k els)) (.pv (.slice k els')) := .eq (by rw [h]) rfl
theorem WV.intE {j} {m n : Int} (h : m = n) : WV δ δ' (.pv (.lit (.int j m))) (.pv (.lit (.int j n))) := .eq (by rw [h]) rfl
theorem WV.boolE {m n : Bool} (h : m = n) : WV δ δ' (.pv (.lit (.bool m))) (.pv (.lit (.bool n))) := .eq (by rw [h]) rfl
theorem WV.freezeE {i e k} {els els' : List (List PV)} (h : δ'.ob i = none) (he : els = els') : WV δ δ' (.own i e k els) (.pv (.slice k els')) := he ▸ .freeze h

def WEnv (δ δ' : DS) : List (Nat × AV) → Prop
  | [] => True
  | (j, v) :: r => WV δ δ' (δ.get j) v ∧ WEnv δ δ' r
def WVs (δ δ' : DS) : List AV → List AV → Prop
  | [], [] => True
  | c :: cs, d :: ds => WV δ δ' c d ∧ WVs δ δ' cs ds
  | _, _ => False
inductive WO (δ δ' : DS) (i : Nat) : Ob → Prop
  | row (h : δ.ob i = some .row) : WO δ δ' i .row
  | newrow (h : δ.ob i = none) : WO δ δ' i .row
  | box {cs : List AV} (ds : List AV) (h : δ.ob i = some (.box cs)) (hs : WVs δ δ' cs ds) : WO δ δ' i (.box ds)
  | mp {l : List (Value × AV)} (h : δ.ob i = some (.mp l)) (hs : ∀ p ∈ l, p.2.ids δ'.lrB δ'.lbB = true) : WO δ δ' i (.mp l)
  | mpw {l l' : List (Value × AV)} (h : δ.ob i = some (.mp l)) (hl : l.length = l'.length) (hs : ∀ (j : Nat) (p p' : Value × AV), l[j]? = some p → l'[j]? = some p' → p.1 = p'.1 ∧ WV δ δ' p.2 p'.2 ∧ p'.2.noOwn = true) : WO δ δ' i (.mp l')
  | it {l : List (Value × PV)} {seen : List Nat} (h : δ.ob i = some (.it l seen)) : WO δ δ' i (.it l seen)
  | loop {l tm ps asg body st} (h : δ.ob i = some (.loop l tm ps asg body st)) : WO δ δ' i (.loop l tm ps asg body st)
def WObs (δ δ' : DS) : List (Nat × Option Ob) → Prop
  | [] => True
  | (_, none) :: r => WObs δ δ' r
  | (i, some o) :: r => WO δ δ' i o ∧ WObs δ δ' r
def nxB (n : Nat) : List (Nat × Option Ob) → Bool
  | [] => true
  | (i, _) :: r => Nat.blt i n && nxB n r

theorem WEnv.at : ∀ {l : List (Nat × AV)}, WEnv δ δ' l → ∀ j, WV δ δ' (δ.get j) (look l j)
  | [], _, j => .any _
  | (i, v) :: r, h, j => by
    rw [look_cons]
    by_cases e : i = j
    · subst e; rw [if_pos rfl]; exact h.1
    · rw [if_neg e]; exact WEnv.at h.2 j
theorem WVs.at : ∀ {cs ds : List AV}, WVs δ δ' cs ds → cs.length = ds.length ∧ ∀ (j : Nat) (c d : AV), cs[j]? = some c → ds[j]? = some d → WV δ δ' c d
  | [], [], _ => ⟨rfl, fun j c d h => by simp at h⟩
  | c :: cs, d :: ds, h => by
    obtain ⟨h1, h2⟩ := h
    obtain ⟨h3, h4⟩ := WVs.at h2
    refine ⟨by simp [h3], fun j x y h5 h6 => ?_⟩
    cases j with
    | zero => simp at h5 h6; subst h5; subst h6; exact h1
    | succ j => exact h4 j x y (by simpa using h5) (by simpa using h6)
theorem WObs.at : ∀ {l : List (Nat × Option Ob)}, WObs δ δ' l → ∀ i o, lookOb l i = some o → WO δ δ' i o
  | [], _, i, o, h => by simp [lookOb] at h
  | (j, none) :: r, h, i, o, ho => by
    rw [lookOb_cons] at ho
    by_cases e : j = i
    · rw [if_pos e] at ho; cases ho
    · rw [if_neg e] at ho; exact WObs.at (l := r) h i o ho
  | (j, some o') :: r, h, i, o, ho => by
    rw [lookOb_cons] at ho
    by_cases e : j = i
    · rw [if_pos e] at ho; cases ho; subst e; exact h.1
    · rw [if_neg e] at ho; exact WObs.at (l := r) h.2 i o ho
theorem nxB_spec {n : Nat} : ∀ {l : List (Nat × Option Ob)}, nxB n l = true → ∀ i o, lookOb l i = some o → i < n
  | [], _, i, o, h => by simp [lookOb] at h
  | (j, x) :: r, h, i, o, ho => by
    simp only [nxB, Bool.and_eq_true] at h
    rw [lookOb_cons] at ho
    by_cases e : j = i
    · subst e; simpa using h.1
    · rw [if_neg e] at ho; exact nxB_spec h.2 i o ho

/-- **The weakening law.** -/
theorem weak (hn : δ'.n = δ.n) (he : WEnv δ δ' δ'.env) (ho : WObs δ δ' δ'.objs) (hx : nxB δ'.nx δ'.objs = true) : Weak g δ δ' := by
  intro κ a w r
  have hnew : ∀ i o, δ'.ob i = some o → ¬ δ.live i → κof δ κ i = none := by
    intro i o h hl
    unfold κof
    cases h' : δ.ob i with
    | none => rfl
    | some o' => exact absurd ⟨o', h'⟩ hl
  have hdrop : ∀ i b, δ.live i → δ'.ob i = none → κ i = some b → (δ'.cx g (κof δ κ)).N b := by
    intro i b hl hno hκ
    refine ⟨r.N0 b (r.lo i b hl hκ).1, fun j hj e => ?_⟩
    obtain ⟨h1, h2⟩ := κof_some e
    have := r.inj i j b hl h1 hκ h2
    subst this
    obtain ⟨o, hj⟩ := hj
    rw [hno] at hj; cases hj
  refine ⟨κof δ κ, ?_⟩
  exact
    { n := r.n.trans hn.symm
      dfr := r.dfr
      env := fun j => (r.env j).wv hdrop r.obj (he.at j)
      obj := fun i o h => by
        have hwo := ho.at i o h
        cases hwo with
        | row h' =>
          intro b hb
          obtain ⟨_, h2⟩ := κof_some hb
          exact r.obj i _ h' b h2
        | newrow h' =>
          intro b hb
          obtain ⟨⟨o, h1⟩, _⟩ := κof_some hb
          rw [h'] at h1; cases h1
        | box ds h' hs =>
          obtain ⟨b, c, e, h1, h2, h3, h4⟩ := r.obj i _ h'
          obtain ⟨h5, h6⟩ := hs.at
          refine ⟨b, c, e, (κof_live ⟨_, h'⟩).trans h1, h2, h3.trans h5, fun j u av h7 h8 => ?_⟩
          have hlt : j < _ := (List.getElem?_eq_some_iff.1 h8).1
          rw [← h5] at hlt
          obtain ⟨h9, h10⟩ := h4 j u _ h7 (List.getElem?_eq_getElem hlt)
          exact ⟨h9.wv hdrop r.obj (h6 j _ av (List.getElem?_eq_getElem hlt) h8), h10⟩
        | mp h' hs =>
          obtain ⟨b, es, clock, h1, h2, h3, h4⟩ := r.obj i _ h'
          exact ⟨b, es, clock, (κof_live ⟨_, h'⟩).trans h1, h2, ⟨h3.1, fun j e p h5 h6 => ⟨(h3.2 j e p h5 h6).1, (h3.2 j e p h5 h6).2.ids (hs p (List.mem_of_getElem? h6))⟩⟩, h4⟩
        | mpw h' hl hs =>
          obtain ⟨b, es, clock, h1, h2, h3, h4⟩ := r.obj i _ h'
          refine ⟨b, es, clock, (κof_live ⟨_, h'⟩).trans h1, h2, ⟨h3.1.trans hl, fun j e p h5 h6 => ?_⟩, h4.1, fun p hp => ?_⟩
          · have hlt : j < _ := (List.getElem?_eq_some_iff.1 h6).1
            rw [← hl] at hlt
            have h7 := List.getElem?_eq_getElem hlt
            obtain ⟨h8, h9, _⟩ := hs j _ p h7 h6
            obtain ⟨h10, h11⟩ := h3.2 j e _ h5 h7
            exact ⟨h10.trans h8, h11.wv hdrop r.obj h9⟩
          · obtain ⟨j, hj⟩ := List.getElem?_of_mem hp
            have hlt : j < _ := (List.getElem?_eq_some_iff.1 hj).1
            rw [← hl] at hlt
            exact (hs j _ p (List.getElem?_eq_getElem hlt) hj).2.2
        | it h' =>
          obtain ⟨b, h1, h2⟩ := r.obj i _ h'
          exact ⟨b, (κof_live ⟨_, h'⟩).trans h1, h2.mono (Nat.le_refl _) (fun b _ hN => ⟨N_weak hN, rfl⟩) rfl⟩
        | loop h' =>
          obtain ⟨b, l, h1, h2⟩ := r.obj i _ h'
          exact ⟨b, l, (κof_live ⟨_, h'⟩).trans h1, h2⟩
      inj := fun i j b _ _ h3 h4 => r.inj i j b (κof_some h3).1 (κof_some h4).1 (κof_some h3).2 (κof_some h4).2
      lo := fun i b _ h2 => r.lo i b (κof_some h2).1 (κof_some h2).2
      nx := fun i ⟨o, h⟩ => nxB_spec hx i o h
      wt := fun k hk => ⟨(r.wt k hk).1, fun i b _ hi hb => by
        obtain ⟨hl, hκ⟩ := κof_some hb
        refine (r.wt k hk).2 i b hl (hi.imp (fun hi => ?_) id) hκ
        have hwo := ho.at i _ hi
        cases hwo with
        | row h => exact h
        | newrow h => obtain ⟨o, ho'⟩ := hl; rw [h] at ho'; cases ho'⟩
      below := r.below
      hB := r.hB
      N0 := r.N0 }

end Go.Ab
