/- Labelled statements whose labels are left by break and continue alone. -/
import Derived.Test.YtigjjjpcjnifhaaAbL2
import Derived.Scope
import Derived.Sort.Row
import Derived.Sort.Grow
import Derived.Lib.AppendZeros
import Derived.Lib.AppendStr
set_option linter.unusedSimpArgs false
set_option linter.unusedVariables false
namespace Go.Ab
open Go Go.RowKit
section
variable {P:Program} {F:Fence} {n:Nat} {a:Act} {w:World} {b:Frame} {k:List Item} {cs:List Frame}
theorem eT {c:Code}:step P (lone (b.atR a (.code (.scope c)::k)) cs w)=.next (lone (b.atR a (.code c::.inScope c::k)) cs w):=
 step_lone_go (by simp [stepG,stepG.exec,Frame.atR])
theorem qS {c:Code}:step P (lone (b.atR a (.inScope c::k)) cs w)=.next (lone (b.atR a k) cs w):=
 step_lone_go (by simp [stepG,stepG.exec,Frame.atR])
theorem wJ {c:Code} {Q:Exit→Act→World→Prop} (h:c.wpIn F n P (Exit.noGoto Q) a w):(Code.scope c).wpIn F n P Q a w:=by
 intro b k cs tk hb hr
 have h0:(lone (b.atR a (.code (.scope c)::k)) cs w).fenced P F:=fenced_calm hb hr rfl
 obtain⟨e,a₁,w₁,hq,lu⟩:=h b (.inScope c::k) cs tk hb hr
 cases e with
 |normal=>exact⟨.normal,a₁,w₁,hq,.head h0 eT (StepsIn.trans lu (.one (fenced_calm hb hr rfl) qS))⟩
 |exit id=>
  exact⟨.exit id,a₁,w₁,hq,fun k' hk=> .head h0 eT (lu.1 k' (by simp [exitTo,hk])),
   fun hr' hk=>let ⟨k₁,h1,h2⟩:=lu.2 hr' (by simp [exitTo,hk]);⟨k₁,h1,.head h0 eT h2⟩⟩
 |goto l=>exact hq.elim
 |ret=>exact⟨_,a₁,w₁,hq,.of_steps (.one h0 eT) lu⟩
 |panic ch=>exact⟨_,a₁,w₁,hq,.of_steps (.one h0 eT) lu⟩
 |outgrown=>exact⟨_,a₁,w₁,hq,.of_steps (.one h0 eT) lu⟩
end
variable {P:Program} {g:ar} {δ:DS}
def bT (Q:Exit→DS→Prop):Exit→DS→Prop
 |.goto _,_=>False
 |e,δ=>Q e δ
theorem hZ {Q:Exit→DS→Prop} (h:Q .ret δ):bT Q .ret δ:=h
theorem AW.scope {c:Code} {Q:Exit→DS→Prop} (h:AW P g c (bT Q) δ):AW P g (.scope c) Q δ:=by
 intro κ a w r
 refine wJ (wpIn_mono (h κ a w r) fun e a' w'=>?_)
 rintro⟨δ',κ',h1,h2⟩
 cases e with
 |goto l=>exact h1.elim
 |_=>exact⟨δ',κ',h1,h2⟩
theorem AW.label {l:Nat} {Q:Exit→DS→Prop} (h:Q .normal δ):AW P g (.label l) Q δ:=fun κ _ _ r=>wpIn_label ⟨δ,κ,h,r⟩
end Go.Ab
/- Loops over functions within loops over functions:a yield from a round,to a loop some frames above. -/
namespace Go.Ab
open Go Go.RowKit
attribute [local irreducible] HS
variable {P:Program} {g:ar} {δ:DS} {κ:Kp} {a:Act} {w:World}
variable {ops:Array Oper} {rest:List Oper} {Q:Exit→DS→Prop} {dst:Option Nat} {ty:TypeId} {pos:String} {af:Array Edge}
end Go.Ab
/- Maps from numbers to numbers;the address of a field,taken first. -/
namespace Go.Ab
open Go Go.RowKit
section
variable {P:Program} {g:ar} {δ δ':DS} {q:Md}
variable {ops:Array Oper} {rest:List Oper} {Q:Exit→DS→Prop} {dst:Option Nat} {ty:TypeId} {pos:String} {af:Array Edge}
variable {t n:Nat} {K:DS→Prop}
end
theorem bh.fieldAddr {P:Program} {δ:DS} {dst:Option Nat} {ty:TypeId} {pos:String} {af:Array Edge} {gd:Option (Tmp×Bool)} (s:TypeId) (f k:Nat) {x:Operand} {i off:Nat} (hx:δ.ev x=.ptr i off) (hB:Du P s f k=true) (ho:aK x=true):
  bh P ⟨dst,.fieldAddr s x f,ty,pos,af,gd⟩ δ (.ptr i (off+k)):=by
 intro g κ a w r
 unfold Du at hB
 split at hB
 ·rename_i fs hs
  split at hB
  ·rename_i fld hf
   simp only[Bool.and_eq_true,beq_iff_eq] at hB
   have hk:=Nat.eq_of_beq_eq_true hB.1
   subst hk
   have oo:=r.ra hx ho
   generalize hu:a.eval x=u at oo
   cases oo with
   |ptr hl hκ=>exact⟨_,fun w'=>by have:=iC (dst:=dst) (ty:=ty) (pos:=pos) (af:=af) hs hf hB.2 hu w';simpa [execOp] using this,.ptr hl hκ⟩
  ·cases hB
 ·cases hB
section
variable {P:Program} {g:ar} {δ:DS} {l:List Oper} {late dn:List Nat} {k:Wt} {QD:Exit→DS→Prop}
theorem AR.sG {i j:Nat} {o p:Oper} (hl:Nat.blt dn.length l.length=true) (hr:fQ l dn [i,j]=true) (ho:l[i]? =some o) (hp:l[j]? =some p) (aP:bZ late (bL l.length (j::dn))=true)
  (h:∀g':ar,Gs g' g→(∀j,k.2.2≤j→g'.iu j)→aa .plain P g' l.toArray [o] (dR (AR P g k late l QD (i::dn))) δ)
  (h':∀g':ar,Gs g' g→g'.wt=none→aa .plain P g' l.toArray [p] (dR (AR P g k late l QD (j::dn))) δ):AR P g k late l QD dn δ:=
 AR.all hl hr (by simp) fun i' hi'=>by
  have hw:∀i',∀j,k.2.2≤j→(tq g k late (bL l.length (i'::dn))).iu j:=by
   intro i' j hj k' hk'
   have:(if bZ late (bL l.length (i'::dn))=true then none else some k)=some k':=hk'
   split at this
   ·cases this
   ·cases this;exact hj
  simp only[List.mem_cons,List.not_mem_nil,or_false] at hi'
  rcases hi' with rfl|rfl
  ·exact⟨o,ho,h _ ⟨rfl,rfl,rfl⟩ (hw _)⟩
  ·exact⟨p,hp,h' _ ⟨rfl,rfl,rfl⟩ (if_pos aP)⟩
end
end Go.Ab
/- In the midst of a region that draws its order:operations that only read are taken in one order;the watch over memory begins anew. -/
namespace Go.Ab
open Go Go.RowKit
variable {P:Program} {g:ar} {δ:DS} {k:Wt} {late:List Nat} {l:List Oper} {dn:List Nat} {QD:Exit→DS→Prop} {ro:Option Nat}
def mu (ops:Array Oper) (i j:Nat):Bool:=match ops[j]? with
 |some o=>o.after.any fun e=>Region.binds .any e && e.on==i
 |none=>false
theorem qT {ops:Array Oper} {i j n:Nat} (h:mu ops i j=true):jy ops i (n+1) j=true:=by
 unfold mu at h
 unfold jy
 cases ho:ops[j]? with
 |none=>rw[ho] at h;cases h
 |some o=>
  rw[ho] at h
  simp only at h ⊢
  obtain⟨e,he,hb⟩:=Array.any_eq_true'.1 h
  refine Array.any_eq_true'.2 ⟨e,he,?_⟩
  simp only[Bool.and_eq_true,Bool.or_eq_true] at hb ⊢
  exact⟨hb.1,.inl hb.2⟩
def mO (l:List Oper) (late:List Nat):List Nat→List Nat→Bool
 |[],_=>true
 |i::r,dn=>qx l late dn i && late.all (fun j=>mu l.toArray i j||jy l.toArray i l.length j) && mO l late r (i::dn)
theorem jx:∀(l2 dn:List Nat),mO l late l2 dn=true→mN l late l2 dn=true
 |[],_,_=>rfl
 |i::r,dn,h=>by
  unfold mO at h
  unfold mN
  simp only[Bool.and_eq_true] at h ⊢
  refine⟨⟨h.1.1,List.all_eq_true.2 fun j hj=>?_⟩,jx r _ h.2⟩
  have h1:=(List.all_eq_true.1 h.1.2) j hj
  rcases Bool.or_eq_true _ _▸h1 with h2|h2
  ·cases hl:l.length with
   |zero=>simp only[List.length_eq_zero_iff] at hl;subst hl;simp [mu] at h2
   |succ n=>exact qT h2
  ·exact h2
theorem AR.reads (l2:List Nat) (hB:mO l late l2 dn=true) (hL:bZ late (bL l.length dn)=false) (hle:Nat.ble (l2.length+dn.length) l.length=true)
  (h:∀g':ar,Gs g' g→aa .held P g' l.toArray (pick l l2) (dR fun δ'=>∀k':Wt,k'.2.2=δ.nx→AR P g k' late l QD (l2.reverse++dn) δ') δ):AR P g k late l QD dn δ:=by
 intro oa κ a w r
 have zJ:l2.length+dn.length≤l.length:=by simpa using hle
 have h1:=h (tq g k late (bL l.length dn)) ⟨rfl,rfl,rfl⟩ κ a w r
 have dg:=r.wt k (show(if bZ late (bL l.length dn)=true then none else some k)=some k by rw[hL];rfl)
 obtain⟨k',hk⟩:∃k':Wt,k'=(w,(fun b=>b<w.heap.size∧((∀i,δ.lr i→κ i≠some b)∧¬κ.Fs b)),δ.nx):=⟨_,rfl⟩
 have eE:∀listed w',tw k' late listed w'→tw k late listed w':=by
  intro listed w' h3 hl b hb
  obtain⟨h4,h5⟩:=dg.1 b hb
  have h6:b<w.heap.size:=by
   rw[Array.getElem?_eq_getElem h4] at h5
   exact(Array.getElem?_eq_some_iff.1 h5).1
  have h7:k'.2.1 b:=by
   rw[hk]
   exact⟨h6,fun i hi hκ=>dg.2 i b ⟨_,hi⟩ (.inl hi) hκ hb,fun⟨j,hj⟩=>(r.fr.2 j b hj).1.2 k (show(if bZ late (bL l.length dn)=true then none else some k)=some k by rw[hL];rfl) hb⟩
  have h8:=(h3 hl b h7).2
  rw[hk] at h8
  exact⟨h4,h8.trans h5⟩
 have JG:∀(fuel:Nat) (listed:Array Bool) (a:Act) (w':World),iz g.ro P l.toArray (kW g QD) (tw k' late) fuel listed a w'→iz g.ro P l.toArray (kW g QD) (tw k late) fuel listed a w':=by
  intro fuel
  induction fuel with
  |zero=>intro _ _ _ h;exact h
  |succ fuel ih=>intro listed a w' h;exact⟨h.1,fun i hi=>wpOpIn_mono (fun a' w'' h'=>⟨eE _ _ h'.1,ih _ _ _ h'.2⟩) (h.2 i hi)⟩
 have MW:l.length - dn.length=l2.length+(l.length - (l2.reverse++dn).length):=by simp;omega
 rw[MW]
 have hk0:tw k' late (bL l.length dn) w:=fun _ b hb=>by subst hk;exact⟨hb.1,rfl⟩
 refine JG _ _ _ _ (AH (ro:=g.ro) (g:=g) (QD:=QD) (late:=late) (l:=l) (P:=P) (δ0:=δ) (κ1:=κ) (w1:=w) (k:=k') (by rw[hk]) (by rw[hk]) (N:=l.length - (l2.reverse++dn).length) l2 dn a (jx _ _ hB) oa hk0 h1 (fun a' ha' hd'=>?_))
 obtain⟨δ',hq,yI,r2⟩:=ha'
 refine hq k' (by rw[hk]) hd' κ a' w ?_
 have dx:∀i,δ'.ob i=δ.ob i:=fun i=>by unfold DS.ob;rw[yI]
 refine Rel.Eu (g:=tq g k late (bL l.length dn)) r2 (wt':=if bZ late (bL l.length (l2.reverse++dn))=true then none else some k') (fun k'' hk'=>?_) (fun k'' hk' b hb qQ=>?_)
 rotate_left
 ·split at hk'
  ·cases hk'
  ·cases hk'
   subst hk
   exact qQ.2.2 hb
 split at hk'
 ·cases hk'
 ·cases hk'
  subst hk
  refine⟨fun b hb=>⟨hb.1,rfl⟩,fun i b vT o8 hκ hb=>?_⟩
  rcases o8 with o8|o8
  ·exact hb.2.1 i (by have:δ'.ob i=some .row:=o8;rw[dx] at this;exact this) hκ
  ·obtain⟨o,vT⟩:=vT
   rw[dx] at vT
   exact absurd (r.nx i ⟨o,vT⟩) (Nat.not_lt.2 o8)
end Go.Ab
/- A part of a box,loaded as a whole. -/
namespace Go.Ab
open Go Go.RowKit
inductive Sub:Nat→Nat→List AV→List AV→Prop where
 |nil {l}:Sub 0 0 l []
 |take {n a l vs}:Sub 0 n l vs→Sub 0 (n+1) (a::l) (a::vs)
 |skip {k n a l vs}:Sub k n l vs→Sub (k+1) n (a::l) vs
theorem Sub.spec {k n:Nat} {l vs:List AV} (h:Sub k n l vs):(l.drop k).take n=vs∧k+n≤l.length:=by
 induction h with
 |nil=>simp
 |take _ ih=>simp at ih ⊢;exact⟨ih.1,ih.2⟩
 |skip _ ih=>simp at ih ⊢;exact⟨ih.1,by omega⟩
variable {q:Md} {P:Program} {g:ar} {δ:DS} {ops:Array Oper} {rest:List Oper} {Q:Exit→DS→Prop} {dst:Option Nat} {ty:TypeId} {pos:String} {af:Array Edge}
theorem aa.sf {x:Operand} {t:TypeId} {i off n:Nat} {cells vs:List AV} (hx:δ.ev x=.ptr i off) (hb:δ.ob i=some (.box cells)) (hn:(P.info? t).map (·.size)=some n) (hs:Sub off n cells vs) (ht:sF P t n=true) (ho:aK x=true) (hd:bk δ.n dst=true)
  (hK:aa q P g ops rest Q (δ.au dst (.agg vs))):aa q P g ops (⟨dst,.load t x,ty,pos,af,none⟩::rest) Q δ:=
 aa.xM (n:=n) hx hb ht (by simpa using hs.spec.2) ho hd (by rw[hs.spec.1];exact hK)
theorem aa.GW {x y z:Operand} {b:Bool} {v:PV} (hx:δ.ev x=aM b) (hy:δ.ev y=.pv v) (hb:b=true) (ho:aK x=true) (e8:aK y=true) (lA:aK z=true) (hd:bk δ.n dst=true)
  (hK:aa q P g ops rest Q (δ.au dst (.pv v))):aa q P g ops (⟨dst,.pick x y z,ty,pos,af,none⟩::rest) Q δ:=aa.cY (hb▸hx) hy ho e8 lA hd hK
theorem aa.vP {x y z:Operand} {b:Bool} {v:PV} (hx:δ.ev x=aM b) (hz:δ.ev z=.pv v) (hb:b=false) (ho:aK x=true) (e8:aK y=true) (lA:aK z=true) (hd:bk δ.n dst=true)
  (hK:aa q P g ops rest Q (δ.au dst (.pv v))):aa q P g ops (⟨dst,.pick x y z,ty,pos,af,none⟩::rest) Q δ:=aa.dr (hb▸hx) hz ho e8 lA hd hK
variable {gd:Option (Tmp×Bool)}
theorem c9.ug {t e:TypeId} {x0:Operand} {p0 p1 p2:PV} {z:Value} (ht:P.underlying t=some (.slice e)) (h0:δ.ev x0=.agg [.pv p0,.pv p1,.pv p2]) (hi:(P.info? e).map (fun i=>(i.size,i.zero))=some (3,some z)) (hz:z.cells.toList.all (·.oneCell')=true) (fD:Nat.beq z.cells.size 3=true)
  (k0:AV.one (.pv p0)=true) (k1:AV.one (.pv p1)=true) (k2:AV.one (.pv p2)=true) (o0:aK x0=true) (hd:bk δ.n dst=true):c9 P g ⟨dst,.buildSlice t 1 [(0,x0)].toArray,ty,pos,af,gd⟩ δ ((δ.ba .row).au dst (.own δ.nx e 3 [[p0,p1,p2]])):=by
 have hf:c6 (fun i=>some (i*3,3)) (dD z (1*3)) (([(0,x0)]:List (Nat×Operand)).map fun p=>(p.1,δ.ev p.2))=some [.pv p0,.pv p1,.pv p2]:=by
  simp [c6,fx,AV.cellsOf,AV.gx,dD,h0,k0,k1,k2]<;>rfl
 exact c9.buildSlice (len:=1) (k:=3) (parts:=[(0,x0)]) (cells:=[.pv p0,.pv p1,.pv p2]) ht hi fD rfl rfl hz (by simp [o0]) hf (by simp [AV.qV]) hd
theorem aa.ug {t e:TypeId} {x0:Operand} {p0 p1 p2:PV} {z:Value} (ht:P.underlying t=some (.slice e)) (h0:δ.ev x0=.agg [.pv p0,.pv p1,.pv p2]) (hi:(P.info? e).map (fun i=>(i.size,i.zero))=some (3,some z)) (hz:z.cells.toList.all (·.oneCell')=true) (fD:Nat.beq z.cells.size 3=true)
  (k0:AV.one (.pv p0)=true) (k1:AV.one (.pv p1)=true) (k2:AV.one (.pv p2)=true) (o0:aK x0=true) (hd:bk δ.n dst=true) (hK:aa .plain P g ops rest Q ((δ.ba .row).au dst (.own δ.nx e 3 [[p0,p1,p2]]))):
  aa .plain P g ops (⟨dst,.buildSlice t 1 [(0,x0)].toArray,ty,pos,af,none⟩::rest) Q δ:=aa.mI rfl rfl (c9.ug ht h0 hi hz fD k0 k1 k2 o0 hd) hK
end Go.Ab
/- The checks over a region's orders,quick for the kernel:what is listed lies as the bits of one number. -/
namespace Go.Ab
open Go Go.RowKit
variable {P:Program} {g:ar} {δ:DS} {k:Wt} {late:List Nat} {l:List Oper} {dn:List Nat} {QD:Exit→DS→Prop}
def di (n:Nat):List Nat→Nat
 |[]=>0
 |i::d=>bif Nat.blt i n then di n d|||(1<<<i) else di n d
theorem eg {n:Nat}:∀{d:List Nat} {j:Nat},(di n d).testBit j=(bL n d).getD j false
 |[],j=>by
  show Nat.testBit 0 j=(Array.replicate n false).getD j false
  rw[Nat.zero_testBit]
  simp [Array.getD_eq_getD_getElem?,Array.getElem?_replicate]
  split<;>rfl
 |i::d,j=>by
  show(bif Nat.blt i n then di n d|||(1<<<i) else di n d).testBit j=((bL n d).setIfInBounds i true).getD j false
  rw[CO]
  have iK:(bL n d).size=n:=by
   clear j
   induction d with
   |nil=>simp [bL]
   |cons i d ih=>simp [bL,ih]
  by_cases hi:i<n
  ·have hb:Nat.blt i n=true:=by simpa using hi
   rw[hb,cond_true,Nat.testBit_or,eg,Nat.one_shiftLeft,Nat.testBit_two_pow]
   by_cases oJ:i=j
   ·subst oJ;simp [iK,hi]
   ·simp [oJ]
  ·have hb:Nat.blt i n=false:=by
    cases h:Nat.blt i n with
    |false=>rfl
    |true=>exact absurd (by simpa using h) hi
   rw[hb,cond_false,eg]
   by_cases oJ:i=j
   ·subst oJ
    rw[if_pos rfl,if_neg (by omega)]
    simp [Array.getD_eq_getD_getElem?,Array.getElem?_eq_none (by omega:(bL n d).size≤i)]
   ·rw[if_neg oJ]
def kc (m:Nat) (o:Oper):Bool:=o.after.toList.all fun e=>!Region.binds .any e||m.testBit e.on
def fB (m:Nat):Nat→List Oper→List Nat
 |_,[]=>[]
 |j,o::r=>bif !m.testBit j && kc m o then j::fB m (j+1) r else fB m (j+1) r
theorem kU (m:Nat):∀(l:List Oper) (j:Nat),fB m j l=((List.range l.length).filter fun i=>!m.testBit (j+i) && ((l[i]?).map (kc m)).getD false).map (j+·)
 |[],_=>rfl
 |o::r,j=>by
  rw[List.length_cons,List.range_succ_eq_map,List.filter_cons,fB,kU m r (j+1)]
  simp only[Nat.add_zero,List.getElem?_cons_zero,Option.map_some,Option.getD_some,List.filter_map]
  have e:(List.map (fun x=>j+x) (List.map Nat.succ (List.filter ((fun i=>!m.testBit (j+i) && (Option.map (kc m) (o::r)[i]?).getD false)∘Nat.succ) (List.range r.length))))=List.map (fun x=>j+1+x) (List.filter (fun i=>!m.testBit (j+1+i) && (Option.map (kc m) r[i]?).getD false) (List.range r.length)):=by
   rw[List.map_map]
   have e2:((fun i=>!m.testBit (j+i) && (Option.map (kc m) (o::r)[i]?).getD false)∘Nat.succ)=(fun i=>!m.testBit (j+1+i) && (Option.map (kc m) r[i]?).getD false):=by
    funext i
    simp only[Function.comp,Nat.succ_eq_add_one,List.getElem?_cons_succ]
    rw[show j+(i+1)=j+1+i by omega]
   rw[e2]
   apply List.map_congr_left
   intro i _
   simp only[Function.comp,Nat.succ_eq_add_one]
   omega
  cases (!m.testBit j && kc m o) with
  |true=>simp only[cond_true,if_true,List.map_cons,Nat.add_zero];rw[e]
  |false=>simp only[cond_false,Bool.false_eq_true,if_false];rw[e]
theorem rF:Region.ready .any l.toArray (bL l.length dn)=fB (di l.length dn) 0 l:=by
 rw[kU]
 unfold Region.ready
 simp only[Nat.zero_add,List.size_toArray]
 rw[show(fun x:Nat=>x)=id from rfl,List.map_id]
 apply List.filter_congr
 intro i hi
 have oK:i<l.length:=List.mem_range.1 hi
 have e1:(bL l.length dn).getD i true=(di l.length dn).testBit i:=by
  rw[eg]
  have iK:(bL l.length dn).size=l.length:=by
   clear hi oK
   generalize l.length=n
   induction dn with
   |nil=>simp [bL]
   |cons i d ih=>simp [bL,ih]
  rw[Array.getD_eq_getD_getElem?,Array.getD_eq_getD_getElem?,Array.getElem?_eq_getElem (by omega)];rfl
 rw[e1]
 congr 1
 rw[List.getElem?_toArray]
 congr 2
 funext o
 unfold kc
 rw[← Array.all_toList]
 congr 1
 funext e
 rw[eg]
theorem gL {rs:List Nat} (h:(fB (di l.length dn) 0 l==rs)=true):fQ l dn rs=true:=by
 unfold fQ;rw[rF];exact h
def uM (late:List Nat) (m:Nat):Bool:=late.any m.testBit
theorem qb:bZ late (bL l.length dn)=uM late (di l.length dn):=by
 unfold bZ uM
 congr 1
 funext j
 rw[eg]
def x8 (ops:Array Oper) (m i:Nat) (oi:Oper):Nat→List Oper→Bool
 |_,[]=>true
 |j,o::r=>(Nat.beq j i||m.testBit j||o.after.toList.any (fun e=>Region.binds .any e && Nat.beq e.on i)||oi.apart ops o) && x8 ops m i oi (j+1) r
theorem pg {ops:Array Oper} {m i:Nat} {oi:Oper}:∀{l:List Oper} {j:Nat},x8 ops m i oi j l=true→∀(x:Nat) (o:Oper),l[x]? =some o→(j+x==i||m.testBit (j+x)||(o.after.any (fun e=>Region.binds .any e && e.on==i)||oi.apart ops o))=true
 |[],_,_,x,o,h=>by simp at h
 |o'::r,j,h,x,o,hx=>by
  unfold x8 at h
  rw[Bool.and_eq_true] at h
  cases x with
  |zero=>
   simp only[List.getElem?_cons_zero,Option.some.injEq] at hx
   subst hx
   have h1:=h.1
   simp only[Nat.add_zero]
   rw[← Array.any_toList]
   simpa [Bool.or_assoc] using h1
  |succ x=>
   rw[List.getElem?_cons_succ] at hx
   have:=pg h.2 x o hx
   rwa [show j+1+x=j+(x+1) by omega] at this
def AE (l:List Oper) (late:List Nat) (m:Nat) (i:Nat):Bool:=
 (fB m 0 l).contains i && (match l[i]? with|some oi=>x8 l.toArray m i oi 0 l|none=>false) && !late.contains i
def firstM (l:List Oper) (late:List Nat):List Nat→List Nat→Bool
 |[],_=>true
 |i::r,dn=>AE l late (di l.length dn) i && late.all (fun j=>mu l.toArray i j||jy l.toArray i l.length j) && firstM l late r (i::dn)
def tZ (l:List Oper):Bool:=Region.noSelect l.toArray && l.all dI
theorem vy {i:Nat} (hf:tZ l=true) (hl:Nat.blt dn.length l.length=true) (h:AE l late (di l.length dn) i=true):qx l late dn i=true:=by
 unfold tZ at hf
 unfold AE at h
 unfold qx
 simp only[Bool.and_eq_true] at hf h ⊢
 refine⟨⟨⟨⟨hf,by rw[rF];exact h.1.1⟩,?_⟩,h.2⟩,hl⟩
 have h2:=h.1.2
 unfold Region.free
 rw[List.getElem?_toArray]
 cases ho:l[i]? with
 |none=>rw[ho] at h2;cases h2
 |some oi=>
  rw[ho] at h2
  simp only at h2 ⊢
  rw[List.all_eq_true]
  intro j hj
  have hj':j<l.length:=by simpa using hj
  have h3:=pg h2 j _ (List.getElem?_eq_getElem hj')
  rw[Nat.zero_add,eg] at h3
  have iK:(bL l.length dn).size=l.length:=by
   clear hf h h2 h3 hl
   generalize l.length=n
   induction dn with
   |nil=>simp [bL]
   |cons i d ih=>simp [bL,ih]
  have e1:(bL l.length dn).getD j true=(bL l.length dn).getD j false:=by
   rw[Array.getD_eq_getD_getElem?,Array.getD_eq_getD_getElem?,Array.getElem?_eq_getElem (by omega)];rfl
  rw[e1,List.getElem?_toArray,List.getElem?_eq_getElem hj']
  exact h3
theorem jo (hf:tZ l=true):∀(l2 dn:List Nat),Nat.ble (l2.length+dn.length) l.length=true→firstM l late l2 dn=true→mO l late l2 dn=true
 |[],_,_,_=>rfl
 |i::r,dn,hle,h=>by
  unfold firstM at h
  unfold mO
  simp only[Bool.and_eq_true] at h ⊢
  have zJ:(i::r).length+dn.length≤l.length:=by simpa using hle
  simp only[List.length_cons] at zJ
  exact⟨⟨vy hf (by simp;omega) h.1.1,h.1.2⟩,jo hf r _ (by simp;omega) h.2⟩
theorem AR.cU (l2:List Nat) (hf:tZ l=true) (hB:firstM l late l2 dn=true) (hL:uM late (di l.length dn)=false) (hle:Nat.ble (l2.length+dn.length) l.length=true)
  (h:∀g':ar,Gs g' g→aa .held P g' l.toArray (pick l l2) (dR fun δ'=>∀k':Wt,k'.2.2=δ.nx→AR P g k' late l QD (l2.reverse++dn) δ') δ):AR P g k late l QD dn δ:=
 AR.reads l2 (jo hf _ _ hle hB) (by rw[qb];exact hL) hle h
theorem AR.Bb (dg:g.wt=none) (hr:(fB (di l.length dn) 0 l==[])=true) (h:QD .normal δ):AR P g k late l QD dn δ:=AR.done dg (gL hr) h
theorem AR.aS {i:Nat} {o:Oper} (hl:Nat.blt dn.length l.length=true) (hr:(fB (di l.length dn) 0 l==[i])=true) (ho:l[i]? =some o)
  (h:∀g':ar,Gs g' g→(∀j,k.2.2≤j→g'.iu j)→aa .plain P g' l.toArray [o] (dR (AR P g k late l QD (i::dn))) δ):AR P g k late l QD dn δ:=AR.bQ hl (gL hr) ho h
theorem AR.cX {i:Nat} {o:Oper} (hl:Nat.blt dn.length l.length=true) (hr:(fB (di l.length dn) 0 l==[i])=true) (ho:l[i]? =some o) (aP:uM late (di l.length (i::dn))=true)
  (h:∀g':ar,Gs g' g→g'.wt=none→aa .plain P g' l.toArray [o] (dR (AR P g k late l QD (i::dn))) δ):AR P g k late l QD dn δ:=AR.pJ hl (gL hr) ho (by rw[qb];exact aP) h
theorem AR.bR {i j:Nat} {o p:Oper} (hl:Nat.blt dn.length l.length=true) (hr:(fB (di l.length dn) 0 l==[i,j])=true) (ho:l[i]? =some o) (hp:l[j]? =some p)
  (h:∀g':ar,Gs g' g→(∀j,k.2.2≤j→g'.iu j)→aa .plain P g' l.toArray [o] (dR (AR P g k late l QD (i::dn))) δ)
  (h':∀g':ar,Gs g' g→(∀j,k.2.2≤j→g'.iu j)→aa .plain P g' l.toArray [p] (dR (AR P g k late l QD (j::dn))) δ):AR P g k late l QD dn δ:=AR.kY hl (gL hr) ho hp h h'
theorem AW.bE {id:Nat} (l1:List Nat) (late:List Nat) {l:List Oper} (hm:P.follows .mixedOrders=true) (dg:g.wt=none) (hf:tZ l=true) (hB:firstM l late l1 []=true) (hle:Nat.ble l1.length l.length=true)
  (h:aa .held P g l.toArray (pick l l1) (dR fun δ'=>∀k:Wt,k.2.2=δ.nx→AR P g k late l QD l1.reverse δ') δ):AW P g (.region id l.toArray true) QD δ:=
 AW.sk l1 late hm dg (jx _ _ (jo hf _ _ (by simpa using hle) hB)) hle h
end Go.Ab
/- A loop's state told by what stays of the state before it and what changes. -/
namespace Go.Ab
open Go Go.RowKit
variable {P:Program} {g:ar} {δ:DS}
def CJ (e:List (Nat×AV)):List Nat→List (Nat×AV)
 |[]=>[]
 |k::ks=>(k,look e k)::CJ e ks
def CN (o:List (Nat×Option Ob)):List Nat→List (Nat×Option Ob)
 |[]=>[]
 |k::ks=>(k,aG o k)::CN o ks
def w6:List (Nat×Option Ob)→Nat→Nat
 |[],n=>n
 |(k,_)::r,n=>w6 r (bif Nat.ble n k then k+1 else n)
namespace Nf
theorem QV (n:Nat):w6 [] n=n:=rfl
theorem Pv (k n:Nat) (v:Option Ob) (r:List (Nat×Option Ob)):w6 ((k,v)::r) n=w6 r (bif Nat.ble n k then k+1 else n):=rfl
def ao:List (Nat×Option Ob)→List (Nat×Option Ob)→List (Nat×Option Ob)
 |[],m=>m
 |v::r,m=>v::ao r m
theorem O6 (m:List (Nat×Option Ob)):ao [] m=m:=rfl
theorem Pl (v:Nat×Option Ob) (r m:List (Nat×Option Ob)):ao (v::r) m=v::ao r m:=rfl
theorem Qt (e:List (Nat×AV)):CJ e []=[]:=rfl
theorem Pf (e:List (Nat×AV)) (k:Nat) (ks:List Nat):CJ e (k::ks)=(k,look e k)::CJ e ks:=rfl
theorem Qa (e:List (Nat×Option Ob)):CN e []=[]:=rfl
theorem PX (e:List (Nat×Option Ob)) (k:Nat) (ks:List Nat):CN e (k::ks)=(k,aG e k)::CN e ks:=rfl
set_option linter.defProp false in
def jJ:=And.intro @QV (And.intro @Pv (And.intro @O6 (And.intro @Pl (And.intro @Qt (And.intro @Pf (And.intro @Qa @PX))))))
end Nf
theorem AW.ck {S:Type} {c:Code} {Q:Exit→DS→Prop} (ks os:List Nat) (u:S→List (Nat×AV)) (ou:S→List (Nat×Option Ob)) (I:S→Prop) (μ:S→Nat) (s0:S) {D:S→DS}
  (hD:(fun s=>(⟨δ.n,Nf.ae (u s) (CJ δ.env ks),Nf.ao (ou s) (CN δ.objs os),w6 (ou s) δ.nx⟩:DS))=D) (hs:I s0) (hw:jT g δ (D s0))
  (round:∀s,I s→AW P g c (bM (fun δ'=>∃s',I s'∧μ s'<μ s∧jT g δ' (D s')) Q) (D s)):AW P g (.loop c) Q δ:=AW.loop D I μ s0 hs hw round
end Go.Ab
/- Quotient and remainder of numbers that are not below zero. -/
namespace Go.Ab
open Go Go.RowKit
variable {q:Md} {P:Program} {g:ar} {δ:DS} {ops:Array Oper} {rest:List Oper} {Q:Exit→DS→Prop} {dst:Option Nat} {ty:TypeId} {pos:String} {af:Array Edge} {x y:Operand} {m n:Int} {t t':TypeId}
end Go.Ab
/- Two objects' names exchanged;the orders of a drawn region brought together again. -/
namespace Go.Ab
open Go Go.RowKit
variable {P:Program} {g:ar} {δ:DS} {κ:Kp} {a:Act} {w:World}
def fp (i j x:Nat):Nat:=bif Nat.beq i x then j else bif Nat.beq j x then i else x
theorem vK (i j x:Nat):fp i j x=if i=x then j else if j=x then i else x:=by
 unfold fp
 by_cases h1:i=x
 ·subst h1;simp
 ·rw[gm h1,if_neg h1]
  by_cases h2:j=x
  ·subst h2;simp
  ·rw[gm h2,if_neg h2];rfl
theorem df (i j x:Nat):fp i j (fp i j x)=x:=by
 simp only[vK]
 split<;>split<;>(try split)<;>omega
mutual
def AV.sw (i j:Nat):AV→AV
 |.any=> .any
 |.pv p=> .pv p
 |.own x e k els=> .own (fp i j x) e k els
 |.ptr x o=> .ptr (fp i j x) o
 |.rptr c=> .rptr c
 |.optr x e k els n=> .optr (fp i j x) e k els n
 |.agg cs=> .agg (AV.qZ i j cs)
 |.tup cs=> .tup (AV.qZ i j cs)
 |.clo fn cs ds=> .clo fn (AV.qZ i j cs) (AV.qZ i j ds)
 |.mapr x=> .mapr (fp i j x)
 |.yld x=> .yld (fp i j x)
def AV.qZ (i j:Nat):List AV→List AV
 |[]=>[]
 |c::cs=>AV.sw i j c::AV.qZ i j cs
end
theorem AV.nb (i j:Nat):∀l,AV.qZ i j l=l.map (AV.sw i j)
 |[]=>rfl
 |c::cs=>by simp [AV.qZ,AV.nb i j cs]
def Ob.sw (i j:Nat):Ob→Ob
 |.row=> .row
 |.box cs=> .box (AV.qZ i j cs)
 |.mp l=> .mp (l.map fun p=>(p.1,p.2.sw i j))
 |.mpl l k v=> .mpl (l.map fun p=>(p.1,p.2.sw i j)) k (v.sw i j)
 |.it l seen=> .it l seen
 |.lit T vals=> .lit T vals
 |.pool e rows=> .pool e rows
 |.loop l tm ps asg body st=> .loop l tm ps asg body st
theorem Ob.G8 (i j:Nat) (o:Ob):(o.sw i j).fy=o.fy:=by cases o<;>rfl
def Fz (i j:Nat):List (Nat×AV)→List (Nat×AV)
 |[]=>[]
 |(x,v)::r=>(x,v.sw i j)::Fz i j r
def rU (i j:Nat):List (Nat×Option Ob)→List (Nat×Option Ob)
 |[]=>[]
 |(x,none)::r=>(fp i j x,none)::rU i j r
 |(x,some o)::r=>(fp i j x,some (o.sw i j))::rU i j r
def DS.sw (δ:DS) (i j:Nat):DS:=⟨δ.n,Fz i j δ.env,rU i j δ.objs,δ.nx⟩
theorem xq (i j:Nat) (k:Nat):∀e,look (Fz i j e) k=(look e k).sw i j
 |[]=>rfl
 |(x,v)::r=>by
  unfold Fz
  simp only[aX,xq i j k r]
  split<;>rfl
theorem ni (i j:Nat) (k:Nat):∀e,aG (rU i j e) (fp i j k)=(aG e k).map (Ob.sw i j)
 |[]=>rfl
 |(x,o)::r=>by
  have hx:(fp i j x=fp i j k)=(x=k):=by
   apply propext
   constructor
   ·intro h;rw[← df i j x,h,df]
   ·intro h;rw[h]
  cases o with
  |none=>
   unfold rU
   simp only[aV,ni i j k r,hx]
   split<;>rfl
  |some o=>
   unfold rU
   simp only[aV,ni i j k r,hx]
   split<;>rfl
theorem x6 (i j k:Nat):(δ.sw i j).ob k=(δ.ob (fp i j k)).map (Ob.sw i j):=by
 have:=ni i j (fp i j k) δ.objs
 rw[df] at this
 exact this
theorem gC (i j k:Nat):(δ.sw i j).live k↔δ.live (fp i j k):=by
 unfold DS.live
 rw[x6]
 cases δ.ob (fp i j k)<;>simp
theorem FN (i j k:Nat):(δ.sw i j).lr k↔δ.lr (fp i j k):=by
 unfold DS.lr
 rw[x6]
 cases h:δ.ob (fp i j k) with
 |none=>simp
 |some o=>cases o<;>simp [Ob.sw]
theorem Bh (i j k:Nat):(δ.sw i j).lb k↔δ.lb (fp i j k):=by
 unfold DS.lb
 rw[x6]
 cases h:δ.ob (fp i j k) with
 |none=>simp
 |some o=>simp [Ob.G8]
def FG (i j:Nat) (κ:Kp):Kp:=⟨fun x=>κ (fp i j x),fun x b=>κ.F (fp i j x) b⟩
theorem FH (i j b:Nat):(FG i j κ).Fs b↔κ.Fs b:=by
 constructor
 ·rintro⟨x,h⟩;exact⟨_,h⟩
 ·rintro⟨x,h⟩;exact⟨fp i j x,by show κ.F (fp i j (fp i j x)) b;rw[df];exact h⟩
theorem Ge (i j b:Nat):((δ.sw i j).cx g (FG i j κ)).N b↔(δ.cx g κ).N b:=by
 show((g.N0 b∧_)∧_)↔((g.N0 b∧_)∧_)
 constructor
 ·rintro⟨h1,h2⟩
  refine⟨⟨h1.1,fun h=>h1.2 ((FH i j b).2 h)⟩,fun x hx=>?_⟩
  have:=h2 (fp i j x) ((gC i j _).2 (by rw[df];exact hx))
  have this:κ (fp i j (fp i j x))≠some b:=this
  rwa [df] at this
 ·rintro⟨h1,h2⟩
  exact⟨⟨h1.1,fun h=>h1.2 ((FH i j b).1 h)⟩,fun x hx=>h2 _ ((gC i j _).1 hx)⟩
theorem BG (i j:Nat) {v:Value} {p:PV} (h:RP (δ.cx g κ).N w v p):RP ((δ.sw i j).cx g (FG i j κ)).N w v p:=
 h.mono (Nat.le_refl _) fun b _ hb=>⟨(Ge i j b).2 hb,rfl⟩
theorem AO (i j:Nat) {v:Value} {x:Nat} {e:TypeId} {k:Nat} {els:List (List PV)} (h:dJ (δ.cx g κ) w v x e k els):dJ ((δ.sw i j).cx g (FG i j κ)) w v (fp i j x) e k els:=by
 obtain⟨hl,gi,hk,hb,xs,ho,h1,hx⟩:=h
 refine⟨(FN i j _).2 (by rw[df];exact hl),gi,hk,fun b hv=>?_,xs,ho,h1,fun i' j' p hp=>let ⟨u,h1,h2⟩:=hx i' j' p hp;⟨u,h1,BG i j h2⟩⟩
 show κ (fp i j (fp i j x))=some b
 rw[df];exact hb b hv
theorem yb (i j:Nat) {v:Value} {av:AV} (h:RA (δ.cx g κ) w v av):RA ((δ.sw i j).cx g (FG i j κ)) w v (av.sw i j):=by
 induction h with
 |any v=>exact .any v
 |pv h=>exact .pv (BG i j h)
 |own h=>exact .own (AO i j h)
 |ptr hl hκ=>exact .ptr ((Bh i j _).2 (by rw[df];exact hl)) (by show κ (fp i j (fp i j _))=_;rw[df];exact hκ)
 |rptr b off vs hN hb hc hr=>exact .rptr b off vs ((Ge i j b).2 hN) hb hc fun k p hp=>BG i j (hr k p hp)
 |optr hi h=>exact .optr hi (AO i j h)
 |agg hs h ih=>
  show RA _ _ _ (.agg (AV.qZ i j _))
  rw[AV.nb]
  refine .agg (by simp [hs]) fun k u c hu hc=>?_
  rw[List.getElem?_map] at hc
  obtain⟨c',hc',rfl⟩:=Option.map_eq_some_iff.1 hc
  exact ih k u c' hu hc'
 |tup hs h ih=>
  show RA _ _ _ (.tup (AV.qZ i j _))
  rw[AV.nb]
  refine .tup (by simp [hs]) fun k u c hu hc=>?_
  rw[List.getElem?_map] at hc
  obtain⟨c',hc',rfl⟩:=Option.map_eq_some_iff.1 hc
  exact ih k u c' hu hc'
 |clo hs h ht h' ih ih'=>
  show RA _ _ _ (.clo _ (AV.qZ i j _) (AV.qZ i j _))
  rw[AV.nb,AV.nb]
  refine .clo (by simp [hs]) (fun k u c hu hc=>?_) (by simp [ht]) (fun k u c hu hc=>?_)
  ·rw[List.getElem?_map] at hc
   obtain⟨c',hc',rfl⟩:=Option.map_eq_some_iff.1 hc
   exact ih k u c' hu hc'
  ·rw[List.getElem?_map] at hc
   obtain⟨c',hc',rfl⟩:=Option.map_eq_some_iff.1 hc
   exact ih' k u c' hu hc'
 |mapr hl hκ=>exact .mapr ((Bh i j _).2 (by rw[df];exact hl)) (by show κ (fp i j (fp i j _))=_;rw[df];exact hκ)
 |yld hl hκ=>exact .yld ((Bh i j _).2 (by rw[df];exact hl)) (by show κ (fp i j (fp i j _))=_;rw[df];exact hκ)
theorem tO (i j:Nat) (v:AV):(v.sw i j).eJ=v.eJ:=by cases v<;>rfl
theorem iA.sw (i j:Nat) {x:Nat} {o:Ob} (h:iA (δ.cx g κ) w x o):iA ((δ.sw i j).cx g (FG i j κ)) w (fp i j x) (o.sw i j):=by
 have hκ:∀y,((δ.sw i j).cx g (FG i j κ)).κ (fp i j y)=κ y:=fun y=>by show κ (fp i j (fp i j y))=_;rw[df]
 cases o with
 |row=>
  intro b hb
  rw[hκ] at hb
  exact h b hb
 |box cs=>
  obtain⟨b,c,e,h1,h2,h3,h4⟩:=h
  show iA _ _ _ (.box (AV.qZ i j cs))
  rw[AV.nb]
  refine⟨b,c,e,(hκ x).trans h1,h2,by simp [h3],fun k u av h5 h6=>?_⟩
  rw[List.getElem?_map] at h6
  obtain⟨c',hc',rfl⟩:=Option.map_eq_some_iff.1 h6
  exact⟨yb i j (h4 k u c' h5 hc').1,(h4 k u c' h5 hc').2⟩
 |mp l=>
  obtain⟨b,es,clock,h1,h2,h3,h4,h5⟩:=h
  refine⟨b,es,clock,(hκ x).trans h1,h2,⟨by simp [h3.1],fun k e p h6 h7=>?_⟩,h4,fun p hp=>?_⟩
  ·rw[List.getElem?_map] at h7
   obtain⟨p',hp',rfl⟩:=Option.map_eq_some_iff.1 h7
   exact⟨(h3.2 k e p' h6 hp').1,yb i j (h3.2 k e p' h6 hp').2⟩
  ·obtain⟨p',hp',rfl⟩:=List.mem_map.1 hp
   show(p'.2.sw i j).eJ=true
   rw[tO];exact h5 p' hp'
 |mpl l kk v=>
  obtain⟨b,es,clock,h1,h2,h3,h4,h5⟩:=h
  refine⟨b,es,clock,(hκ x).trans h1,h2,⟨by simpa using h3.1,fun k e p h6 h7=>?_⟩,h4,fun p hp=>?_⟩
  ·have h8:((l++ [(kk,v)]).map fun p=>(p.1,p.2.sw i j))[k]? =some p:=by simpa using h7
   rw[List.getElem?_map] at h8
   obtain⟨p',hp',rfl⟩:=Option.map_eq_some_iff.1 h8
   exact⟨(h3.2 k e p' h6 hp').1,yb i j (h3.2 k e p' h6 hp').2⟩
  ·obtain⟨p',hp',rfl⟩:=List.mem_map.1 hp
   show(p'.2.sw i j).eJ=true
   rw[tO];exact h5 p' hp'
 |it l seen=>
  obtain⟨b,h1,h2⟩:=h
  exact⟨b,(hκ x).trans h1,h2.mono (Nat.le_refl _) (fun b _ hb=>⟨(Ge i j b).2 hb,rfl⟩) rfl⟩
 |lit T vals=>obtain⟨b,h1,h2⟩:=h;exact⟨b,(hκ x).trans h1,h2⟩
 |pool e rows=>exact⟨(hκ x).trans h.1,fun k=>let ⟨h1,h2,h3,h4⟩:=h.2.1 k;⟨h1,h2,fun b hb=>(by show κ.F (fp i j (fp i j x)) b;rw[df];exact h3 b hb),h4⟩,h.2.2⟩
 |loop l tm ps asg body st=>
  obtain⟨b,r,h1,h2⟩:=h
  exact⟨b,r,(hκ x).trans h1,h2⟩
theorem Rel.sw (i j:Nat) (hi:i<δ.nx) (hj:j<δ.nx) (hw:∀k,g.wt=some k→k.2.2≤i∧k.2.2≤j) (r:Rel g δ κ a w):Rel g (δ.sw i j) (FG i j κ) a w where
 n:=r.n
 dfr:=r.dfr
 env:=fun k=>by
  have e:(δ.sw i j).get k=(δ.get k).sw i j:=xq i j k δ.env
  rw[e];exact yb i j (r.env k)
 obj:=fun x o h=>by
  rw[x6] at h
  obtain⟨o',ho',rfl⟩:=Option.map_eq_some_iff.1 h
  have:=(r.obj _ o' ho').sw i j
  rwa [df] at this
 inj:=fun x y b hx hy h1 h2=>by
  have:=r.inj _ _ b ((gC i j x).1 hx) ((gC i j y).1 hy) h1 h2
  rw[← df i j x,this,df]
 lo:=fun x b hx h1=>r.lo _ b ((gC i j x).1 hx) h1
 nx:=fun x hx=>by
  have:=r.nx _ ((gC i j x).1 hx)
  show x<δ.nx
  rw[vK] at this
  split at this
  ·omega
  ·split at this<;>omega
 wt:=fun k hk=>by
  obtain⟨h1,h2⟩:=hw k hk
  refine⟨(r.wt k hk).1,fun x b hx o8 hκ=>(r.wt k hk).2 (fp i j x) b ((gC i j x).1 hx) ?_ hκ⟩
  rcases o8 with o8|o8
  ·exact .inl ((FN i j x).1 o8)
  ·right
   rw[vK]
   split
   ·exact h2
   ·split
    ·exact h1
    ·exact o8
 below:=r.below
 hB:=r.hB
 N0:=r.N0
 mkf:=r.mkf
 fr:=by
  refine⟨fun b hb=>?_,fun x b hb=>?_⟩
  ·obtain⟨h1,h2,h3⟩:=r.fr.1 b hb
   exact⟨h1,h2,fun x hx=>h3 _ ((gC i j x).1 hx)⟩
  ·obtain⟨h1,h2,h3,h4,h5⟩:=r.fr.2 _ b hb
   refine⟨h1,h2,h3,fun y hy=>h4 _ ((gC i j y).1 hy),fun y hy=>?_⟩
   rw[← df i j y,h5 _ hy,df]
namespace Nf
variable {n x:Nat} {e:List (Nat×AV)} {o:List (Nat×Option Ob)} {i j k:Nat}
theorem sw:DS.sw ⟨n,e,o,x⟩ i j=⟨n,Fz i j e,rU i j o,x⟩:=rfl
theorem NU:Fz i j []=[]:=rfl
theorem M5 (v:AV) (r:List (Nat×AV)):Fz i j ((k,v)::r)=(k,v.sw i j)::Fz i j r:=rfl
theorem NV:rU i j []=[]:=rfl
theorem LC (r:List (Nat×Option Ob)):rU i j ((k,none)::r)=(fp i j k,none)::rU i j r:=rfl
theorem LU (r:List (Nat×Option Ob)):rU i j ((k,some .row)::r)=(fp i j k,some .row)::rU i j r:=rfl
theorem JD (e:TypeId) (p:Nat→Value×List Value) (r:List (Nat×Option Ob)):rU i j ((k,some (.pool e p))::r)=(fp i j k,some (.pool e p))::rU i j r:=rfl
theorem Mt (cs:List AV) (r:List (Nat×Option Ob)):rU i j ((k,some (.box cs))::r)=(fp i j k,some (.box (AV.qZ i j cs)))::rU i j r:=rfl
theorem LW (l:List (Value×PV)) (s:List Nat) (r:List (Nat×Option Ob)):rU i j ((k,some (.it l s))::r)=(fp i j k,some (.it l s))::rU i j r:=rfl
theorem L1 (l tm ps asg body st) (r:List (Nat×Option Ob)):rU i j ((k,some (.loop l tm ps asg body st))::r)=(fp i j k,some (.loop l tm ps asg body st))::rU i j r:=rfl
theorem Lx:AV.qZ i j []=[]:=rfl
theorem Ny (v:AV) (r:List AV):AV.qZ i j (v::r)=v.sw i j::AV.qZ i j r:=rfl
theorem Mq:AV.sw i j .any=.any:=rfl
theorem Mx (p:PV):AV.sw i j (.pv p)=.pv p:=rfl
theorem Ma (e m els):AV.sw i j (.own k e m els)=.own (fp i j k) e m els:=rfl
theorem Lz (m:Nat):AV.sw i j (.ptr k m)=.ptr (fp i j k) m:=rfl
theorem NT (c:List PV):AV.sw i j (.rptr c)=.rptr c:=rfl
theorem M_ (e m els m'):AV.sw i j (.optr k e m els m')=.optr (fp i j k) e m els m':=rfl
theorem NK (c:List AV):AV.sw i j (.agg c)=.agg (AV.qZ i j c):=rfl
theorem Mc (c:List AV):AV.sw i j (.tup c)=.tup (AV.qZ i j c):=rfl
theorem M1 (f) (c d:List AV):AV.sw i j (.clo f c d)=.clo f (AV.qZ i j c) (AV.qZ i j d):=rfl
theorem LN:AV.sw i j (.mapr k)=.mapr (fp i j k):=rfl
theorem Nu:AV.sw i j (.yld k)=.yld (fp i j k):=rfl
theorem Mp:fp i j k=bif Nat.beq i k then j else bif Nat.beq j k then i else k:=rfl
set_option linter.defProp false in
def QR:=And.intro @sw (And.intro @NU (And.intro @M5 (And.intro @NV (And.intro @LC (And.intro @LU (And.intro @JD (And.intro @Mt (And.intro @LW (And.intro @L1 (And.intro @Lx (And.intro @Ny (And.intro @Mq (And.intro @Mx (And.intro @Ma (And.intro @Lz (And.intro @NT (And.intro @M_ (And.intro @NK (And.intro @Mc (And.intro @M1 (And.intro @LN (And.intro @Nu @Mp))))))))))))))))))))))
end Nf
variable {k:Wt} {late:List Nat} {l:List Oper} {dn:List Nat} {QD:Exit→DS→Prop}
theorem AR.Ca {δ':DS} (hw:∀g':ar,(∀k',g'.wt=some k'→k'=k)→jT g' δ δ') (h:AR P g k late l QD dn δ'):AR P g k late l QD dn δ:=by
 intro oa κ a w r
 obtain⟨κ',r'⟩:=hw _ (fun k' hk'=>by
  have:(if bZ late (bL l.length dn)=true then none else some k)=some k':=hk'
  split at this
  ·cases this
  ·cases this;rfl) κ a w r
 exact h oa κ' a w r'
theorem AR.sw (i j:Nat) {m:Nat} (hk:k.2.2=m) (hi:(Nat.ble m i && Nat.blt i δ.nx)=true) (hj:(Nat.ble m j && Nat.blt j δ.nx)=true) (h:AR P g k late l QD dn (δ.sw i j)):AR P g k late l QD dn δ:=by
 simp only[Bool.and_eq_true,Nat.ble_eq,Nat.blt_eq] at hi hj
 exact AR.Ca (fun g' hg κ a w r=>⟨_,r.sw i j hi.2 hj.2 fun k' hk'=>by rw[hg k' hk',hk];exact⟨hi.1,hj.1⟩⟩) h
theorem rL (n:Nat) (d:List Nat):(bL n d).size=n:=by
 induction d with
 |nil=>simp [bL]
 |cons i d ih=>simp [bL,ih]
theorem ze {n:Nat} {d d':List Nat} (h:di n d=di n d'):bL n d=bL n d':=by
 apply Array.ext
 ·rw[rL,rL]
 ·intro i h1 h2
  have e1:=eg (n:=n) (d:=d) (j:=i)
  have e2:=eg (n:=n) (d:=d') (j:=i)
  rw[h] at e1
  rw[e1] at e2
  rw[Array.getD_eq_getD_getElem?,Array.getD_eq_getD_getElem?,Array.getElem?_eq_getElem h1,Array.getElem?_eq_getElem h2] at e2
  exact e2
theorem AR.perm {J:List Nat} (hm:(di l.length dn==di l.length J && Nat.beq dn.length J.length)=true) (h:AR P g k late l QD J δ):AR P g k late l QD dn δ:=by
 simp only[Bool.and_eq_true,beq_iff_eq] at hm
 have hm:di l.length dn=di l.length J∧dn.length=J.length:=⟨hm.1,Nat.eq_of_beq_eq_true hm.2⟩
 have e:=ze hm.1
 intro oa κ a w r
 rw[hm.2]
 have h1:=h (by rw[← e];exact oa) κ a w (by rw[← e];exact r)
 rw[e];exact h1
theorem AR.cut (J:List Nat) {δc:DS} (h1:AR P g k late l QD J δc→AR P g k late l QD dn δ) (h2:AR P g k late l QD J δc):AR P g k late l QD dn δ:=h1 h2
theorem AR.meet {J:List Nat} {δc:DS} (hJ:AR P g k late l QD J δc) (hm:(di l.length dn==di l.length J && Nat.beq dn.length J.length)=true) (hw:∀g':ar,jT g' δ δc):AR P g k late l QD dn δ:=
 AR.Ca (fun g' _=>hw g') (AR.perm hm hJ)
theorem AR.mY {i j m:Nat} {o p q:Oper} (hl:Nat.blt dn.length l.length=true) (hr:(fB (di l.length dn) 0 l==[i,j,m])=true) (ho:l[i]? =some o) (hp:l[j]? =some p) (hq:l[m]? =some q)
  (h:∀g':ar,Gs g' g→(∀j,k.2.2≤j→g'.iu j)→aa .plain P g' l.toArray [o] (dR (AR P g k late l QD (i::dn))) δ)
  (h':∀g':ar,Gs g' g→(∀j,k.2.2≤j→g'.iu j)→aa .plain P g' l.toArray [p] (dR (AR P g k late l QD (j::dn))) δ)
  (h'':∀g':ar,Gs g' g→(∀j,k.2.2≤j→g'.iu j)→aa .plain P g' l.toArray [q] (dR (AR P g k late l QD (m::dn))) δ):AR P g k late l QD dn δ:=
 AR.all hl (gL hr) (by simp) fun i' hi'=>by
  have hw:∀i',∀j,k.2.2≤j→(tq g k late (bL l.length (i'::dn))).iu j:=by
   intro i' j hj k' hk'
   have:(if bZ late (bL l.length (i'::dn))=true then none else some k)=some k':=hk'
   split at this
   ·cases this
   ·cases this;exact hj
  simp only[List.mem_cons,List.not_mem_nil,or_false] at hi'
  rcases hi' with rfl|rfl|rfl
  ·exact⟨o,ho,h _ ⟨rfl,rfl,rfl⟩ (hw _)⟩
  ·exact⟨p,hp,h' _ ⟨rfl,rfl,rfl⟩ (hw _)⟩
  ·exact⟨q,hq,h'' _ ⟨rfl,rfl,rfl⟩ (hw _)⟩
theorem AR.r6 {i j:Nat} {o p:Oper} (hl:Nat.blt dn.length l.length=true) (hr:(fB (di l.length dn) 0 l==[i,j])=true) (ho:l[i]? =some o) (hp:l[j]? =some p) (aP:uM late (di l.length dn)=true)
  (h:∀g':ar,Gs g' g→g'.wt=none→aa .plain P g' l.toArray [o] (dR (AR P g k late l QD (i::dn))) δ)
  (h':∀g':ar,Gs g' g→g'.wt=none→aa .plain P g' l.toArray [p] (dR (AR P g k late l QD (j::dn))) δ):AR P g k late l QD dn δ:=
 AR.all hl (gL hr) (by simp) fun i' hi'=>by
  have G_:bZ late (bL l.length dn)=true:=by rw[qb];exact aP
  have hw:∀i',(tq g k late (bL l.length (i'::dn))).wt=none:=fun i'=>if_pos (nP G_)
  simp only[List.mem_cons,List.not_mem_nil,or_false] at hi'
  rcases hi' with rfl|rfl
  ·exact⟨o,ho,h _ ⟨rfl,rfl,rfl⟩ (hw _)⟩
  ·exact⟨p,hp,h' _ ⟨rfl,rfl,rfl⟩ (hw _)⟩
def nt (k:Nat):List Nat→Bool
 |[]=>false
 |x::r=>bif Nat.beq x k then true else nt k r
def Ax (s:List Nat):List (Nat×AV)→List (Nat×AV)
 |[]=>[]
 |(k,v)::r=>bif nt k s then Ax s r else (k,v)::Ax (k::s) r
def Au (s:List Nat):List (Nat×Option Ob)→List (Nat×Option Ob)
 |[]=>[]
 |(k,v)::r=>bif nt k s then Au s r else (k,v)::Au (k::s) r
theorem pb {k:Nat}:∀{s:List Nat},nt k s=true↔k∈s
 |[]=>by simp [nt]
 |x::r=>by
  unfold nt
  by_cases h:x=k
  ·subst h;simp
  ·rw[gm h,cond_false,pb,List.mem_cons]
   constructor
   ·exact .inr
   ·rintro(h'|h')
    ·exact absurd h'.symm h
    ·exact h'
theorem qa {j:Nat}:∀{e:List (Nat×AV)} {s:List Nat},j∉s→look (Ax s e) j=look e j
 |[],_,_=>rfl
 |(k,v)::r,s,h=>by
  unfold Ax
  cases hm:nt k s with
  |true=>
   have:k≠j:=by rintro rfl;exact h (pb.1 hm)
   rw[cond_true,aX,if_neg this,qa h]
  |false=>
   rw[cond_false,aX,aX]
   by_cases e:k=j
   ·rw[if_pos e,if_pos e]
   ·rw[if_neg e,if_neg e,qa (by simp only[List.mem_cons,not_or];exact⟨fun h'=>e h'.symm,h⟩)]
theorem lz {j:Nat}:∀{e:List (Nat×Option Ob)} {s:List Nat},j∉s→aG (Au s e) j=aG e j
 |[],_,_=>rfl
 |(k,v)::r,s,h=>by
  unfold Au
  cases hm:nt k s with
  |true=>
   have:k≠j:=by rintro rfl;exact h (pb.1 hm)
   rw[cond_true,aV,if_neg this,lz h]
  |false=>
   rw[cond_false,aV,aV]
   by_cases e:k=j
   ·rw[if_pos e,if_pos e]
   ·rw[if_neg e,if_neg e,lz (by simp only[List.mem_cons,not_or];exact⟨fun h'=>e h'.symm,h⟩)]
def DS.dd (δ:DS):DS:=⟨δ.n,Ax [] δ.env,Au [] δ.objs,δ.nx⟩
theorem Rel.congr {δ':DS} (hn:δ'.n=δ.n) (hx:δ'.nx=δ.nx) (he:∀j,δ'.get j=δ.get j) (ho:∀j,δ'.ob j=δ.ob j) (r:Rel g δ κ a w):Rel g δ' κ a w:=by
 have dx:δ'.ob=δ.ob:=funext ho
 have hl:δ'.live=δ.live:=by unfold DS.live;rw[dx]
 have ir:δ'.lr=δ.lr:=by unfold DS.lr;rw[dx]
 have oF:δ'.lb=δ.lb:=by unfold DS.lb;rw[dx]
 have vk:δ'.cx g κ=δ.cx g κ:=by unfold DS.cx;rw[hl,ir,oF]
 exact
  {n:=r.n.trans hn.symm,dfr:=r.dfr
   env:=fun j=>by rw[vk,he];exact r.env j
   obj:=fun i o h=>by rw[vk];rw[ho] at h;exact r.obj i o h
   inj:=by rw[hl];exact r.inj
   lo:=by rw[hl];exact r.lo
   nx:=by rw[hl,hx];exact r.nx
   wt:=by rw[hl,ir];exact r.wt
   below:=r.below,hB:=r.hB,N0:=r.N0,mkf:=r.mkf,fr:=by rw[hl];exact r.fr}
theorem jT.dd:jT g δ δ.dd:=fun κ _ _ r=>⟨κ,Rel.congr (δ:=δ) (δ':=δ.dd) rfl rfl (fun j=>qa (s:=[]) (by simp)) (fun j=>lz (s:=[]) (by simp)) r⟩
theorem AR.dd (h:AR P g k late l QD dn δ.dd):AR P g k late l QD dn δ:=AR.Ca (fun _ _=>jT.dd) h
def HX (b:Bool) (s:List Nat) (k:Nat) (v:AV) (r:List (Nat×AV)):List (Nat×AV):=bif b then Ax s r else (k,v)::Ax (k::s) r
def H4 (b:Bool) (s:List Nat) (k:Nat) (v:Option Ob) (r:List (Nat×Option Ob)):List (Nat×Option Ob):=bif b then Au s r else (k,v)::Au (k::s) r
namespace Nf
variable {n x:Nat} {e:List (Nat×AV)} {o:List (Nat×Option Ob)} {i j m:Nat}
theorem dd:DS.dd ⟨n,e,o,x⟩=⟨n,Ax [] e,Au [] o,x⟩:=rfl
theorem Nn (s:List Nat):Ax s []=[]:=rfl
theorem Mr (s:List Nat) (v:AV) (r:List (Nat×AV)):Ax s ((m,v)::r)=HX (nt m s) s m v r:=rfl
theorem Nj (s:List Nat) (v:AV) (r:List (Nat×AV)):HX true s m v r=Ax s r:=rfl
theorem LR (s:List Nat) (v:AV) (r:List (Nat×AV)):HX false s m v r=(m,v)::Ax (m::s) r:=rfl
theorem L9 (s:List Nat):Au s []=[]:=rfl
theorem Nl (s:List Nat) (v:Option Ob) (r:List (Nat×Option Ob)):Au s ((m,v)::r)=H4 (nt m s) s m v r:=rfl
theorem L3 (s:List Nat) (v:Option Ob) (r:List (Nat×Option Ob)):H4 true s m v r=Au s r:=rfl
theorem Nz (s:List Nat) (v:Option Ob) (r:List (Nat×Option Ob)):H4 false s m v r=(m,v)::Au (m::s) r:=rfl
theorem Rn:nt m []=false:=rfl
theorem Qc (y:Nat) (r:List Nat):nt m (y::r)=bif Nat.beq y m then true else nt m r:=rfl
set_option linter.defProp false in
def Qe:=And.intro @dd (And.intro @Nn (And.intro @Mr (And.intro @Nj (And.intro @LR (And.intro @L9 (And.intro @Nl (And.intro @L3 (And.intro @Nz (And.intro @Rn @Qc)))))))))
end Nf
end Go.Ab
/- Contracts under a premise on the world at the call that no own memory touches (a table laid,a function value's ways);calls of told closures;functions that take functions. -/
namespace Go.Ab
open Go Go.RowKit
variable {P:Program} {g:ar} {δ:DS} {κ:Kp} {a:Act} {w:World}
variable {ops:Array Oper} {rest:List Oper} {Q:Exit→DS→Prop} {dst:Option Nat} {ty:TypeId} {pos:String} {af:Array Edge}
def Mu (T:World→Prop):Prop:=∀w w',T w→Below w.heap.size w w'→T w'
structure I3 (T:World→Prop) (P:Program) (f:FuncId) (args:List AV) (r:AV):Prop where
 enters:∀vals w,(callFunc f vals).run P w=.ok (.enter f vals) w
 calls:∀(N:Nat→Prop) (w:World) (vals:Array Value),T w→(∀b,w.heap.size≤b→N b)→vals.size=args.length→
  (∀(j:Nat) (v:Value) (av:AV),vals[j]? =some v→args[j]? =some av→RA (uC N) w v av)→
  Calls P f vals w fun e w'=>∃v,e=.returned v∧RA (uC N) w' v r∧Below w.heap.size w w'
theorem I3.sub {T T':World→Prop} {f:FuncId} {args:List AV} {r:AV} (h:I3 T P f args r) (hT:∀w,T' w→T w):I3 T' P f args r:=⟨h.enters,fun N w vals ht=>h.calls N w vals (hT w ht)⟩
def TB (T:World→Prop) (g:ar):Prop:=∀w',Below g.B g.w0 w'→T w'
theorem TB.sub {T T':World→Prop} {g:ar} (h:TB T g) (hT:∀w,T w→T' w):TB T' g:=fun w' hb=>hT w' (h w' hb)
theorem I3.enter {T:World→Prop} (dp:Mu T) {f:FuncId} {fn:Func} {c:Code} {rs:List ResultVar} {n:Nat} {args:List AV} {r:AV} (hf:P.funcs[f]? =some fn) (hb:fn.body=some c) (mE:fn.results=rs.toArray) (hn:fn.ntmps=n) (uE:Nat.ble args.length n=true)
  (ka:Nat.ble n HS=true) (he:(fn.name== "runtime.NumGoroutine")=false) (h:∀g:ar,g.ro=none→g.wt=none→TB T g→AW P g c (Ends P rs r) (start n args)):I3 T P f args r:=by
 refine⟨fun vals w=>by simp [callFunc,hf,hb];simpa using he,fun N w vals hTw hN hs b9=>?_⟩
 have hle:args.length≤n:=by simpa using uE
 have hnH:n≤HS:=by simpa using ka
 let g:ar:={B:=w.heap.size,w0:=w,N0:=N,held:=fun _=>undef,ro:=none,mks:=[],wt:=none,fr:=fun _=>False,w1:=w}
 have hY:∀i,¬(start n args).live i:=fun i ⟨o,h⟩=>by cases h
 refine callsIn_wide.1 (callsIn_of_wp_marks (n:=0) hf hb trivial (wpIn_mono (h g rfl rfl (fun w' hb=>dp w w' hTw hb) ⟨fun _=>none,fun _ _=>False⟩ _ w ?_) ?_))
 ·exact
  {n:=by simp [hn,start];omega
   dfr:=⟨[],rfl,by simp [g],by simp [g]⟩
   env:=fun j=>by
    by_cases hj:j<args.length
    ·have h1:(start n args).get j=args[j]:=gM args 0 j _ (Nat.zero_le _) (by simp [hj])
     have h2:g.val {tmps:=vals++Array.replicate (fn.ntmps - vals.size) undef,defers:=[]} j=vals[j]'(by omega):=by
      unfold ar.val
      rw[if_pos (by omega)]
      simp [Array.getD_eq_getD_getElem?,Array.getElem?_append,hs,hj]
     rw[h1,h2]
     exact(b9 j _ _ (Array.getElem?_eq_getElem (by omega)) (List.getElem?_eq_getElem hj)).o5 _ fun b _ h=>⟨⟨h,fun⟨_,h⟩=>h⟩,fun i hi=>absurd hi (hY i)⟩
    ·have h1:(start n args).get j=.any:=dh args 0 j (by omega)
     rw[h1];exact .any _
   obj:=fun i o h=>by cases h
   inj:=fun i j b h=>absurd h (hY i)
   lo:=fun i b h=>absurd h (hY i)
   nx:=fun i h=>absurd h (hY i)
   wt:=fun k hk=>by cases hk
   below:=Below.refl _ _
   hB:=Nat.le_refl _
   N0:=fun b h _=>hN b h
   fr:=⟨fun b hb=>hb.elim,fun i b hb=>hb.elim⟩
   mkf:=fun d hd=>by cases hd}
 ·rintro e a' w' ⟨δ',κ',hq,r'⟩
  have fin:∀v,bD P δ' rs v→Le true v r→LeavesInM Fence.wide 0 P fn a'.tmps (fun e w'=>∃v,e=.returned v∧RA (uC N) w' v r∧Below w.heap.size w w') a'.defers .returning w':=by
   intro v h1 h2
   exact leaves (g:=g) rfl rfl mE h1 r' (fun w2 r2 u hu=>by
    exact⟨u,rfl,hu.le h2 (fun b _ h=>h.1.1) (fun _ i b hi hκ=>hN b (r2.lo i b (DS.bN hi) hκ).1),r2.below⟩)
  cases e with
  |normal=>obtain⟨v,h1,h2⟩:=hq;exact fin v h1 h2
  |ret=>obtain⟨v,h1,h2⟩:=hq;exact fin v h1 h2
  |_=>exact hq.elim
theorem TB.at {T:World→Prop} (h:TB T g) (r:Rel g δ κ a w) {w':World} (hb:Below w.heap.size w w'):T w':=h w' (r.below.trans (hb.mono r.hB))
def AV.seen:AV→PV
 |.pv p=>p
 |.own _ _ k els=> .slice k els
 |_=> .any
inductive HC (δ:DS):AV→AV→Prop
 |le {v r:AV} (h:Le true v r):HC δ v r
 |box {i off:Nat} {cells:List AV} {ps:List PV} (h:δ.ob i=some (.box cells)) (hc:(cells.drop off).map AV.seen=ps):HC δ (.ptr i off) (.rptr ps)
inductive wE (δ:DS):List AV→List AV→Prop
 |nil:wE δ [] []
 |cons {c d:AV} {cs ds:List AV} (h:HC δ c d) (hs:wE δ cs ds):wE δ (c::cs) (d::ds)
theorem wE.len {cs ds:List AV} (h:wE δ cs ds):cs.length=ds.length:=by induction h with|nil=>rfl|cons h hs ih=>simp [ih]
theorem wE.at {cs ds:List AV} (h:wE δ cs ds):∀(j:Nat) (c d:AV),cs[j]? =some c→ds[j]? =some d→HC δ c d:=by
 induction h with
 |nil=>intro j c d h1;simp at h1
 |cons h hs ih=>
  intro j c d h1 h2
  cases j with
  |zero=>simp at h1 h2;subst h1;subst h2;exact h
  |succ j=>exact ih j c d (by simpa using h1) (by simpa using h2)
theorem RA.seen {C:Cx} {u:Value} {av:AV} (h:RA C w u av):RP (fun _=>True) w u av.seen:=by
 cases h with
 |pv h=>exact h.mono (Nat.le_refl _) fun _ _ _=>⟨trivial,rfl⟩
 |own h=>exact h.pv (fun _ _ _=>trivial) (fun _ _ _ _=>trivial)
 |_=>exact .any _
theorem HC.ra {v r:AV} (h:HC δ v r) (rl:Rel g δ κ a w) {u:Value} (hu:RA (δ.cx g κ) w u v):RA (uC fun _=>True) w u r:=by
 cases h with
 |le h=>exact hu.le h (fun _ _ _=>trivial) (fun _ _ _ _ _=>trivial)
 | @box i off cells ps hb hc=>
  obtain⟨b,c,e,rfl,hκ,h3,h4,h5⟩:=rl.box hu hb
  have ie:∀j,w.cell? ⟨b,off+j,none⟩=c[off+j]?:=fun j=>cell_of h3 _
  have oq:∀(j:Nat) (p:PV),ps[j]? =some p→∃av,cells[off+j]? =some av∧p=av.seen:=by
   intro j p hp
   rw[← hc,List.getElem?_map,List.getElem?_drop] at hp
   obtain⟨av,h1,h2⟩:=Option.map_eq_some_iff.1 hp
   exact⟨av,h1,h2.symm⟩
  refine .rptr b off (fun j=>(c[off+j]?).getD undef) trivial (cW h3) (fun j p hp=>?_) (fun j p hp=>?_)
  ·obtain⟨av,h1,rfl⟩:=oq j p hp
   have aP:=(List.getElem?_eq_some_iff.1 h1).1
   have F0:c[off+j]? =some c[off+j]:=Array.getElem?_eq_getElem (by omega)
   rw[ie,F0]
   exact⟨rfl,(h5 _ _ _ F0 h1).2⟩
  ·obtain⟨av,h1,rfl⟩:=oq j p hp
   have aP:=(List.getElem?_eq_some_iff.1 h1).1
   have F0:c[off+j]? =some c[off+j]:=Array.getElem?_eq_getElem (by omega)
   simp only[F0,Option.getD_some]
   exact(h5 _ _ _ F0 h1).1.seen
theorem TB.none (g:ar):TB (fun _=>True) g:=fun _ _=>trivial
def Iv (P:Program) (v:Value) (w:World) (arg r:AV):Prop:=∃(f:FuncId) (vs us:Array Value),v=.func (.func f) vs us∧(∀vals w,(callFunc f vals).run P w=.ok (.enter f vals) w)∧
 ∀w',Below w.heap.size w w'→∀u,RA (uC fun _=>True) w' u arg→Calls P f (vs++ #[u]++us) w' fun e w''=>e=.returned r.out∧Below w'.heap.size w' w''
def Nh (P:Program) {α:Type} (v:Value) (A R:α→AV) (l:List α) (w:World):Prop:=∀x∈l,Iv P v w (A x) (R x)
theorem TB.RI {α:Type} {v:Value} {A R:α→AV} {l:List α} (h:TB (Nh P v A R l) g) {x:α} (hx:x∈l):TB (fun w=>Iv P v w (A x) (R x)) g:=h.sub fun w hw=>hw x hx
inductive pD (δ:DS) (z:Operand) (v:Value):List Operand→List AV→Prop
 |nil:pD δ z v [] []
 |here {xs:List Operand} {vs:List AV} (hs:pD δ z v xs vs):pD δ z v (z::xs) (.pv (.lit v)::vs)
 |cons {x:Operand} {u:AV} {xs:List Operand} {vs:List AV} (ho:aK x=true) (h:HC δ (δ.ev x) u) (hs:pD δ z v xs vs):pD δ z v (x::xs) (u::vs)
theorem pD.len {z:Operand} {v:Value} {xs:List Operand} {vs:List AV} (h:pD δ z v xs vs):xs.length=vs.length:=by induction h with|nil=>rfl|here hs ih=>simp [ih]|cons ho h hs ih=>simp [ih]
end Go.Ab
/- Objects that nothing names any more are given up. -/
namespace Go.Ab
open Go Go.RowKit
variable {P:Program} {g:ar} {δ:DS} {κ:Kp} {a:Act} {w:World}
def rO (lr lb:Nat→Bool):Ob→Bool
 |.row|.it _ _|.loop _ _ _ _ _ _|.lit _ _|.pool _ _=>true
 |.box cs=>AV.qW lr lb cs
 |.mp l=>l.all fun p=>p.2.ids lr lb
 |.mpl l _ v=>(l.all fun p=>p.2.ids lr lb) && v.ids lr lb
theorem vW.refl {δ δ':DS}:∀{cs:List AV},AV.qW δ'.kK δ'.kE cs=true→vW δ δ' cs cs
 |[],_=>trivial
 |c::cs,h=>by
  simp only[AV.qW,Bool.and_eq_true] at h
  exact⟨.eq rfl h.1,vW.refl h.2⟩
variable {k:Wt} {late:List Nat} {l:List Oper} {dn:List Nat} {QD:Exit→DS→Prop}
end Go.Ab
/- Contracts of functions that change objects of their caller's. -/
namespace Go.Ab
open Go Go.RowKit
variable {P:Program} {g:ar} {δ:DS} {κ:Kp} {a:Act} {w:World}
variable {ops:Array Oper} {rest:List Oper} {Q:Exit→DS→Prop} {dst:Option Nat} {ty:TypeId} {pos:String} {af:Array Edge}
abbrev XS (objs:List (Nat×Option Ob)) (n:Nat):DS:=⟨0,[],objs,n⟩
abbrev Ga:Act:={tmps:= #[],defers:=[]}
def bS:List (Nat×Option Ob)→List AV
 |[]=>[]
 |(i,some (.box _))::r=> .ptr i 0::bS r
 |(i,some (.lit _ _))::r=> .ptr i 0::bS r
 |(i,some (.mp _))::r=> .mapr i::bS r
 |_::r=>bS r
structure lX {α:Type} (T:World→Prop) (P:Program) (E:α→Cx→World→Ending→Prop) (f:FuncId) (n0:Nat) (objs0:List (Nat×Option Ob)) (args:List AV) (objs1:α→List (Nat×Option Ob)):Prop where
 enters:∀vals w,(callFunc f vals).run P w=.ok (.enter f vals) w
 calls:∀(g:ar) (κ:Kp) (w:World) (vals:Array Value),g.ro=none→g.wt=none→TB T g→Rel g (XS objs0 n0) κ Ga w→vals.size=args.length→
  (∀(j:Nat) (v:Value) (av:AV),vals[j]? =some v→args[j]? =some av→RA ((XS objs0 n0).cx g κ) w v av)→
  Calls P f vals w fun e w'=>∃x κ',E x ((XS (objs1 x) n0).cx g κ') w' e∧Rel g (XS (objs1 x) n0) κ' Ga w'∧∀i b,(AV.ptr i 0∈bS objs0∨AV.mapr i∈bS objs0)→κ i=some b→κ' i=some b
def Hn (r:AV) (C:Cx) (w:World) (e:Ending):Prop:=∃v,e=.returned v∧RA C w v r
def OF (t:TypeId) (ch:List PanicEntry):Prop:=∃u:Value,ch=[{v:=.iface t (.agg #[u]),recovered:=false}]∧u.oneCell'=true
def MR (t:TypeId) (_:Cx) (_:World) (e:Ending):Prop:=∃ch,e=.panicked ch∧OF t ch
abbrev E6 (T:World→Prop) (P:Program) (f:FuncId) (n0:Nat) (objs0:List (Nat×Option Ob)) (args:List AV) (objs1:List (Nat×Option Ob)) (r:AV):Prop:=lX (α:=Unit) T P (fun _=>Hn r) f n0 objs0 args (fun _=>objs1)
abbrev jf (P:Program) (f:FuncId) (n0:Nat) (objs0:List (Nat×Option Ob)) (args:List AV) (objs1:List (Nat×Option Ob)) (r:AV):Prop:=lX (α:=Unit) (fun _=>True) P (fun _=>Hn r) f n0 objs0 args (fun _=>objs1)
abbrev Oa (T:World→Prop) (P:Program) (t:TypeId) (f:FuncId) (n0:Nat) (objs0:List (Nat×Option Ob)) (args:List AV) (objs1:List (Nat×Option Ob)):Prop:=lX (α:=Unit) T P (fun _=>MR t) f n0 objs0 args (fun _=>objs1)
theorem lX.sub {α:Type} {T T':World→Prop} {P:Program} {E:α→Cx→World→Ending→Prop} {f:FuncId} {n0:Nat} {objs0:List (Nat×Option Ob)} {args:List AV} {objs1:α→List (Nat×Option Ob)} (h:lX T P E f n0 objs0 args objs1) (hT:∀w,T' w→T w):lX T' P E f n0 objs0 args objs1:=⟨h.enters,fun g κ w vals h1 h2 h3=>h.calls g κ w vals h1 h2 (h3.sub hT)⟩
def mm (objs:List (Nat×Option Ob)):List (Nat×Option Ob)→Bool
 |[]=>true
 |(i,some (.box _))::r=>(XS objs 0).kE i && mm objs r
 |(i,some (.lit _ _))::r=>(XS objs 0).kE i && mm objs r
 |(i,some (.mp _))::r=>(XS objs 0).kE i && mm objs r
 |_::r=>mm objs r
theorem vw {δ:DS} {i:Nat} (h:δ.kE i=true) {C:Cx} {w:World} (ho:∀i o,δ.ob i=some o→iA C w i o):∃b,C.κ i=some b:=by
 obtain⟨o,h1,h2⟩:=fc h
 have h3:=ho i o h1
 cases o with
 |row=>simp [Ob.fy] at h2
 |box cs=>obtain⟨b,_,_,h4,_⟩:=h3;exact⟨b,h4⟩
 |lit T vals=>obtain⟨b,h4,_⟩:=h3;exact⟨b,h4⟩
 |pool e rows=>unfold DS.kE at h;rw[h1] at h;cases h
 |mp l=>obtain⟨b,_,_,h4,_⟩:=h3;exact⟨b,h4⟩
 |mpl l k v=>obtain⟨b,_,_,h4,_⟩:=h3;exact⟨b,h4⟩
 |it l seen=>obtain⟨b,h4,_⟩:=h3;exact⟨b,h4⟩
 |loop l tm ps asg body st=>obtain⟨b,_,h4,_⟩:=h3;exact⟨b,h4⟩
theorem eG {objs:List (Nat×Option Ob)} {n:Nat} (ho:∀i o,(XS objs n).ob i=some o→iA ((XS objs n).cx g κ) w i o):∀{l:List (Nat×Option Ob)},mm objs l=true→∃vs:List Value,vs.length=(bS l).length∧∀(j:Nat) (u:Value) (c:AV),vs[j]? =some u→(bS l)[j]? =some c→RA ((XS objs n).cx g κ) w u c
 |[],_=>⟨[],rfl,fun j u c h=>by simp at h⟩
 |(i,none)::r,h=>eG ho (l:=r) h
 |(i,some .row)::r,h=>eG ho (l:=r) h
 |(i,some (.mpl _ _ _))::r,h=>eG ho (l:=r) h
 |(i,some (.it _ _))::r,h=>eG ho (l:=r) h
 |(i,some (.pool _ _))::r,h=>eG ho (l:=r) h
 |(i,some (.loop _ _ _ _ _ _))::r,h=>eG ho (l:=r) h
 |(i,some (.box cs))::r,h=>by
  simp only[mm,Bool.and_eq_true] at h
  obtain⟨vs,h1,h2⟩:=eG ho h.2
  obtain⟨b,hb⟩:=vw (δ:=XS objs n) h.1 ho
  refine⟨.pointer (some ⟨b,0,none⟩)::vs,by simp [bS,h1],fun j u c h3 h4=>?_⟩
  cases j with
  |zero=>simp [bS] at h3 h4;subst h3;subst h4;exact .ptr (fc (δ:=XS objs n) h.1) hb
  |succ j=>exact h2 j u c (by simpa using h3) (by simpa [bS] using h4)
 |(i,some (.lit _ _))::r,h=>by
  simp only[mm,Bool.and_eq_true] at h
  obtain⟨vs,h1,h2⟩:=eG ho h.2
  obtain⟨b,hb⟩:=vw (δ:=XS objs n) h.1 ho
  refine⟨.pointer (some ⟨b,0,none⟩)::vs,by simp [bS,h1],fun j u c h3 h4=>?_⟩
  cases j with
  |zero=>simp [bS] at h3 h4;subst h3;subst h4;exact .ptr (fc (δ:=XS objs n) h.1) hb
  |succ j=>exact h2 j u c (by simpa using h3) (by simpa [bS] using h4)
 |(i,some (.mp m))::r,h=>by
  simp only[mm,Bool.and_eq_true] at h
  obtain⟨vs,h1,h2⟩:=eG ho h.2
  obtain⟨b,hb⟩:=vw (δ:=XS objs n) h.1 ho
  refine⟨.map (some b)::vs,by simp [bS,h1],fun j u c h3 h4=>?_⟩
  cases j with
  |zero=>simp [bS] at h3 h4;subst h3;subst h4;exact .mapr (fc (δ:=XS objs n) h.1) hb
  |succ j=>exact h2 j u c (by simpa using h3) (by simpa [bS] using h4)
abbrev XF (δ:DS) (objs0 objs1:List (Nat×Option Ob)):DS:=⟨δ.n,[(1000,.agg (bS objs0))],objs1,δ.nx⟩
def fm (P:Program) (rs:List ResultVar) (objs0 objs1:List (Nat×Option Ob)) (r:AV):Exit→DS→Prop
 |.normal,δ|.ret,δ=>∃v,bD P δ rs v∧WV δ (XF δ objs0 objs1) v r∧WV δ (XF δ objs0 objs1) (δ.get 1000) (.agg (bS objs0))∧iU δ (XF δ objs0 objs1) objs1∧mF δ.nx objs1=true
 |_,_=>False
def FW (t:TypeId) (objs0 objs1:List (Nat×Option Ob)):Exit→DS→Prop
 |.panic ch,δ=>OF t ch∧WV δ (XF δ objs0 objs1) (δ.get 1000) (.agg (bS objs0))∧iU δ (XF δ objs0 objs1) objs1∧mF δ.nx objs1=true
 |_,_=>False
theorem RA.xv {C:Cx} {w:World} {u:Value} {i off:Nat} (h:RA C w u (.ptr i off)):∃b,u=.pointer (some ⟨b,off,none⟩)∧C.κ i=some b:=by
 cases h with
 |ptr hl hκ=>exact⟨_,rfl,hκ⟩
theorem RA.tW {C:Cx} {w:World} {u:Value} {i:Nat} (h:RA C w u (.mapr i)):∃b,u=.map (some b)∧C.κ i=some b:=by
 cases h with
 |mapr hl hκ=>exact⟨_,rfl,hκ⟩
theorem BJ {C C':Cx} {w w':World} {vs:Array Value} {ps:List AV} (h:RA C w (.agg vs) (.agg ps)) (h':RA C' w' (.agg vs) (.agg ps)) {i b:Nat} (hp:AV.ptr i 0∈ps∨AV.mapr i∈ps) (hb:C.κ i=some b):C'.κ i=some b:=by
 cases h with
 |agg hs h=>
  cases h' with
  |agg hs' h'=>
   rcases hp with hp|hp
   ·obtain⟨j,hj⟩:=List.getElem?_of_mem hp
    have aP:j<vs.size:=by rw[hs];exact(List.getElem?_eq_some_iff.1 hj).1
    have h1:=h j _ _ (Array.getElem?_eq_getElem aP) hj
    have h2:=h' j _ _ (Array.getElem?_eq_getElem aP) hj
    obtain⟨b1,e1,k1⟩:=h1.xv
    obtain⟨b2,e2,k2⟩:=h2.xv
    rw[e1] at e2
    cases e2
    rw[k1] at hb
    cases hb
    exact k2
   ·obtain⟨j,hj⟩:=List.getElem?_of_mem hp
    have aP:j<vs.size:=by rw[hs];exact(List.getElem?_eq_some_iff.1 hj).1
    have h1:=h j _ _ (Array.getElem?_eq_getElem aP) hj
    have h2:=h' j _ _ (Array.getElem?_eq_getElem aP) hj
    obtain⟨b1,e1,k1⟩:=h1.tW
    obtain⟨b2,e2,k2⟩:=h2.tW
    rw[e1] at e2
    cases e2
    rw[k1] at hb
    cases hb
    exact k2
theorem lX.enter {α:Type} {T:World→Prop} {E:α→Cx→World→Ending→Prop} {Q:Exit→DS→Prop} {f:FuncId} {fn:Func} {c:Code} {n n0:Nat} {objs0:List (Nat×Option Ob)} {objs1:α→List (Nat×Option Ob)} {args:List AV} (hf:P.funcs[f]? =some fn) (hb:fn.body=some c) (hn:fn.ntmps=n) (uE:Nat.ble args.length n=true)
  (ka:Nat.ble n HS=true) (he:(fn.name== "runtime.NumGoroutine")=false) (nm:mm objs0 objs0=true) (hn1:∀x,mF n0 (objs1 x)=true)
  (h:∀g:ar,g.ro=none→g.wt=none→TB T g→AW P g c Q ⟨n,enum 0 args++ [(1000,.agg (bS objs0))],objs0,n0⟩)
  (hQ:∀(g:ar) (e:Exit) (δ':DS) (κ':Kp) (a':Act) (w':World) (R:Ending→World→Prop),g.wt=none→g.base=[]→Q e δ'→Rel g δ' κ' a' w'→
   (∀x,WV δ' (XF δ' objs0 (objs1 x)) (δ'.get 1000) (.agg (bS objs0))→iU δ' (XF δ' objs0 (objs1 x)) (objs1 x)→mF δ'.nx (objs1 x)=true→
    ∀en w2,Rel g δ' κ' {a' with defers:=[]} w2→E x ((XF δ' objs0 (objs1 x)).cx g (nU δ' κ')) w2 en→R en w2)→bodyPostM Fence.wide 0 P fn R e a' w'):lX T P E f n0 objs0 args objs1:=by
 refine⟨fun vals w=>by simp [callFunc,hf,hb];simpa using he,fun g κ w vals tk dg hTB i_ hs b9=>?_⟩
 have hle:args.length≤n:=by simpa using uE
 have hnH:n≤HS:=by simpa using ka
 have hHS:HS=1000:=rfl
 obtain⟨ps,GA,PU⟩:=eG i_.obj nm
 have qy:g.base=[]:=by
  obtain⟨rs,e,_,_⟩:=i_.dfr
  exact(List.append_eq_nil_iff.1 e.symm).2
 have N6:RA ((XS objs0 n0).cx g κ) w (.agg ps.toArray) (.agg (bS objs0)):=.agg (by simpa using GA) fun j u c h1 h2=>PU j u c (by simpa using h1) h2
 let g':ar:={g with held:=fun _=> .agg ps.toArray}
 let δ0:DS:=⟨n,enum 0 args++ [(1000,.agg (bS objs0))],objs0,n0⟩
 have y_:∀(l:List AV) (i j:Nat),look (enum i l++ [(1000,AV.agg (bS objs0))]) j=if i≤j∧j<i+l.length then look (enum i l) j else look [(1000,AV.agg (bS objs0))] j:=by
  intro l
  induction l with
  |nil=>intro i j;rw[if_neg (by simp)];rfl
  |cons x l ih=>
   intro i j
   show look ((i,x)::(enum (i+1) l++_)) j=_
   rw[aX]
   by_cases e:i=j
   ·subst e
    rw[if_pos rfl,if_pos (by simp)]
    show x=look ((i,x)::enum (i+1) l) i
    rw[aX,if_pos rfl]
   ·rw[if_neg e,ih]
    simp only[List.length_cons]
    by_cases hj:i+1≤j∧j<i+1+l.length
    ·rw[if_pos hj,if_pos (by omega)]
     show _=look ((i,x)::enum (i+1) l) j
     rw[aX,if_neg e]
    ·rw[if_neg hj,if_neg (by omega)]
 have hR:Rel g' δ0 κ {tmps:=vals++Array.replicate (fn.ntmps - vals.size) undef,defers:=[]} w:=
  {n:=by show _=n;simp [hn];omega
   dfr:=by
    obtain⟨rs,e,h1,h2⟩:=i_.dfr
    have e0:=(List.append_eq_nil_iff.1 e.symm).1
    have e0:rs=[]:=by simpa using e0
    subst e0
    exact⟨[],by show []=_++g.base;rw[qy];rfl,h1,h2⟩
   env:=fun j=>by
    show RA ((XS objs0 n0).cx g κ) w _ (look (enum 0 args++ [(1000,AV.agg (bS objs0))]) j)
    rw[y_]
    by_cases hj:j<args.length
    ·rw[if_pos (by omega)]
     have h1:look (enum 0 args) j=args[j]:=gM args 0 j _ (Nat.zero_le _) (by simp [hj])
     have h2:g'.val {tmps:=vals++Array.replicate (fn.ntmps - vals.size) undef,defers:=[]} j=vals[j]'(by omega):=by
      unfold ar.val
      rw[if_pos (by omega)]
      simp [Array.getD_eq_getD_getElem?,Array.getElem?_append,hs,hj]
     rw[h1,h2]
     exact b9 j _ _ (Array.getElem?_eq_getElem (by omega)) (List.getElem?_eq_getElem hj)
    ·rw[if_neg (by omega),aX]
     by_cases e:1000=j
     ·rw[if_pos e]
      have h2:g'.val {tmps:=vals++Array.replicate (fn.ntmps - vals.size) undef,defers:=[]} j=.agg ps.toArray:=by
       unfold ar.val
       rw[if_neg (by omega)]
      rw[h2];exact N6
     ·rw[if_neg e];exact .any _
   obj:=i_.obj,inj:=i_.inj,lo:=i_.lo,nx:=i_.nx,wt:=i_.wt,below:=i_.below,hB:=i_.hB,N0:=i_.N0,fr:=i_.fr
   mkf:=fun d hd=>by cases hd}
 have hw:=h g' tk dg hTB κ _ w hR
 rw[show g'.ro=none from tk] at hw
 refine callsIn_wide.1 (callsIn_of_wp_marks (n:=0) hf hb trivial (wpIn_mono hw ?_))
 rintro e a' w' ⟨δ',κ',hq,r'⟩
 refine hQ g' e δ' κ' a' w' _ dg qy hq r' fun x hp ho hx en w2 r2 hE=>?_
 have hg:∀j,(XF δ' objs0 (objs1 x)).get j=if 1000=j then .agg (bS objs0) else .any:=fun j=>aX _ _ _ _
 have r3:Rel g' (XF δ' objs0 (objs1 x)) (nU δ' κ') {a' with defers:=[]} w2:=Fm (g:=g') (δ:=δ') (δ':=XF δ' objs0 (objs1 x)) rfl (fun j=>by
   rw[hg]
   by_cases e:1000=j
   ·subst e;rw[if_pos rfl];exact hp
   ·rw[if_neg e];exact .any _) (fun i o h=>ho.at i o h) (fun i o h=>jZ hx i o h) r2
 refine⟨x,nU δ' κ',hE,?_,fun i b Qi hb=>?_⟩
 ·exact
   {n:=rfl
    dfr:=by
     obtain⟨rs,e,h1,h2⟩:=r3.dfr
     have e0:=(List.append_eq_nil_iff.1 e.symm).1
     have e0:rs=[]:=by simpa using e0
     subst e0
     exact⟨[],by show []=_++g.base;rw[qy];rfl,h1,h2⟩
    env:=fun j=> .any _
    obj:=r3.obj,inj:=r3.inj,lo:=r3.lo,nx:=fun i ⟨o,h⟩=>jZ (hn1 x) i o h,wt:=fun k hk=>by rw[dg] at hk;cases hk
    below:=r3.below,hB:=r3.hB,N0:=r3.N0,fr:=r3.fr,mkf:=fun d hd=>by cases hd}
 ·have h3:=r3.env 1000
  rw[hg,if_pos rfl] at h3
  have h4:g'.val {a' with defers:=[]} 1000=.agg ps.toArray:=by
   unfold ar.val
   rw[if_neg (by omega)]
  rw[h4] at h3
  exact BJ (C:=(XS objs0 n0).cx g κ) (w:=w) N6 h3 Qi hb
theorem E6.enter {T:World→Prop} {f:FuncId} {fn:Func} {c:Code} {rs:List ResultVar} {n n0:Nat} {objs0 objs1:List (Nat×Option Ob)} {args:List AV} {r:AV} (hf:P.funcs[f]? =some fn) (hb:fn.body=some c) (mE:fn.results=rs.toArray) (hn:fn.ntmps=n) (uE:Nat.ble args.length n=true)
  (ka:Nat.ble n HS=true) (he:(fn.name== "runtime.NumGoroutine")=false) (nm:mm objs0 objs0=true) (hn1:mF n0 objs1=true)
  (h:∀g:ar,g.ro=none→g.wt=none→TB T g→AW P g c (fm P rs objs0 objs1 r) ⟨n,enum 0 args++ [(1000,.agg (bS objs0))],objs0,n0⟩):E6 T P f n0 objs0 args objs1 r:=by
 refine lX.enter (Q:=fm P rs objs0 objs1 r) hf hb hn uE ka he nm (fun _=>hn1) h fun g e δ' κ' a' w' R dg qy hq r' hR=>?_
 have fin:∀v,bD P δ' rs v→WV δ' (XF δ' objs0 objs1) v r→WV δ' (XF δ' objs0 objs1) (δ'.get 1000) (.agg (bS objs0))→iU δ' (XF δ' objs0 objs1) objs1→mF δ'.nx objs1=true→
   LeavesInM Fence.wide 0 P fn a'.tmps R a'.defers .returning w':=fun v h1 hv hp ho hx=>
  leaves (g:=g) dg qy mE h1 r' fun w2 r2 u hu=>hR () hp ho hx _ _ r2 ⟨u,rfl,hu.wv (δ:=δ') (δ':=XF δ' objs0 objs1) r2.fv r2.obj hv⟩
 cases e with
 |normal=>obtain⟨v,h1,h2,h3,h4,h5⟩:=hq;exact fin v h1 h2 h3 h4 h5
 |ret=>obtain⟨v,h1,h2,h3,h4,h5⟩:=hq;exact fin v h1 h2 h3 h4 h5
 |_=>exact hq.elim
theorem jf.enter {f:FuncId} {fn:Func} {c:Code} {rs:List ResultVar} {n n0:Nat} {objs0 objs1:List (Nat×Option Ob)} {args:List AV} {r:AV} (hf:P.funcs[f]? =some fn) (hb:fn.body=some c) (mE:fn.results=rs.toArray) (hn:fn.ntmps=n) (uE:Nat.ble args.length n=true)
  (ka:Nat.ble n HS=true) (he:(fn.name== "runtime.NumGoroutine")=false) (nm:mm objs0 objs0=true) (hn1:mF n0 objs1=true)
  (h:∀g:ar,g.ro=none→g.wt=none→AW P g c (fm P rs objs0 objs1 r) ⟨n,enum 0 args++ [(1000,.agg (bS objs0))],objs0,n0⟩):jf P f n0 objs0 args objs1 r:=E6.enter hf hb mE hn uE ka he nm hn1 fun g h1 h2 _=>h g h1 h2
end Go.Ab
namespace Go.Ab
open Go Go.RowKit
variable {P:Program} {g:ar} {δ:DS} {κ:Kp} {a:Act} {w:World}
variable {ops:Array Oper} {rest:List Oper} {Q:Exit→DS→Prop} {dst:Option Nat} {ty:TypeId} {pos:String} {af:Array Edge}
theorem RA.to {C C':Cx} (hB:C'.B=C.B) (hN:∀b,C.N b→C'.N b) {lr lb:Nat→Bool} (ir:∀i,lr i=true→C'.Lr i∧C'.κ i=C.κ i) (oF:∀i,lb i=true→C'.Lb i∧C'.κ i=C.κ i) {v:Value} {av:AV} (h:RA C w v av) (hi:av.ids lr lb=true):RA C' w v av:=by
 have hp:∀{v:Value} {p:PV},RP C.N w v p→RP C'.N w v p:=fun h=>h.mono (Nat.le_refl _) fun b _ h2=>⟨hN b h2,rfl⟩
 have ho:∀{v:Value} {i e k els},dJ C w v i e k els→lr i=true→dJ C' w v i e k els:=by
  intro v i e k els h hl
  obtain⟨h1,h2,h3,h4,xs,h5,h6,h7⟩:=h
  refine⟨(ir i hl).1,h2,h3,fun b hb=>(ir i hl).2.trans (h4 b hb),xs,?_,h6,fun i' j p hp'=>let ⟨u,h8,h9⟩:=h7 i' j p hp';⟨u,h8,hp h9⟩⟩
  rw[hB];exact h5
 induction h with
 |any v=>exact .any v
 |pv h=>exact .pv (hp h)
 |own h=>exact .own (ho h hi)
 |ptr hl hκ=>exact .ptr (oF _ hi).1 ((oF _ hi).2.trans hκ)
 |rptr b off vs hN' hb hc hr=>exact .rptr b off vs (hN _ hN') hb hc (fun j p h=>hp (hr j p h))
 |optr aP h=>exact .optr aP (ho h hi)
 |agg hs h ih=>exact .agg hs fun j u c h1 h2=>ih j u c h1 h2 (AV.fR _ hi j c h2)
 |tup hs h ih=>exact .tup hs fun j u c h1 h2=>ih j u c h1 h2 (AV.fR _ hi j c h2)
 |clo hs h ht h' ih ih'=>
  simp only[AV.ids,Bool.and_eq_true] at hi
  exact .clo hs (fun j u c h1 h2=>ih j u c h1 h2 (AV.fR _ hi.1 j c h2)) ht (fun j u c h1 h2=>ih' j u c h1 h2 (AV.fR _ hi.2 j c h2))
 |mapr hl hκ=>exact .mapr (oF _ hi).1 ((oF _ hi).2.trans hκ)
 |yld hl hκ=>exact .yld (oF _ hi).1 ((oF _ hi).2.trans hκ)
theorem iA.to {C C':Cx} (hB:C'.B=C.B) (hN:∀b,C.N b→C'.N b) {lr lb:Nat→Bool} (ir:∀i,lr i=true→C'.Lr i∧C'.κ i=C.κ i) (oF:∀i,lb i=true→C'.Lb i∧C'.κ i=C.κ i) {i:Nat} {o:Ob} (hκ:C'.κ i=C.κ i) (hF:∀b,C.κ.F i b→C'.κ.F i b) (h:iA C w i o) (hi:rO lr lb o=true):iA C' w i o:=by
 cases o with
 |row=>intro b hb;rw[hκ] at hb;exact h b hb
 |lit T vals=>obtain⟨b,h1,h2⟩:=h;exact⟨b,hκ.trans h1,h2⟩
 |pool e rows=>exact⟨hκ.trans h.1,fun k=>(h.2.1 k).e7 hB fun b _ h2 _=>⟨hF b h2,rfl⟩,h.2.2⟩
 |box cs=>
  obtain⟨b,c,e,h1,h2,h3,h4⟩:=h
  exact⟨b,c,e,hκ.trans h1,h2,h3,fun j u av h5 h6=>⟨(h4 j u av h5 h6).1.to hB hN ir oF (AV.fR _ hi j av h6),(h4 j u av h5 h6).2⟩⟩
 |mp l=>
  obtain⟨b,es,clock,h1,h2,h3,h4⟩:=h
  exact⟨b,es,clock,hκ.trans h1,h2,⟨h3.1,fun j e p h5 h6=>⟨(h3.2 j e p h5 h6).1,(h3.2 j e p h5 h6).2.to hB hN ir oF (List.all_eq_true.1 hi p (List.mem_of_getElem? h6))⟩⟩,h4⟩
 |mpl l k v=>
  obtain⟨b,es,clock,h1,h2,h3,h4⟩:=h
  simp only[rO,Bool.and_eq_true] at hi
  exact⟨b,es,clock,hκ.trans h1,h2,h3.last (fun u p hp h=>h.to hB hN ir oF (List.all_eq_true.1 hi.1 p hp)) (fun u h=>h.to hB hN ir oF hi.2),h4⟩
 |it l seen=>
  obtain⟨b,h1,h2⟩:=h
  exact⟨b,hκ.trans h1,h2.mono (Nat.le_refl _) (fun b _ h=>⟨hN b h,rfl⟩) rfl⟩
 |loop l tm ps asg body st=>
  obtain⟨b,lr',h1,h2⟩:=h
  exact⟨b,lr',hκ.trans h1,h2⟩
def eu:List (Nat×Option Ob)→List (Nat×Option Ob)→Bool
 |[],[]=>true
 |(i,some .row)::r,(j,some .row)::r'=>Nat.beq i j && eu r r'
 |(i,some (.box _))::r,(j,some (.box _))::r'=>Nat.beq i j && eu r r'
 |(i,some (.lit _ _))::r,(j,some (.box _))::r'=>Nat.beq i j && eu r r'
 |(i,some (.mp _))::r,(j,some (.mp _))::r'=>Nat.beq i j && eu r r'
 |(i,some (.pool _ _))::r,(j,some (.pool _ _))::r'=>Nat.beq i j && eu r r'
 |_,_=>false
inductive Kind (l0 l1:List (Nat×Option Ob)) (i:Nat):Prop
 |none (h0:aG l0 i=.none) (h1:aG l1 i=.none)
 |row (h0:aG l0 i=some .row) (h1:aG l1 i=some .row)
 |box (c d:List AV) (h0:aG l0 i=some (.box c)) (h1:aG l1 i=some (.box d)) (hp:AV.ptr i 0∈bS l0)
 |lit (T:TypeId) (vals:Array Value) (d:List AV) (h0:aG l0 i=some (.lit T vals)) (h1:aG l1 i=some (.box d)) (hp:AV.ptr i 0∈bS l0)
 |mp (c d:List (Value×AV)) (h0:aG l0 i=some (.mp c)) (h1:aG l1 i=some (.mp d)) (hp:AV.mapr i∈bS l0)
 |pool (e e':TypeId) (c d:Nat→Value×List Value) (h0:aG l0 i=some (.pool e c)) (h1:aG l1 i=some (.pool e' d))
theorem Kind.skip {j:Nat} {o o':Option Ob} {r r':List (Nat×Option Ob)} {i:Nat} (h:Kind r r' i) (br:¬j=i):Kind ((j,o)::r) ((j,o')::r') i:=by
 have e0:∀(o:Option Ob) (r:List (Nat×Option Ob)),aG ((j,o)::r) i=aG r i:=fun o r=>by rw[aV,if_neg br]
 have hp:∀{c:AV},c∈bS r→c∈bS ((j,o)::r):=fun {c} h=>by
  rcases o with _|o
  ·exact h
  ·cases o<;>simp only[bS]<;>first|exact h|exact List.mem_cons_of_mem _ h
 cases h with
 |none h0 h1=>exact .none ((e0 _ _).trans h0) ((e0 _ _).trans h1)
 |row h0 h1=>exact .row ((e0 _ _).trans h0) ((e0 _ _).trans h1)
 |box c d h0 h1 h2=>exact .box c d ((e0 _ _).trans h0) ((e0 _ _).trans h1) (hp h2)
 |lit T vals d h0 h1 h2=>exact .lit T vals d ((e0 _ _).trans h0) ((e0 _ _).trans h1) (hp h2)
 |mp c d h0 h1 h2=>exact .mp c d ((e0 _ _).trans h0) ((e0 _ _).trans h1) (hp h2)
 |pool e e' c d h0 h1=>exact .pool e e' c d ((e0 _ _).trans h0) ((e0 _ _).trans h1)
theorem jb:∀{l0 l1:List (Nat×Option Ob)},eu l0 l1=true→∀i,Kind l0 l1 i
 |[],[],_,i=> .none rfl rfl
 |(j,some .row)::r,(j',some .row)::r',h,i=>by
  simp only[eu,Bool.and_eq_true] at h
  obtain rfl:=Nat.eq_of_beq_eq_true h.1
  by_cases e:j=i
  ·subst e;exact .row (by rw[aV,if_pos rfl]) (by rw[aV,if_pos rfl])
  ·exact(jb h.2 i).skip e
 |(j,some (.box c))::r,(j',some (.box d))::r',h,i=>by
  simp only[eu,Bool.and_eq_true] at h
  obtain rfl:=Nat.eq_of_beq_eq_true h.1
  by_cases e:j=i
  ·subst e;exact .box c d (by rw[aV,if_pos rfl]) (by rw[aV,if_pos rfl]) (by simp [bS])
  ·exact(jb h.2 i).skip e
 |(j,some (.lit T c))::r,(j',some (.box d))::r',h,i=>by
  simp only[eu,Bool.and_eq_true] at h
  obtain rfl:=Nat.eq_of_beq_eq_true h.1
  by_cases e:j=i
  ·subst e;exact .lit T c d (by rw[aV,if_pos rfl]) (by rw[aV,if_pos rfl]) (by simp [bS])
  ·exact(jb h.2 i).skip e
 |(j,some (.mp c))::r,(j',some (.mp d))::r',h,i=>by
  simp only[eu,Bool.and_eq_true] at h
  obtain rfl:=Nat.eq_of_beq_eq_true h.1
  by_cases e:j=i
  ·subst e;exact .mp c d (by rw[aV,if_pos rfl]) (by rw[aV,if_pos rfl]) (by simp [bS])
  ·exact(jb h.2 i).skip e
 |(j,some (.pool e c))::r,(j',some (.pool e' d))::r',h,i=>by
  simp only[eu,Bool.and_eq_true] at h
  obtain rfl:=Nat.eq_of_beq_eq_true h.1
  by_cases e0:j=i
  ·subst e0;exact .pool e e' c d (by rw[aV,if_pos rfl]) (by rw[aV,if_pos rfl])
  ·exact(jb h.2 i).skip e0
def dc:List (Nat×Option Ob)→List Nat
 |[]=>[]
 |(i,some .row)::r=>i::dc r
 |_::r=>dc r
theorem rB:∀{l:List (Nat×Option Ob)} {i:Nat},aG l i=some .row→iT i (dc l)=true
 |[],i,h=>by simp [aG] at h
 |(j,o)::r,i,h=>by
  rw[aV] at h
  have hm:∀(b:Bool),(bif b then true else iT i (dc r))=true∨iT i (dc r)=false:=fun b=>by cases b<;>cases iT i (dc r)<;>simp
  by_cases e:j=i
  ·rw[if_pos e] at h
   subst h
   subst e
   simp only[dc,tM,beq_self_eq_true,cond_true]
  ·rw[if_neg e] at h
   have:=rB h
   rcases o with _|o
   ·exact this
   ·cases o<;>simp only[dc,tM]<;>first|exact this|(rw[this];cases (i==j)<;>rfl)
def j7 (rs:List Nat):AV→AV
 |.own j e k els=>bif iT j rs then .any else .own j e k els
 |.optr j e k els n=>bif iT j rs then .any else .optr j e k els n
 |v=>v
def AV.cF (rs:List Nat):AV→AV:=AV.mp (j7 rs)
def Cx.n6 (C:Cx) (rs:List Nat):Cx:={C with Lr:=fun j=>C.Lr j∧iT j rs=false,κ:=⟨C.κ.f,fun _ _=>False⟩}
theorem RA.cF {C C':Cx} {rs:List Nat} {w w':World} (G:ez (C.n6 rs) w C' w') {v:Value} {av:AV} (h:RA C w v av):RA C' w' v (av.cF rs):=by
 have ue:∀{v j e k els},dJ C w v j e k els→iT j rs=false→dJ (C.n6 rs) w v j e k els:=fun h hj=>⟨⟨h.live,hj⟩,h.lim,h.hk,h.blk,h.row⟩
 unfold AV.cF
 induction h with
 |any v=>exact .any v
 |pv h=>exact .pv (G.rp h)
 | @own v j e k els h=>
  simp only[AV.mp,j7]
  cases hj:iT j rs with
  |true=>exact .any _
  |false=>exact .own (G.yL (ue h hj))
 |ptr hl hκ=>exact .ptr (G.Lb _ hl).1 ((G.Lb _ hl).2.trans hκ)
 |rptr b off vs hN hb hc hr=>exact G.ra (C:=C.n6 rs) (.rptr b off vs hN hb hc hr)
 | @optr j e k els n b cap hn h=>
  simp only[AV.mp,j7]
  cases hj:iT j rs with
  |true=>exact .any _
  |false=>exact .optr hn (G.yL (ue h hj))
 | @agg vs cs hs h ih=>
  simp only[AV.mp,AV.dC]
  refine .agg (by simpa using hs) fun j u c h1 h2=>?_
  simp only[List.getElem?_map,Option.map_eq_some_iff] at h2
  obtain⟨c',h2,rfl⟩:=h2
  exact ih j u c' h1 h2
 | @tup vs cs hs h ih=>
  simp only[AV.mp,AV.dC]
  refine .tup (by simpa using hs) fun j u c h1 h2=>?_
  simp only[List.getElem?_map,Option.map_eq_some_iff] at h2
  obtain⟨c',h2,rfl⟩:=h2
  exact ih j u c' h1 h2
 | @clo fn vs us cs ds hs h ht h' ih ih'=>
  simp only[AV.mp,AV.dC]
  refine .clo (by simpa using hs) (fun j u c h1 h2=>?_) (by simpa using ht) (fun j u c h1 h2=>?_)
  ·simp only[List.getElem?_map,Option.map_eq_some_iff] at h2
   obtain⟨c',h2,rfl⟩:=h2
   exact ih j u c' h1 h2
  ·simp only[List.getElem?_map,Option.map_eq_some_iff] at h2
   obtain⟨c',h2,rfl⟩:=h2
   exact ih' j u c' h1 h2
 |mapr hl hκ=>exact .mapr (G.Lb _ hl).1 ((G.Lb _ hl).2.trans hκ)
 |yld hl hκ=>exact .yld (G.Lb _ hl).1 ((G.Lb _ hl).2.trans hκ)
theorem RA.n6 {C:Cx} {rs:List Nat} {w:World} {v:Value} {av:AV} (h:RA C w v av) (hn:av.eJ=true):RA (C.n6 rs) w v av:=by
 cases h with
 |any v=>exact .any v
 |pv h=>exact .pv h
 |own h=>simp [AV.eJ] at hn
 |ptr hl hκ=>exact .ptr hl hκ
 |rptr b off vs hN hb hc hr=>exact .rptr b off vs hN hb hc hr
 |optr hi h=>simp [AV.eJ] at hn
 |agg hs h=>simp [AV.eJ] at hn
 |tup hs h=>simp [AV.eJ] at hn
 |clo hs h ht h'=>simp [AV.eJ] at hn
 |mapr hl hκ=>exact .mapr hl hκ
 |yld hl hκ=>exact .yld hl hκ
def uS (δ:DS):List (Nat×Option Ob)→Prop
 |[]=>True
 |(i,o)::r=>δ.ob i=o∧uS δ r
theorem uS.at {δ:DS}:∀{l:List (Nat×Option Ob)},uS δ l→∀i o,aG l i=some o→δ.ob i=some o
 |[],_,i,o,h=>by simp [aG] at h
 |(j,x)::r,hs,i,o,h=>by
  rw[aV] at h
  by_cases e:j=i
  ·rw[if_pos e] at h;subst e;rw[hs.1];exact h
  ·rw[if_neg e] at h;exact hs.2.at i o h
inductive KF (lr lb:Nat→Bool):AV→AV→Prop
 |any (c:AV):KF lr lb c .any
 |eq {c d:AV} (h:c=d) (hi:d.ids lr lb=true):KF lr lb c d
 |nil (k:Nat):KF lr lb (.pv (.lit (.slice none 0 0))) (.pv (.slice k []))
inductive n_ (lr lb:Nat→Bool):List AV→List AV→Prop
 |nil:n_ lr lb [] []
 |cons {c d:AV} {cs ds:List AV} (h:KF lr lb c d) (hs:n_ lr lb cs ds):n_ lr lb (c::cs) (d::ds)
theorem n_.len {lr lb:Nat→Bool} {cs ds:List AV} (h:n_ lr lb cs ds):cs.length=ds.length:=by induction h with|nil=>rfl|cons h hs ih=>simp [ih]
theorem n_.at {lr lb:Nat→Bool} {cs ds:List AV} (h:n_ lr lb cs ds):∀(j:Nat) (c d:AV),cs[j]? =some c→ds[j]? =some d→KF lr lb c d:=by
 induction h with
 |nil=>intro j c d h1;simp at h1
 |cons h hs ih=>
  intro j c d h1 h2
  cases j with
  |zero=>simp at h1 h2;subst h1;subst h2;exact h
  |succ j=>exact ih j c d (by simpa using h1) (by simpa using h2)
def DS.cq (δ:DS) (objs0 objs1:List (Nat×Option Ob)):DS:={(δ.cj (AV.cF (dc objs0))) with objs:=objs1++(δ.cj (AV.cF (dc objs0))).objs}
theorem tU:∀{l l':List (Nat×Option Ob)} {i:Nat},(∀p∈l,p.2.isSome=true)→aG (l++l') i=match aG l i with|some o=>some o|none=>aG l' i
 |[],l',i,_=>rfl
 |(j,o)::r,l',i,h=>by
  rw[List.cons_append,aV,aV]
  by_cases e:j=i
  ·rw[if_pos e,if_pos e]
   have:=h (j,o) (by simp)
   cases o with
   |none=>simp at this
   |some o=>rfl
  ·rw[if_neg e,if_neg e];exact tU fun p hp=>h p (by simp [hp])
theorem fI:∀{l0 l1:List (Nat×Option Ob)},eu l0 l1=true→∀p∈l1,p.2.isSome=true
 |[],[],_,p,hp=>by simp at hp
 |(j,some .row)::r,(j',some .row)::r',h,p,hp=>by
  simp only[eu,Bool.and_eq_true] at h
  rcases List.mem_cons.1 hp with rfl|hp
  ·rfl
  ·exact fI h.2 p hp
 |(j,some (.box c))::r,(j',some (.box d))::r',h,p,hp=>by
  simp only[eu,Bool.and_eq_true] at h
  rcases List.mem_cons.1 hp with rfl|hp
  ·rfl
  ·exact fI h.2 p hp
 |(j,some (.lit T c))::r,(j',some (.box d))::r',h,p,hp=>by
  simp only[eu,Bool.and_eq_true] at h
  rcases List.mem_cons.1 hp with rfl|hp
  ·rfl
  ·exact fI h.2 p hp
 |(j,some (.mp c))::r,(j',some (.mp d))::r',h,p,hp=>by
  simp only[eu,Bool.and_eq_true] at h
  rcases List.mem_cons.1 hp with rfl|hp
  ·rfl
  ·exact fI h.2 p hp
 |(j,some (.pool e c))::r,(j',some (.pool e' d))::r',h,p,hp=>by
  simp only[eu,Bool.and_eq_true] at h
  rcases List.mem_cons.1 hp with rfl|hp
  ·rfl
  ·exact fI h.2 p hp
theorem zR (rs:List Nat):AV.cF rs .any=.any:=rfl
end Go.Ab
/- Callees that rewrite a row of numbers in place:Go's slices.Sort,slices.Compact. -/
namespace Go.Ab
open Go Go.RowKit
variable {P:Program} {g:ar} {δ:DS} {κ:Kp} {a:Act} {w:World}
def nI (z:Int):List PV:=[.lit (.int .i64 z)]
structure E7 (P:Program) (f:FuncId) (out:List Int→List Int) (ret:Option (List Int→Nat)):Prop where
 enters:∀vals w,(callFunc f vals).run P w=.ok (.enter f vals) w
 len:∀zs,(out zs).length=zs.length
 retle:∀r,ret=some r→∀zs,r zs≤zs.length
 calls:∀(b cap:Nat) (zs:List Int) (w:World),Sort.Holds (Value.int .i64) w b 0 zs.toArray→b<w.heap.size→zs.length≤140737488355328→zs.length≤cap→
  Calls P f #[.slice (some ⟨b,0,none⟩) zs.length cap] w fun e w'=>e=.returned (match ret with|none=> .tuple #[]|some r=> .slice (some ⟨b,0,none⟩) (r zs) cap)∧
   ∃n os,w'=Sort.grow (Sort.putRow (Value.int .i64) (Sort.ahead w n) b 0 (out zs).toArray) os
 nil:∀w,Calls P f #[.slice none 0 0] w fun e w'=>e=.returned (match ret with|none=> .tuple #[]|some _=> .slice none 0 0)∧Below w.heap.size w w'
theorem ve {w:World} {b n:Nat} {c:Array Value} {e:TypeId} {d:Array Int} {os:Array Obj} (h:w.heap[b]? =some (.cells c e (0,0))):
  (Sort.grow (Sort.putRow (Value.int .i64) (Sort.ahead w n) b 0 d) os).heap[b]? =some (.cells (Sort.putCells (Value.int .i64) 0 d c) e (0,0)):=by
 have hb:b<w.heap.size:=(Array.getElem?_eq_some_iff.1 h).1
 unfold Sort.grow Sort.putRow Sort.mapBlock Sort.ahead
 simp only
 rw[Array.getElem?_append_left (by simpa using hb),Array.getElem?_modify,if_pos rfl,h]
 rfl
theorem sW {w:World} {b n k:Nat} {d:Array Int} {os:Array Obj} (hk:k<w.heap.size) (br:b≠k):
  (Sort.grow (Sort.putRow (Value.int .i64) (Sort.ahead w n) b 0 d) os).heap[k]? =w.heap[k]?:=by
 unfold Sort.grow Sort.putRow Sort.mapBlock Sort.ahead
 simp only
 rw[Array.getElem?_append_left (by simpa using hk),Array.getElem?_modify,if_neg br]
theorem ta (w:World) (b n:Nat) (d:Array Int) (os:Array Obj):cS w (Sort.grow (Sort.putRow (Value.int .i64) (Sort.ahead w n) b 0 d) os) (some b):=
 ⟨rfl,rfl,rfl,by simp [Sort.grow,Sort.putRow,Sort.mapBlock,Sort.ahead],fun k hk br=>sW hk (fun e=>br (by rw[e]))⟩
theorem qO {c:Array Value} {d:List Int} (hc:d.length≤c.size):(Sort.putCells (Value.int .i64) 0 d.toArray c).toList.take d.length=d.map (Value.int .i64):=by
 apply List.ext_getElem
 ·simp [Sort.putCells];omega
 ·intro j h1 h2
  have hj:j<d.length:=by simpa using h2
  simp [Sort.putCells,hj]
theorem Fh {w:World} {N:Nat→Prop} {xs:List Value} {zs:List Int} (hl:xs.length=zs.length*1) (hx:∀i' j p,cellAt (zs.map nI) i' j=some p→∃u,xs[i'*1+j]? =some u∧RP N w u p):xs=zs.map (Value.int .i64):=by
 apply List.ext_getElem
 ·simp [hl]
 ·intro j h1 h2
  have hj:j<zs.length:=by simpa using h2
  obtain⟨u,hu,hr⟩:=hx j 0 (.lit (.int .i64 zs[j])) (by simp [cellAt,hj,nI])
  cases hr
  rw[Nat.mul_one,Nat.add_zero,List.getElem?_eq_getElem h1] at hu
  simpa using hu
def fC (δ:DS) (v:AV):List Nat→DS
 |[]=>δ
 |t::ts=>(fC δ v ts).put t v
theorem Cu (δ:DS) (v:AV) (ts:List Nat):(fC δ v ts).n=δ.n:=by induction ts with|nil=>rfl|cons t ts ih=>exact ih
def xU (δ:DS) (v:AV):List Nat→Prop
 |[]=>True
 |t::ts=>δ.get t=v∧xU δ v ts
theorem Gg (δ:DS) (t:Nat) (v:AV):(δ.put t v).cx g κ=δ.cx g κ:=rfl
theorem kz (δ:DS) (v:AV):∀ts,(fC δ v ts).cx g κ=δ.cx g κ
 |[]=>rfl
 |t::ts=>by show((fC δ v ts).put t v).cx g κ=_;rw[Gg,kz δ v ts]
theorem Rel.lW (r:Rel g δ κ a w) {t:Nat} {v:AV} (h:RA (δ.cx g κ) w (g.val a t) v):Rel g (δ.put t v) κ a w where
 n:=r.n
 dfr:=r.dfr
 env:=fun j=>by
  rw[ye]
  by_cases e:t=j
  ·subst e;rw[if_pos rfl];exact h
  ·rw[if_neg e];exact r.env j
 obj:=r.obj
 inj:=r.inj
 lo:=r.lo
 nx:=r.nx
 wt:=r.wt
 below:=r.below
 hB:=r.hB
 N0:=r.N0
 fr:=r.fr
 mkf:=r.mkf
theorem Rel.pc (r:Rel g δ κ a w) {v:AV}:∀ts:List Nat,(∀t∈ts,RA (δ.cx g κ) w (g.val a t) v)→Rel g (fC δ v ts) κ a w
 |[],_=>r
 |t::ts,h=>(Rel.pc r ts fun t ht=>h t (by simp [ht])).lW (by rw[kz];exact h t (by simp))
theorem nE {δ:DS} {v:AV}:∀{ts:List Nat},xU δ v ts→∀t∈ts,δ.get t=v
 |[],_,t,h=>by simp at h
 |x::ts,h,t,ht=>by
  rcases List.mem_cons.1 ht with rfl|ht
  ·exact h.1
  ·exact nE h.2 t ht
variable {ops:Array Oper} {rest:List Oper} {Q:Exit→DS→Prop} {dst:Option Nat} {ty:TypeId} {pos:String} {af:Array Edge} {gd:Option (Tmp×Bool)}
def td (i:Nat) (e:TypeId) (zs os:List Int):Option (List Int→Nat)→AV
 |none=> .tup []
 |some r=> .own i e 1 ((os.take (r zs)).map nI)
theorem dJ.dP {C:Cx} {w:World} {v:Value} {i:Nat} {e:TypeId} {zs:List Int} (h:dJ C w v i e 1 (zs.map nI)):
  (v=.slice none 0 0∧zs=[])∨∃b cap c,v=.slice (some ⟨b,0,none⟩) zs.length cap∧C.κ i=some b∧C.B≤b∧w.heap[b]? =some (.cells c e (0,0))∧zs.length≤cap∧cap≤maxLen∧c.size=cap∧c.toList.take zs.length=zs.map (Value.int .i64):=by
 obtain⟨xs,⟨hl,b8⟩,_,hx⟩:=h.row
 rw[List.length_map] at hl b8
 have GN:=Fh hl hx
 rcases b8 with ⟨rfl,h0⟩|⟨b,cap,c,rfl,h1,h2,h3,h4,h5,h6⟩
 ·exact .inl ⟨rfl,List.eq_nil_of_length_eq_zero h0⟩
 ·refine .inr ⟨b,cap,c,rfl,h.blk b rfl,h1,h2,h3,h4,by omega,?_⟩
  rw[← GN,← h6,Nat.mul_one]
theorem dJ.wA {C:Cx} {w:World} {i b cap:Nat} {e:TypeId} {zs:List Int} {c:Array Value} (hl:C.Lr i) (hκ:C.κ i=some b) (hB:C.B≤b) (h2:w.heap[b]? =some (.cells c e (0,0))) (h3:zs.length≤cap) (h4:cap≤maxLen) (h5:c.size=cap)
  (h6:c.toList.take zs.length=zs.map (Value.int .i64)) (gi:zs.length≤140737488355328):dJ C w (.slice (some ⟨b,0,none⟩) zs.length cap) i e 1 (zs.map nI):=by
 refine⟨hl,by simpa using gi,fun c hc=>?_,fun b' hb'=>?_,zs.map (Value.int .i64),⟨by simp,.inr ⟨b,cap,c,by simp,hB,h2,by simpa using h3,h4,by omega,by simpa using h6⟩⟩,fun u hu=>?_,fun i' j p hp=>?_⟩
 ·obtain⟨z,_,rfl⟩:=List.mem_map.1 hc;rfl
 ·cases hb';exact hκ
 ·obtain⟨z,_,rfl⟩:=List.mem_map.1 hu;rfl
 ·unfold cellAt at hp
  rw[List.getElem?_map] at hp
  cases hz:zs[i']? with
  |none=>rw[hz] at hp;simp at hp
  |some z=>
   rw[hz] at hp
   cases j with
   |zero=>
    simp [nI] at hp
    subst hp
    exact⟨.int .i64 z,by rw[Nat.mul_one,Nat.add_zero,List.getElem?_map,hz];rfl,.lit _⟩
   |succ j=>simp [nI] at hp
theorem c9.EL {f:FuncId} {x:Operand} {tys:Array TypeId} {out:List Int→List Int} {ret:Option (List Int→Nat)} (hf:E7 P f out ret) (ts:List Nat) {i:Nat} {e:TypeId} {zs:List Int} (hx:δ.ev x=.own i e 1 (zs.map nI)) (pA:xU δ (.own i e 1 (zs.map nI)) ts) (hr:δ.ob i=some .row)
  (ho:aK x=true) (hd:bk δ.n dst=true):
  c9 P g ⟨dst,.call {callee:=.value (.func f),args:= #[x],argTypes:=tys},ty,pos,af,none⟩ δ ((fC (δ.cj (AV.kill i)) (.own i e 1 ((out zs).map nI)) ts).au dst (td i e zs (out zs) ret)):=by
 intro κ a w r
 right
 have wQ:=(r.ra hx ho).dM
 have aR:=fg (dst:=dst) (ty:=ty) (pos:=pos) (af:=af) (xs:= #[x]) (tys:=tys) (ρ:=a.eval) (x:=.func f) (f:=f) rfl hf.enters w
 have gi:zs.length≤140737488355328:=by simpa using wQ.lim
 refine⟨f, #[a.eval x],by simpa using aR,?_⟩
 have mG:∀ts,bk (fC (δ.cj (AV.kill i)) (.own i e 1 ((out zs).map nI)) ts).n dst=true:=fun ts=>by rw[Cu];exact hd
 have ir:∀κ',((δ.cj (AV.kill i)).cx g κ').Lr i:=fun κ'=>by
  show(δ.cj (AV.kill i)).ob i=some .row
  rw[eO,hr];rfl
 have iQ:∀t∈ts,dJ (δ.cx g κ) w (g.val a t) i e 1 (zs.map nI):=fun t ht=>by
  have:=r.env t
  rw[nE pA t ht] at this
  exact this.dM
 have F8:∀{w':World},dJ ((δ.cj (AV.kill i)).cx g κ) w' (.slice none 0 0) i e 1 (([]:List Int).map nI):=fun {w'}=>
  ⟨ir κ,(by simp),(fun c hc=>by simp at hc),(fun b hb=>by cases hb),⟨[],⟨by simp,.inl ⟨rfl,rfl⟩⟩,(fun u hu=>by simp at hu),(fun i' j p hp=>by simp [cellAt] at hp)⟩⟩
 rcases wQ.dP with ⟨hv,rfl⟩|⟨b,cap,c,hv,hκ,hB,hb,jz,iD,jU,n4⟩
 ·
  rw[hv]
  refine(hf.nil w).mono fun e' w' ⟨he,F4⟩=>?_
  have r1:=r.ext F4
  have e0:out []=[]:=List.eq_nil_of_length_eq_zero (by rw[hf.len];rfl)
  have rk:Rel g (δ.cj (AV.kill i)) κ a w':=by
   refine(r1.row hr (κ':=κ) (fun _ _=>rfl) ⟨rfl,rfl,rfl,Nat.le_refl _,fun _ _ _=>rfl⟩ (fun b hb'=>?_) (AV.kill i) rfl (fun G v av h=>h.kill G)).1
   obtain⟨c,e',h1⟩:=r1.obj i .row hr b hb'
   exact⟨.inl hb',(Array.getElem?_eq_some_iff.1 h1).1,c,e',h1⟩
  have ra:Rel g (fC (δ.cj (AV.kill i)) (.own i e 1 ((out []).map nI)) ts) κ a w':=by
   refine rk.pc ts fun t ht=> .own ?_
   have h1:=r1.env t
   rw[nE pA t ht] at h1
   rw[e0]
   rcases h1.dM.dP with ⟨h2,_⟩|⟨b,cap,c,h2,hκ,hB,hb,jz,iD,jU,n4⟩
   ·rw[h2];exact F8
   ·rw[h2];exact dJ.wA (ir κ) hκ hB hb jz iD jU n4 (by simp)
  refine⟨_,κ,he,ra.au (aU (mG ts)) ?_⟩
  cases ret with
  |none=>exact .tup rfl (fun j u c h=>by simp at h)
  |some rr=>
   show RA _ _ _ (.own i e 1 (((out []).take (rr [])).map nI))
   rw[e0,kz]
   exact .own (by simpa using F8)
 ·rw[hv]
  have hκ0:κ i=some b:=hκ
  have K0:b<w.heap.size:=(Array.getElem?_eq_some_iff.1 hb).1
  have hold:Sort.Holds (Value.int .i64) w b 0 zs.toArray:=by
   intro j hj
   have hj':j<zs.length:=by simpa using hj
   refine⟨?_,by rw[Nat.zero_add];exact jd hb _⟩
   rw[Nat.zero_add,cell_of hb]
   have h1:(c.toList.take zs.length)[j]? =(zs.map (Value.int .i64))[j]?:=by rw[n4]
   rw[List.getElem?_take,if_pos hj',Array.getElem?_toList,List.getElem?_map,List.getElem?_eq_getElem hj'] at h1
   rw[h1]
   simp [hj']
  refine(hf.calls b cap zs w hold K0 gi jz).mono fun e' w' ⟨he,n,os,hw'⟩=>?_
  have hh:w'.heap[b]? =some (.cells (Sort.putCells (Value.int .i64) 0 (out zs).toArray c) e (0,0)):=by rw[hw'];exact ve hb
  have iK:(Sort.putCells (Value.int .i64) 0 (out zs).toArray c).size=c.size:=by simp [Sort.putCells]
  have Cb:=qO (c:=c) (d:=out zs) (by rw[hf.len];omega)
  have rk:Rel g (δ.cj (AV.kill i)) κ a w':=by
   refine(r.row hr (κ':=κ) (fun _ _=>rfl) (by rw[hκ0,hw'];exact ta _ _ _ _ _) (fun b' hb'=>?_) (AV.kill i) rfl (fun G v av h=>h.kill G)).1
   obtain rfl:b=b':=Option.some.inj (hκ.symm.trans hb')
   exact⟨.inl hκ,(Array.getElem?_eq_some_iff.1 hh).1,_,_,hh⟩
  have ra:Rel g (fC (δ.cj (AV.kill i)) (.own i e 1 ((out zs).map nI)) ts) κ a w':=by
   refine rk.pc ts fun t ht=> .own ?_
   rcases(iQ t ht).dP with ⟨h2,h0⟩|⟨b',cap',c',h2,hκ',hB',hb',Kn,JR,Qn,Qp⟩
   ·have e0:out zs=[]:=List.eq_nil_of_length_eq_zero (by rw[hf.len,h0];rfl)
    rw[h2,e0];exact F8
   ·obtain rfl:b=b':=Option.some.inj (hκ.symm.trans hκ')
    rw[hb] at hb'
    simp only[Option.some.injEq,Obj.cells.injEq] at hb'
    obtain⟨rfl,_⟩:=hb'
    rw[h2,← hf.len zs]
    exact dJ.wA (ir κ) hκ hB hh (by rw[hf.len];exact Kn) JR (by omega) Cb (by rw[hf.len];exact gi)
  refine⟨_,κ,he,ra.au (aU (mG ts)) ?_⟩
  rw[kz]
  cases ret with
  |none=>exact .tup rfl (fun j u c h=>by simp at h)
  |some rr=>
   have hle:=hf.retle rr rfl zs
   have hl2:((out zs).take (rr zs)).length=rr zs:=by rw[List.length_take,hf.len];omega
   show RA _ _ (.slice (some ⟨b,0,none⟩) (rr zs) cap) (.own i e 1 (((out zs).take (rr zs)).map nI))
   refine .own ?_
   have:=dJ.wA (C:=(δ.cj (AV.kill i)).cx g κ) (w:=w') (i:=i) (b:=b) (cap:=cap) (e:=e) (zs:=(out zs).take (rr zs)) (ir κ) hκ hB hh (by omega) iD (by omega)
    (by rw[hl2,List.map_take,← Cb,List.take_take,hf.len,Nat.min_eq_left (by omega)]) (by omega)
   rwa [hl2] at this
theorem aa.EL {f:FuncId} {x:Operand} {tys:Array TypeId} {out:List Int→List Int} {ret:Option (List Int→Nat)} (hf:E7 P f out ret) (ts:List Nat) {i:Nat} {e:TypeId} {zs:List Int} (hx:δ.ev x=.own i e 1 (zs.map nI)) (pA:xU δ (.own i e 1 (zs.map nI)) ts) (hr:δ.ob i=some .row)
  (ho:aK x=true) (hd:bk δ.n dst=true) (hK:aa .plain P g ops rest Q ((fC (δ.cj (AV.kill i)) (.own i e 1 ((out zs).map nI)) ts).au dst (td i e zs (out zs) ret))):
  aa .plain P g ops (⟨dst,.call {callee:=.value (.func f),args:= #[x],argTypes:=tys},ty,pos,af,none⟩::rest) Q δ:=
 aa.mI rfl rfl (c9.EL hf ts hx pA hr ho hd) hK
theorem enters_of {f:FuncId} {fn:Func} {c:Code} (hf:P.funcs[f]? =some fn) (hb:fn.body=some c) (he:(fn.name== "runtime.NumGoroutine")=false):∀vals w,(callFunc f vals).run P w=.ok (.enter f vals) w:=fun vals w=>by
 simp [callFunc,hf,hb];simpa using he
end Go.Ab
/- A call by a contract over objects. -/
namespace Go.Ab
open Go Go.RowKit
variable {P:Program} {g:ar} {δ:DS} {κ:Kp} {a:Act} {w:World}
variable {ops:Array Oper} {rest:List Oper} {Q:Exit→DS→Prop} {dst:Option Nat} {ty:TypeId} {pos:String} {af:Array Edge}
def As:List (Nat×AV)→List (Nat×AV)
 |[]=>[]
 |(i,v)::r=>bif Nat.ble HS i then (i,v)::As r else As r
abbrev DS.hi (δ:DS):DS:=⟨δ.n,As δ.env,δ.objs,δ.nx⟩
theorem uR:∀(e:List (Nat×AV)) (j:Nat),look (As e) j=if j<HS then .any else look e j
 |[],j=>by simp [As,look]
 |(i,v)::r,j=>by
  have ih:=uR r j
  rw[aX]
  unfold As
  cases hb:Nat.ble HS i with
  |true=>
   have hb':HS≤i:=by simpa using hb
   rw[cond_true,aX,ih]
   by_cases e:i=j
   ·subst e;rw[if_pos rfl,if_pos rfl,if_neg (by omega)]
   ·rw[if_neg e,if_neg e]
  |false=>
   have hb':¬HS≤i:=by
    intro h
    have h':Nat.ble HS i=true:=by simpa using h
    rw[hb] at h'
    cases h'
   rw[cond_false,ih]
   by_cases e:i=j
   ·subst e;rw[if_pos (by omega),if_pos (by omega)]
   ·rw[if_neg e]
theorem Rel.hi (r:Rel g δ κ a w):Rel g δ.hi κ a w:=
 {n:=r.n,dfr:=r.dfr
  env:=fun j=>by
   have:=r.env j
   show RA (δ.cx g κ) w _ (look (As δ.env) j)
   rw[uR]
   by_cases h:j<HS
   ·rw[if_pos h];exact .any _
   ·rw[if_neg h];exact this
  obj:=r.obj,inj:=r.inj,lo:=r.lo,nx:=r.nx,wt:=r.wt,below:=r.below,hB:=r.hB,N0:=r.N0,fr:=r.fr,mkf:=r.mkf}
theorem Dy {e:Exit} (h:Q e δ.hi) (r:Rel g δ κ a w):lift g Q e a w:=⟨δ.hi,κ,h,r.hi⟩
namespace Nf
theorem hi (n:Nat) (e:List (Nat×AV)) (o:List (Nat×Option Ob)) (x:Nat):DS.hi ⟨n,e,o,x⟩=⟨n,As e,o,x⟩:=rfl
theorem dA:As []=[]:=rfl
theorem NX (i:Nat) (v:AV) (r:List (Nat×AV)):As ((i,v)::r)=bif Nat.ble 1000 i then (i,v)::As r else As r:=rfl
end Nf
def gr (lr lb:Nat→Bool):List (Nat×Option Ob)→Prop
 |[]=>True
 |(_,none)::r=>gr lr lb r
 |(_,some o)::r=>rO lr lb o=true∧gr lr lb r
theorem gr.at {lr lb:Nat→Bool}:∀{l:List (Nat×Option Ob)},gr lr lb l→∀i o,aG l i=some o→rO lr lb o=true
 |[],_,i,o,h=>by simp [aG] at h
 |(j,none)::r,hs,i,o,h=>by
  rw[aV] at h
  by_cases e:j=i
  ·rw[if_pos e] at h;cases h
  ·rw[if_neg e] at h;exact gr.at (l:=r) hs i o h
 |(j,some x)::r,hs,i,o,h=>by
  rw[aV] at h
  by_cases e:j=i
  ·rw[if_pos e] at h;cases h;exact hs.1
  ·rw[if_neg e] at h;exact gr.at (l:=r) hs.2 i o h
theorem aI {lr lb:Nat→Bool} {l:List Int}:rO lr lb (.mp (dY (gb l)))=true:=by
 unfold rO
 rw[List.all_eq_true]
 intro p hp
 unfold dY gb at hp
 obtain⟨q,hq,rfl⟩:=List.mem_map.1 hp
 obtain⟨x,_,rfl⟩:=List.mem_map.1 hq
 rfl
open Classical in
noncomputable def κX (objs0:List (Nat×Option Ob)) (κ κ':Kp):Kp:=⟨fun i=>if (aG objs0 i).isSome=true then κ' i else κ i,fun i b=>if (aG objs0 i).isSome=true then κ'.F i b else κ.F i b⟩
theorem yn {objs0 objs1:List (Nat×Option Ob)} (hk:eu objs0 objs1=true) (i:Nat):(δ.cq objs0 objs1).ob i=match aG objs1 i with|some o=>some o|none=>(δ.ob i).map (Ob.pM (AV.cF (dc objs0))):=by
 show aG (objs1++(δ.cj (AV.cF (dc objs0))).objs) i=_
 rw[tU (fI hk)]
 cases h:aG objs1 i with
 |some o=>rfl
 |none=>exact eO _ _ _
theorem pH {α:Type} {T:World→Prop} {E:α→Cx→World→Ending→Prop} {y:Operand} {f:FuncId} {xs:List Operand} {tys:Array TypeId} {first cap args:List AV} {n0:Nat} {objs0:List (Nat×Option Ob)} {objsA:α→List (Nat×Option Ob)} (dg:g.wt=none) (hTB:TB T g) (hf:lX T P E f n0 objs0 args objsA) (hy:δ.ev y=.clo (.func f) first cap) (e8:aK y=true) (l9:xs.all aK=true)
  (eE:uS δ objs0) (b9:n_ (XS objs0 n0).kK (XS objs0 n0).kE (first++xs.map δ.ev++cap) args) (hkA:∀x,eu objs0 (objsA x)=true) (hn0:mF n0 objs0=true) (mg:gr (XS objs0 n0).kK (XS objs0 n0).kE objs0)
  (hselfA:∀x,gr (XS (objsA x) n0).kK (XS (objsA x) n0).kE (objsA x))
  (hKr:∀(x:α) (κ:Kp) (a:Act) (w':World) (C:Cx) (v:Value),Rel g (δ.cq objs0 (objsA x)) κ a w'→E x C w' (.returned v)→(∀r,RA C w' v r→r.ids (XS (objsA x) n0).kK (XS (objsA x) n0).kE=true→RA ((δ.cq objs0 (objsA x)).cx g κ) w' v r)→wpListIn (Fw g.ro) 0 P ops (lift g Q) rest (a.put dst v) w')
  (hKp:∀(x:α) (C:Cx) (w':World) (ch:List PanicEntry),E x C w' (.panicked ch)→Q (.panic ch) (δ.cq objs0 (objsA x)).hi∨Q (.panic ch) (δ.cq objs0 (objsA x))) (gB:∀(x:α) (C:Cx) (w':World),¬E x C w' .outgrown):
  aa .plain P g ops (⟨dst,.call {callee:=.value y,args:=xs.toArray,argTypes:=tys},ty,pos,af,none⟩::rest) Q δ:=by
 intro κ a w r0
 have oo:=r0.ra hy e8
 generalize hv:a.eval y=v at oo
 cases oo with
 | @clo _ vs us _ _ hs KJ ht KZ=>
  obtain⟨ms,hm1,hm2,hm3⟩:=r0.dfr
  have gk:∀i,(XS objs0 n0).live i→δ.live i:=fun i ⟨o,h⟩=>⟨o,eE.at i o h⟩
  let g':ar:={B:=g.B,w0:=w,N0:=fun b=>(δ.cx g κ).N b∨(∃i,(XS objs0 n0).live i∧(κ i=some b∨κ.F i b))∨w.heap.size≤b,held:=fun _=>undef,ro:=none,mks:=ms++g.mks,wt:=none,fr:=fun b=>b<w.heap.size∧∀i,(XS objs0 n0).live i→κ i≠some b∧¬κ.F i b,w1:=w}
  let κc:Kp:=⟨κ.f,fun i b=>(aG objs0 i).isSome=true∧κ.F i b⟩
  have hN1:∀b,(δ.cx g κ).N b→((XS objs0 n0).cx g' κc).N b:=fun b h=>⟨⟨.inl h,fun⟨i,hi⟩=>h.1.2 ⟨i,hi.2⟩⟩,fun i hi=>h.2 i (gk i hi)⟩
  have KV:∀i,(XS objs0 n0).kK i=true→((XS objs0 n0).cx g' κc).Lr i∧((XS objs0 n0).cx g' κc).κ i=(δ.cx g κ).κ i:=fun i h=>⟨je (δ:=XS objs0 n0) h,rfl⟩
  have Jp:∀i,(XS objs0 n0).kE i=true→((XS objs0 n0).cx g' κc).Lb i∧((XS objs0 n0).cx g' κc).κ i=(δ.cx g κ).κ i:=fun i h=>⟨fc (δ:=XS objs0 n0) h,rfl⟩
  have i_:Rel g' (XS objs0 n0) κc Ga w:=
   {n:=rfl,dfr:=⟨[],rfl,hm2,hm3⟩,env:=fun j=> .any _
    obj:=fun i o h=>iA.to (C:=δ.cx g κ) (C':=(XS objs0 n0).cx g' κc) rfl hN1 KV Jp rfl (fun b hb=>⟨by rw[show aG objs0 i=some o from h];rfl,hb⟩) (r0.obj i o (eE.at i o h)) (mg.at i o h)
    inj:=fun i j b h1 h2=>r0.inj i j b (gk i h1) (gk j h2)
    lo:=fun i b h1=>r0.lo i b (gk i h1)
    nx:=fun i ⟨o,h⟩=>jZ hn0 i o h
    wt:=fun k hk=>by cases hk
    below:=Below.refl _ _,hB:=r0.hB
    N0:=fun b hb hf=>by
     by_cases h1:w.heap.size≤b
     ·exact .inr (.inr h1)
     ·by_cases h2:∃i,(XS objs0 n0).live i∧(κ i=some b∨κ.F i b)
      ·exact .inr (.inl h2)
      ·exact absurd ⟨by omega,fun i hi=>⟨fun e=>h2 ⟨i,hi,.inl e⟩,fun e=>h2 ⟨i,hi,.inr e⟩⟩⟩ hf
    fr:=⟨fun b hb=>⟨hb.1,rfl,fun i hi=>(hb.2 i hi).1⟩,fun i b hb=>by
     obtain⟨h1,h2,h3,h4,h5⟩:=r0.fr.2 i b hb.2
     exact⟨⟨h1.1,fun k hk=>by cases hk⟩,h2,fun hf=>(hf.2 i (Option.isSome_iff_exists.1 hb.1)).2 hb.2,fun j hj=>h4 j (gk j hj),fun j hj=>h5 j hj.2⟩⟩
    mkf:=fun d hd=>by cases hd}
  have hl:=b9.len
  simp only[List.length_append,List.length_map] at hl
  have JM:∀(j:Nat) (v:Value) (av:AV),(vs++xs.toArray.map a.eval++us)[j]? =some v→args[j]? =some av→RA ((XS objs0 n0).cx g' κc) w v av:=by
   intro j v av h1 h2
   have Dh:j<(first++xs.map δ.ev++cap).length:=by rw[b9.len];exact(List.getElem?_eq_some_iff.1 h2).1
   have h3:=List.getElem?_eq_getElem Dh
   have hle:=b9.at j _ av h3 h2
   generalize (first++xs.map δ.ev++cap)[j]=c at h3 hle
   have hc:RA (δ.cx g κ) w v c:=by
    by_cases hj:j<first.length+xs.length
    ·rw[List.getElem?_append_left (by simp;omega)] at h3
     rw[Array.getElem?_append_left (by simp;omega)] at h1
     by_cases hj1:j<first.length
     ·rw[List.getElem?_append_left hj1] at h3
      rw[Array.getElem?_append_left (by omega)] at h1
      exact KJ j v c h1 h3
     ·rw[List.getElem?_append_right (by omega)] at h3
      rw[Array.getElem?_append_right (by omega),hs] at h1
      simp only[List.map_toArray,List.getElem?_toArray,List.getElem?_map,Option.map_eq_some_iff] at h1 h3
      obtain⟨y,h5,rfl⟩:=h1
      obtain⟨y',h4,rfl⟩:=h3
      rw[h5] at h4;cases h4
      exact r0.wO y (cQ ((List.all_eq_true.1 l9) y (List.mem_of_getElem? h5)))
    ·rw[List.getElem?_append_right (by simp;omega)] at h3
     rw[Array.getElem?_append_right (by simp;omega)] at h1
     have e1:(vs++xs.toArray.map a.eval).size=(first++xs.map δ.ev).length:=by simp;omega
     rw[e1] at h1
     exact KZ _ v c h1 h3
   cases hle with
   |any=>exact .any _
   |eq e hi=>subst e;exact RA.to (C:=δ.cx g κ) (C':=(XS objs0 n0).cx g' κc) rfl hN1 KV Jp hc hi
   |nil k=>rw[hc.lit];exact .pv (mU k)
  show wpListIn _ _ P ops _ (_::rest) a w
  refine cr rfl rfl fun K hK'=>?_
  unfold Oper.uT
  rw[rH hv hf.enters,Oper.uponIn_enter]
  refine⟨fun h=>by simp at h,(eZ (hf.calls g' κc w _ rfl rfl (fun w' hb=>hTB w' (r0.below.trans hb)) i_ (by simp;omega) JM)).mono ?_⟩
  rintro e w' ⟨xA,κ',hE,r1,nm⟩
  have hk:=hkA xA
  have jl:=hselfA xA
  have hKr:=hKr xA
  have hKp:=hKp xA
  have gB:=gB xA
  generalize MG:objsA xA=objs1 at*
  obtain⟨F,hF⟩:∃F,F=AV.cF (dc objs0):=⟨_,rfl⟩
  have dx:=fun i=>yn (δ:=δ) hk i
  have ua:=jb hk
  have iK:w.heap.size≤w'.heap.size:=r1.below.size
  have uF:∀b,b<w.heap.size→(∀i,(XS objs0 n0).live i→κ i≠some b∧¬κ.F i b)→w'.heap[b]? =w.heap[b]?∧∀i,(XS objs1 n0).live i→κ' i≠some b:=fun b h1 h2=>(r1.fr.1 b ⟨h1,h2⟩).2
  have hfF:∀b,b<w.heap.size→(∀i,(XS objs0 n0).live i→κ i≠some b∧¬κ.F i b)→∀i,¬κ'.F i b:=fun b h1 h2 i hi=>(r1.fr.2 i b hi).2.2.1 ⟨h1,h2⟩
  -- in and out
  have cZ:∀i,(aG objs0 i).isSome=true→(XS objs0 n0).live i∧(XS objs1 n0).live i∧κX objs0 κ κ' i=κ' i:=fun i h=>by
   refine⟨Option.isSome_iff_exists.1 h,?_,if_pos h⟩
   cases ua i with
   |none h0 _=>rw[h0] at h;cases h
   |row _ h1=>exact⟨_,h1⟩
   |box c d _ h1 _=>exact⟨_,h1⟩
   |lit T c d _ h1 _=>exact⟨_,h1⟩
   |mp c d _ h1 _=>exact⟨_,h1⟩
   |pool _ _ c d _ h1=>exact⟨_,h1⟩
  have fA:∀i,¬(aG objs0 i).isSome=true→aG objs1 i=.none∧κX objs0 κ κ' i=κ i:=fun i h=>by
   refine⟨?_,if_neg h⟩
   cases ua i with
   |none _ h1=>exact h1
   |row h0 _=>rw[h0] at h;exact absurd rfl h
   |box c d h0 _ _=>rw[h0] at h;exact absurd rfl h
   |lit T c d h0 _ _=>rw[h0] at h;exact absurd rfl h
   |mp c d h0 _ _=>rw[h0] at h;exact absurd rfl h
   |pool _ _ c d h0 _=>rw[h0] at h;exact absurd rfl h
  have Ev:∀i,(aG objs0 i).isSome=true→(δ.cq objs0 objs1).ob i=aG objs1 i:=fun i h=>by
   obtain⟨_,⟨o,h1⟩,_⟩:=cZ i h
   rw[dx i]
   have h1:aG objs1 i=some o:=h1
   rw[h1]
  have E_:∀i,¬(aG objs0 i).isSome=true→(δ.cq objs0 objs1).ob i=(δ.ob i).map (Ob.pM F):=fun i h=>by rw[dx i,(fA i h).1,hF]
  have GQ:∀i,(aG objs0 i).isSome=true→δ.live i:=fun i h=>gk i (cZ i h).1
  have gY:∀i,¬(aG objs0 i).isSome=true→(δ.cq objs0 objs1).live i→δ.live i:=fun i h ⟨o,ho⟩=>by
   rw[E_ i h] at ho
   obtain⟨o',h1,_⟩:=Option.map_eq_some_iff.1 ho
   exact⟨o',h1⟩
  have dt:∀i,¬(aG objs0 i).isSome=true→∀j,(XS objs0 n0).live j→j≠i:=fun i h j ⟨o,ho⟩ e=>by
   subst e
   have ho:aG objs0 j=some o:=ho
   rw[ho] at h
   exact h rfl
  have hold:∀i b,¬(aG objs0 i).isSome=true→δ.live i→κ i=some b→b<w.heap.size∧∀j,(XS objs0 n0).live j→κ j≠some b∧¬κ.F j b:=fun i b h hl hb=>
   ⟨(r0.lo i b hl hb).2,fun j hj=>⟨fun e=>dt i h j hj (r0.inj j i b (gk j hj) hl e hb),fun e=>r0.fr.gS hl hb ⟨j,e⟩⟩⟩
  have hoN:∀b,(δ.cx g κ).N b→∀j,(XS objs0 n0).live j→κ j≠some b∧¬κ.F j b:=fun b h j hj=>⟨h.2 j (gk j hj),fun e=>h.1.2 ⟨j,e⟩⟩
  -- a pool's blocks behind the call
  have hXF:∀i b,(κX objs0 κ κ').F i b→((aG objs0 i).isSome=true∧κ'.F i b)∨(¬(aG objs0 i).isSome=true∧κ.F i b):=fun i b h=>by
   have h:(if (aG objs0 i).isSome=true then κ'.F i b else κ.F i b):=h
   by_cases hi:(aG objs0 i).isSome=true
   ·rw[if_pos hi] at h;exact .inl ⟨hi,h⟩
   ·rw[if_neg hi] at h;exact .inr ⟨hi,h⟩
  have hFo:∀i b,¬(aG objs0 i).isSome=true→κ.F i b→b<w.heap.size∧∀j,(XS objs0 n0).live j→κ j≠some b∧¬κ.F j b:=fun i b hi hF=>
   ⟨(r0.fr.2 i b hF).2.1,fun j hj=>⟨(r0.fr.2 i b hF).2.2.2.1 j (gk j hj),fun e=>dt i hi j hj ((r0.fr.2 i b hF).2.2.2.2 j e)⟩⟩
  have hNN:∀b,b<w.heap.size→(δ.cx g κ).N b→((δ.cq objs0 objs1).cx g (κX objs0 κ κ')).N b:=fun b h1 h2=>by
   refine⟨⟨h2.1.1,fun⟨i,hi⟩=>?_⟩,fun i hi e=>?_⟩
   ·rcases hXF i b hi with h|h
    ·exact hfF b h1 (hoN b h2) i h.2
    ·exact h2.1.2 ⟨i,h.2⟩
   by_cases h:(aG objs0 i).isSome=true
   ·rw[(cZ i h).2.2] at e
    exact(uF b h1 (hoN b h2)).2 i (cZ i h).2.1 e
   ·rw[(fA i h).2] at e
    exact h2.2 i (gY i h hi) e
  have l6:∀i b,(AV.ptr i 0∈bS objs0∨AV.mapr i∈bS objs0)→κ i=some b→κX objs0 κ κ' i=κ i:=fun i b hp hb=>by
   by_cases h:(aG objs0 i).isSome=true
   ·rw[(cZ i h).2.2,nm i b hp hb,hb]
   ·exact(fA i h).2
  have G:ez ((δ.cx g κ).n6 (dc objs0)) w ((δ.cq objs0 objs1).cx g (κX objs0 κ κ')) w':=
   {B:=rfl,size:=iK
    N:=fun b h1 h2=>⟨hNN b h1 h2,(uF b h1 (hoN b h2)).1⟩
    Lr:=fun i hi=>by
     have hl:δ.ob i=some .row:=hi.1
     have h:¬(aG objs0 i).isSome=true:=fun h=>by
      obtain⟨⟨o,ho⟩,_,_⟩:=cZ i h
      have h1:=eE.at i o ho
      rw[hl] at h1
      cases h1
      have:=rB (l:=objs0) ho
      rw[hi.2] at this
      cases this
     refine⟨?_,(fA i h).2,fun b hb=>?_⟩
     ·show(δ.cq objs0 objs1).ob i=_
      rw[E_ i h,hl];rfl
     ·obtain⟨h1,h2⟩:=hold i b h ⟨_,hl⟩ hb
      exact(uF b h1 h2).1
    Lb:=fun i hi=>by
     obtain⟨o,h1,h2⟩:=hi
     by_cases h:(aG objs0 i).isSome=true
     ·have h3:=Ev i h
      cases ua i with
      |none h0 _=>rw[h0] at h;cases h
      |row h0 _=>
       have:=eE.at i _ h0
       rw[h1] at this
       cases this
       simp [Ob.fy] at h2
      |box c d h0 h4 hp=>
       obtain⟨b,_,_,h5,_⟩:=r0.obj i _ (eE.at i _ h0)
       exact⟨⟨_,h3.trans h4,rfl⟩,l6 i b (.inl hp) h5⟩
      |lit T c d h0 h4 hp=>
       obtain⟨b,h5,_⟩:=r0.obj i _ (eE.at i _ h0)
       exact⟨⟨_,h3.trans h4,rfl⟩,l6 i b (.inl hp) h5⟩
      |mp c d h0 h4 hp=>
       obtain⟨b,_,_,h5,_⟩:=r0.obj i _ (eE.at i _ h0)
       exact⟨⟨_,h3.trans h4,rfl⟩,l6 i b (.inr hp) h5⟩
      |pool e e' c d h0 h4=>
       have h5:=(r0.obj i _ (eE.at i _ h0)).1
       have h6:=(r1.obj i _ h4).1
       exact⟨⟨_,h3.trans h4,rfl⟩,(cZ i h).2.2.trans (h6.trans h5.symm)⟩
     ·refine⟨⟨_,by rw[E_ i h,h1];rfl,?_⟩,(fA i h).2⟩
      cases o<;>first|rfl|(simp [Ob.fy] at h2)}
  have HF:∀{u:Value} {av:AV},RA (δ.cx g κ) w u av→RA ((δ.cq objs0 objs1).cx g (κX objs0 κ κ')) w' u (F av):=fun h=>by rw[hF];exact h.cF G
  have hN2:∀b,((XS objs1 n0).cx g' κ').N b→((δ.cq objs0 objs1).cx g (κX objs0 κ κ')).N b:=fun b h=>by
   obtain⟨h1,h2⟩:=h
   have xR:∀i,(δ.cq objs0 objs1).live i→κX objs0 κ κ' i=some b→¬(aG objs0 i).isSome=true∧δ.live i∧κ i=some b:=fun i hi e=>by
    by_cases h:(aG objs0 i).isSome=true
    ·rw[(cZ i h).2.2] at e
     exact absurd e (h2 i (cZ i h).2.1)
    ·rw[(fA i h).2] at e
     exact⟨h,gY i h hi,e⟩
   have hkF:∀i,(κX objs0 κ κ').F i b→¬(aG objs0 i).isSome=true∧κ.F i b:=fun i hi=>by
    rcases hXF i b hi with h|h
    ·exact absurd ⟨i,h.2⟩ h1.2
    ·exact h
   rcases h1.1 with h1|⟨j,hj,vY⟩|h1
   ·exact⟨⟨h1.1.1,fun⟨i,hi⟩=>h1.1.2 ⟨i,(hkF i hi).2⟩⟩,fun i hi e=>let ⟨_,h3,h4⟩:=xR i hi e;h1.2 i h3 h4⟩
   ·have hN0:g.N0 b:=by
     rcases vY with vY|vY
     ·exact(r0.yi (gk j hj) vY).1
     ·obtain⟨k1,k2,k3,_⟩:=r0.fr.2 j b vY;exact r0.N0 b k1.1 k3
    refine⟨⟨hN0,fun⟨i,hi⟩=>?_⟩,fun i hi e=>?_⟩
    ·obtain⟨h3,h4⟩:=hkF i hi
     rcases vY with vY|vY
     ·exact(hFo i b h3 h4).2 j hj|>.1 vY
     ·exact(hFo i b h3 h4).2 j hj|>.2 vY
    ·obtain⟨h3,h4,h5⟩:=xR i hi e
     have:=(hold i b h3 h4 h5).2 j hj
     rcases vY with vY|vY
     ·exact this.1 vY
     ·exact this.2 vY
   ·refine⟨⟨(r0.xE h1).1,fun⟨i,hi⟩=>?_⟩,fun i hi e=>?_⟩
    ·have:=(hFo i b (hkF i hi).1 (hkF i hi).2).1
     omega
    ·obtain⟨_,h4,h5⟩:=xR i hi e
     have:=(r0.lo i b h4 h5).2
     omega
  have Jd:∀i,(XS objs1 n0).kK i=true→((δ.cq objs0 objs1).cx g (κX objs0 κ κ')).Lr i∧((δ.cq objs0 objs1).cx g (κX objs0 κ κ')).κ i=((XS objs1 n0).cx g' κ').κ i:=fun i h=>by
   have h1:aG objs1 i=some .row:=je (δ:=XS objs1 n0) h
   have h2:(aG objs0 i).isSome=true:=by
    cases ua i with
    |none _ h0=>rw[h0] at h1;cases h1
    |row h0 _=>rw[h0];rfl
    |box c d h0 _ _=>rw[h0];rfl
    |lit T c d h0 _ _=>rw[h0];rfl
    |mp c d h0 _ _=>rw[h0];rfl
    |pool _ _ c d h0 _=>rw[h0];rfl
   exact⟨(Ev i h2).trans h1,(cZ i h2).2.2⟩
  have Kt:∀i,(XS objs1 n0).kE i=true→((δ.cq objs0 objs1).cx g (κX objs0 κ κ')).Lb i∧((δ.cq objs0 objs1).cx g (κX objs0 κ κ')).κ i=((XS objs1 n0).cx g' κ').κ i:=fun i h=>by
   obtain⟨o,h1,h3⟩:=fc (δ:=XS objs1 n0) h
   have h1:aG objs1 i=some o:=h1
   have h2:(aG objs0 i).isSome=true:=by
    cases ua i with
    |none _ h0=>rw[h0] at h1;cases h1
    |row h0 _=>rw[h0];rfl
    |box c d h0 _ _=>rw[h0];rfl
    |lit T c d h0 _ _=>rw[h0];rfl
    |mp c d h0 _ _=>rw[h0];rfl
    |pool _ _ c d h0 _=>rw[h0];rfl
   exact⟨⟨o,(Ev i h2).trans h1,h3⟩,(cZ i h2).2.2⟩
  have hR:Rel g (δ.cq objs0 objs1) (κX objs0 κ κ') a w':=
   {n:=r0.n
    dfr:=by
     obtain⟨rs,_,_,k3⟩:=r1.dfr
     exact⟨ms,hm1,hm2,fun k hk=>k3 k (List.mem_append.2 (.inr hk))⟩
    env:=fun j=>by
     have:(δ.cq objs0 objs1).get j=F (δ.get j):=by rw[hF];exact j4 _ (zR _) δ j
     rw[this];exact HF (r0.env j)
    obj:=fun i o h=>by
     by_cases hi:(aG objs0 i).isSome=true
     ·rw[Ev i hi] at h
      exact iA.to (C:=(XS objs1 n0).cx g' κ') (C':=(δ.cq objs0 objs1).cx g (κX objs0 κ κ')) rfl hN2 Jd Kt (cZ i hi).2.2 (fun b hb=>(by show(if (aG objs0 i).isSome=true then κ'.F i b else κ.F i b);rw[if_pos hi];exact hb)) (r1.obj i o h) (jl.at i o h)
     ·rw[E_ i hi] at h
      obtain⟨o',ho',rfl⟩:=Option.map_eq_some_iff.1 h
      have h0:=r0.obj i o' ho'
      have hκi:=(fA i hi).2
      have rq:∀b,κ i=some b→w'.heap[b]? =w.heap[b]?:=fun b hb=>let ⟨h1,h2⟩:=hold i b hi ⟨_,ho'⟩ hb;(uF b h1 h2).1
      cases o' with
      |row=>
       intro b hb
       have hb':κ i=some b:=by rw[← hκi];exact hb
       obtain⟨c,e,h1⟩:=h0 b hb'
       exact⟨c,e,(rq b hb').trans h1⟩
      |lit T vals=>obtain⟨b,h1,h2⟩:=h0;exact⟨b,hκi.trans h1,(rq b h1).trans h2⟩
      |pool e rows=>exact⟨hκi.trans h0.1,fun k=>(h0.2.1 k).e7 rfl fun b _ h2 _=>⟨(by show(if (aG objs0 i).isSome=true then κ'.F i b else κ.F i b);rw[if_neg hi];exact h2),(uF b (hFo i b hi h2).1 (hFo i b hi h2).2).1⟩,h0.2.2⟩
      |box cs=>
       obtain⟨b,c,e,h1,h2,h3,h4⟩:=h0
       refine⟨b,c,e,hκi.trans h1,(rq b h1).trans h2,by simpa using h3,fun k u av h5 h6=>?_⟩
       simp only[List.getElem?_map,Option.map_eq_some_iff] at h6
       obtain⟨av',h6,rfl⟩:=h6
       exact⟨HF (h4 k u av' h5 h6).1,(h4 k u av' h5 h6).2⟩
      |mp l=>
       obtain⟨b,es,clock,h1,h2,h3,h4⟩:=h0
       exact⟨b,es,clock,hκi.trans h1,(rq b h1).trans h2,⟨h3.1,fun k e p h5 h6=>⟨(h3.2 k e p h5 h6).1,G.ra ((h3.2 k e p h5 h6).2.n6 (h4.2 p (List.mem_of_getElem? h6)))⟩⟩,h4⟩
      |mpl l kk v=>
       obtain⟨b,es,clock,h1,h2,h3,h4⟩:=h0
       exact⟨b,es,clock,hκi.trans h1,(rq b h1).trans h2,h3.last (fun u p hp h=>G.ra (h.n6 (h4.2 p hp))) (fun u h=>HF h),h4⟩
      |it l seen=>
       obtain⟨b,h1,h2⟩:=h0
       exact⟨b,hκi.trans h1,h2.mono G.size G.N (rq b h1)⟩
      |loop l tm ps asg body st=>
       obtain⟨b,lr,h1,h2,h3⟩:=h0
       exact⟨b,lr,hκi.trans h1,(rq b h1).trans h2,h3⟩
    inj:=fun i j b h1 h2 h3 h4=>by
     by_cases hi:(aG objs0 i).isSome=true
     ·rw[(cZ i hi).2.2] at h3
      by_cases hj:(aG objs0 j).isSome=true
      ·rw[(cZ j hj).2.2] at h4
       exact r1.inj i j b (cZ i hi).2.1 (cZ j hj).2.1 h3 h4
      ·rw[(fA j hj).2] at h4
       obtain⟨k1,k2⟩:=hold j b hj (gY j hj h2) h4
       exact absurd h3 ((uF b k1 k2).2 i (cZ i hi).2.1)
     ·rw[(fA i hi).2] at h3
      by_cases hj:(aG objs0 j).isSome=true
      ·rw[(cZ j hj).2.2] at h4
       obtain⟨k1,k2⟩:=hold i b hi (gY i hi h1) h3
       exact absurd h4 ((uF b k1 k2).2 j (cZ j hj).2.1)
      ·rw[(fA j hj).2] at h4
       exact r0.inj i j b (gY i hi h1) (gY j hj h2) h3 h4
    lo:=fun i b h1 h2=>by
     by_cases hi:(aG objs0 i).isSome=true
     ·rw[(cZ i hi).2.2] at h2
      exact r1.lo i b (cZ i hi).2.1 h2
     ·rw[(fA i hi).2] at h2
      have:=r0.lo i b (gY i hi h1) h2
      exact⟨this.1,Nat.lt_of_lt_of_le this.2 iK⟩
    nx:=fun i h=>by
     by_cases hi:(aG objs0 i).isSome=true
     ·exact r0.nx i (GQ i hi)
     ·exact r0.nx i (gY i hi h)
    wt:=fun k hk=>by rw[dg] at hk;cases hk
    below:=r0.below.trans r1.below
    hB:=r1.hB
    N0:=r0.N0
    fr:=by
     refine⟨fun b hb=>?_,fun i b hb=>?_⟩
     ·obtain⟨h1,h2,h3⟩:=r0.fr.1 b hb
      have aP:=r0.fr.tu hb
      have h4:=uF b aP fun i hi=>⟨h3 i (gk i hi),fun e=>(r0.fr.2 i b e).2.2.1 hb⟩
      refine⟨h1,h4.1.trans h2,fun i hi e=>?_⟩
      by_cases GU:(aG objs0 i).isSome=true
      ·rw[(cZ i GU).2.2] at e
       exact h4.2 i (cZ i GU).2.1 e
      ·rw[(fA i GU).2] at e
       exact h3 i (gY i GU hi) e
     ·rcases hXF i b hb with ⟨hi,hF⟩|⟨hi,hF⟩
      ·obtain⟨k1,k2,k3,k4,k5⟩:=r1.fr.2 i b hF
       refine⟨⟨k1.1,fun k hk=>by rw[dg] at hk;cases hk⟩,k2,fun hf=>?_,fun j hj e=>?_,fun j hj=>?_⟩
       ·exact k3 ⟨r0.fr.tu hf,fun j hj=>⟨(r0.fr.1 b hf).2.2 j (gk j hj),fun e=>(r0.fr.2 j b e).2.2.1 hf⟩⟩
       ·by_cases Am:(aG objs0 j).isSome=true
        ·rw[(cZ j Am).2.2] at e
         exact k4 j (cZ j Am).2.1 e
        ·rw[(fA j Am).2] at e
         exact k3 (hold j b Am (gY j Am hj) e)
       ·rcases hXF j b hj with ⟨_,hj⟩|⟨Am,hj⟩
        ·exact k5 j hj
        ·exact absurd (hFo j b Am hj) k3
      ·obtain⟨k1,k2,k3,k4,k5⟩:=r0.fr.2 i b hF
       refine⟨k1,Nat.lt_of_lt_of_le k2 iK,k3,fun j hj e=>?_,fun j hj=>?_⟩
       ·by_cases Am:(aG objs0 j).isSome=true
        ·rw[(cZ j Am).2.2] at e
         exact(uF b (hFo i b hi hF).1 (hFo i b hi hF).2).2 j (cZ j Am).2.1 e
        ·rw[(fA j Am).2] at e
         exact k4 j (gY j Am hj) e
       ·rcases hXF j b hj with ⟨_,hj⟩|⟨_,hj⟩
        ·exact absurd hj (hfF b (hFo i b hi hF).1 (hFo i b hi hF).2 j)
        ·exact k5 j hj
    mkf:=r0.mkf}
  cases e with
  |returned v=>exact hK' _ _ (hKr _ _ _ _ v hR hE fun r Rp hr=>RA.to (C:=(XS objs1 n0).cx g' κ') (C':=(δ.cq objs0 objs1).cx g (κX objs0 κ κ')) rfl hN2 Jd Kt Rp hr)
  |panicked ch=>
           rcases hKp _ _ ch hE with h|h;·exact Dy h hR
           ·exact⟨_,_,h,hR⟩
  |outgrown=>exact absurd hE (gB _ _)
theorem aa.Gt {T:World→Prop} {y:Operand} {f:FuncId} {xs:List Operand} {tys:Array TypeId} {first cap args:List AV} {r:AV} {n0:Nat} {objs0 objs1:List (Nat×Option Ob)} (dg:g.wt=none) (hTB:TB T g) (hf:E6 T P f n0 objs0 args objs1 r) (hy:δ.ev y=.clo (.func f) first cap) (e8:aK y=true) (l9:xs.all aK=true)
  (eE:uS δ objs0) (b9:n_ (XS objs0 n0).kK (XS objs0 n0).kE (first++xs.map δ.ev++cap) args) (hk:eu objs0 objs1=true) (hn0:mF n0 objs0=true) (mg:gr (XS objs0 n0).kK (XS objs0 n0).kE objs0)
  (jl:gr (XS objs1 n0).kK (XS objs1 n0).kE objs1) (hr:r.ids (XS objs1 n0).kK (XS objs1 n0).kE=true) (hd:bk δ.n dst=true)
  (hK:aa .plain P g ops rest Q ((δ.cq objs0 objs1).au dst r)):
  aa .plain P g ops (⟨dst,.call {callee:=.value y,args:=xs.toArray,argTypes:=tys},ty,pos,af,none⟩::rest) Q δ:=
 pH dg hTB hf hy e8 l9 eE b9 (fun _=>hk) hn0 mg (fun _=>jl) (fun _ κ a w' C v hR hE oo=>by
  obtain⟨u,he,hu⟩:=hE
  cases he
  exact hK _ _ _ (hR.au (aU hd) (oo r hu hr))) (fun _ C w' ch hE=>by obtain⟨u,he,_⟩:=hE;cases he) (fun _ C w' hE=>by obtain⟨u,he,_⟩:=hE;cases he)
theorem aa.JU {y:Operand} {f:FuncId} {xs:List Operand} {tys:Array TypeId} {first cap args:List AV} {r:AV} {n0:Nat} {objs0 objs1:List (Nat×Option Ob)} (dg:g.wt=none) (hf:jf P f n0 objs0 args objs1 r) (hy:δ.ev y=.clo (.func f) first cap) (e8:aK y=true) (l9:xs.all aK=true)
  (eE:uS δ objs0) (b9:n_ (XS objs0 n0).kK (XS objs0 n0).kE (first++xs.map δ.ev++cap) args) (hk:eu objs0 objs1=true) (hn0:mF n0 objs0=true) (mg:gr (XS objs0 n0).kK (XS objs0 n0).kE objs0)
  (jl:gr (XS objs1 n0).kK (XS objs1 n0).kE objs1) (hr:r.ids (XS objs1 n0).kK (XS objs1 n0).kE=true) (hd:bk δ.n dst=true)
  (hK:aa .plain P g ops rest Q ((δ.cq objs0 objs1).au dst r)):
  aa .plain P g ops (⟨dst,.call {callee:=.value y,args:=xs.toArray,argTypes:=tys},ty,pos,af,none⟩::rest) Q δ:=aa.Gt dg (fun _ _=>trivial) hf hy e8 l9 eE b9 hk hn0 mg jl hr hd hK
end Go.Ab
namespace Go.Ab
open Go Go.RowKit
variable {P:Program} {g:ar} {δ:DS}
theorem c7 {rs:List ResultVar} {objs0 objs1:List (Nat×Option Ob)} {r v:AV} (h:bD P δ rs v) (hw:vW δ (XF δ objs0 objs1) [v,δ.get 1000] [r,.agg (bS objs0)]) (ho:iU δ (XF δ objs0 objs1) objs1) (hx:mF δ.nx objs1=true):fm P rs objs0 objs1 r .ret δ:=⟨v,h,hw.1,hw.2.1,ho,hx⟩
theorem iL {rs:List ResultVar} {objs0 objs1:List (Nat×Option Ob)} {r v:AV} (h:bD P δ rs v) (hw:vW δ (XF δ objs0 objs1) [v,δ.get 1000] [r,.agg (bS objs0)]) (ho:iU δ (XF δ objs0 objs1) objs1) (hx:mF δ.nx objs1=true):fm P rs objs0 objs1 r .normal δ:=⟨v,h,hw.1,hw.2.1,ho,hx⟩
namespace Nf
variable {n x i:Nat} {e:List (Nat×AV)} {o l0 l1 l:List (Nat×Option Ob)} {rs:List Nat}
def Im (rs:List Nat):List (Nat×AV)→List (Nat×AV)
 |[]=>[]
 |(i,v)::r=>(i,v.cF rs)::Im rs r
def pP (rs:List Nat):List (Nat×Option Ob)→List (Nat×Option Ob)
 |[]=>[]
 |(i,o)::r=>(i,o.map (Ob.pM (AV.cF rs)))::pP rs r
def BL (rs:List Nat):List AV→List AV
 |[]=>[]
 |v::r=>v.cF rs::BL rs r
theorem C4:∀e:List (Nat×AV),e.map (fun p=>(p.1,p.2.cF rs))=Im rs e
 |[]=>rfl
 |(i,v)::r=>by rw[List.map_cons,C4 r];rfl
theorem AZ:∀o:List (Nat×Option Ob),o.map (fun p=>(p.1,p.2.map (Ob.pM (AV.cF rs))))=pP rs o
 |[]=>rfl
 |(i,v)::r=>by rw[List.map_cons,AZ r];rfl
theorem o7:∀l:List AV,AV.xd (j7 rs) l=BL rs l
 |[]=>rfl
 |v::r=>by rw[AV.xd,o7 r];rfl
theorem E2 (l:List AV):l.map (AV.cF rs)=BL rs l:=by
 induction l with
 |nil=>rfl
 |cons v r ih=>rw[List.map_cons,ih];rfl
theorem af:DS.cq ⟨n,e,o,x⟩ l0 l1=⟨n,Im (dc l0) e,l1++pP (dc l0) o,x⟩:=by
 show(⟨n,e.map (fun p=>(p.1,p.2.cF (dc l0))),l1++o.map (fun p=>(p.1,p.2.map (Ob.pM (AV.cF (dc l0))))),x⟩:DS)=_
 rw[C4,AZ]
theorem Ov:Im rs []=[]:=rfl
theorem Of (i:Nat) (v:AV) (r:List (Nat×AV)):Im rs ((i,v)::r)=(i,v.cF rs)::Im rs r:=rfl
theorem N7:pP rs []=[]:=rfl
theorem Ot (i:Nat) (r:List (Nat×Option Ob)):pP rs ((i,none)::r)=(i,none)::pP rs r:=rfl
theorem xor (i:Nat) (r:List (Nat×Option Ob)):pP rs ((i,some .row)::r)=(i,some .row)::pP rs r:=rfl
theorem Og (i:Nat) (cs:List AV) (r:List (Nat×Option Ob)):pP rs ((i,some (.box cs))::r)=(i,some (.box (BL rs cs)))::pP rs r:=by
 show(i,some (Ob.box (cs.map (AV.cF rs))))::pP rs r=_
 rw[E2]
theorem Qw (i:Nat) (T:TypeId) (vs:Array Value) (r:List (Nat×Option Ob)):pP rs ((i,some (.lit T vs))::r)=(i,some (.lit T vs))::pP rs r:=rfl
theorem OK (i:Nat) (l:List (Value×AV)) (r:List (Nat×Option Ob)):pP rs ((i,some (.mp l))::r)=(i,some (.mp l))::pP rs r:=rfl
theorem Ow (i:Nat) (l:List (Value×PV)) (s:List Nat) (r:List (Nat×Option Ob)):pP rs ((i,some (.it l s))::r)=(i,some (.it l s))::pP rs r:=rfl
theorem OM (i:Nat) (l:List (Value×AV)) (k:Value) (v:AV) (r:List (Nat×Option Ob)):pP rs ((i,some (.mpl l k v))::r)=(i,some (.mpl l k (v.cF rs)))::pP rs r:=rfl
theorem Q_ (i:Nat) (e:TypeId) (p:Nat→Value×List Value) (r:List (Nat×Option Ob)):pP rs ((i,some (.pool e p))::r)=(i,some (.pool e p))::pP rs r:=rfl
theorem N2 (i m:Nat) (tm:Array Value) (ps:Array Tmp) (a b:Code) (st:oh) (r:List (Nat×Option Ob)):pP rs ((i,some (.loop m tm ps a b st))::r)=(i,some (.loop m tm ps a b st))::pP rs r:=rfl
theorem Oo:BL rs []=[]:=rfl
theorem OQ (v:AV) (r:List AV):BL rs (v::r)=v.cF rs::BL rs r:=rfl
theorem Ay:AV.cF rs .any=.any:=rfl
theorem F1 (p:PV):AV.cF rs (.pv p)=.pv p:=rfl
theorem Bt (j k:Nat):AV.cF rs (.ptr j k)=.ptr j k:=rfl
theorem x9 (c:List PV):AV.cF rs (.rptr c)=.rptr c:=rfl
theorem xu (j:Nat):AV.cF rs (.mapr j)=.mapr j:=rfl
theorem B4 (j:Nat):AV.cF rs (.yld j)=.yld j:=rfl
theorem BI (j:Nat) (t:TypeId) (k:Nat) (els:List (List PV)):AV.cF rs (.own j t k els)=bif iT j rs then .any else .own j t k els:=rfl
theorem xx (j:Nat) (t:TypeId) (k:Nat) (els:List (List PV)) (m:Nat):AV.cF rs (.optr j t k els m)=bif iT j rs then .any else .optr j t k els m:=rfl
theorem Ce (cs:List AV):AV.cF rs (.agg cs)=.agg (BL rs cs):=by show AV.agg (AV.xd (j7 rs) cs)=_;rw[o7]
theorem B9 (cs:List AV):AV.cF rs (.tup cs)=.tup (BL rs cs):=by show AV.tup (AV.xd (j7 rs) cs)=_;rw[o7]
theorem CQ (fn:Go.Fn) (cs ds:List AV):AV.cF rs (.clo fn cs ds)=.clo fn (BL rs cs) (BL rs ds):=by show AV.clo fn (AV.xd (j7 rs) cs) (AV.xd (j7 rs) ds)=_;rw[o7,o7]
theorem OL:dc []=[]:=rfl
theorem ON (i:Nat) (r:List (Nat×Option Ob)):dc ((i,some .row)::r)=i::dc r:=rfl
theorem Ou (i:Nat) (c:List AV) (r:List (Nat×Option Ob)):dc ((i,some (.box c))::r)=dc r:=rfl
theorem Pd (i:Nat) (T:TypeId) (vs:Array Value) (r:List (Nat×Option Ob)):dc ((i,some (.lit T vs))::r)=dc r:=rfl
theorem P1 (i:Nat) (e:TypeId) (p:Nat→Value×List Value) (r:List (Nat×Option Ob)):dc ((i,some (.pool e p))::r)=dc r:=rfl
theorem OT (i:Nat) (c:List (Value×AV)) (r:List (Nat×Option Ob)):dc ((i,some (.mp c))::r)=dc r:=rfl
theorem Rc:bS []=[]:=rfl
theorem QA (i:Nat) (r:List (Nat×Option Ob)):bS ((i,some .row)::r)=bS r:=rfl
theorem Qf (i:Nat) (c:List AV) (r:List (Nat×Option Ob)):bS ((i,some (.box c))::r)=.ptr i 0::bS r:=rfl
theorem Pt (i:Nat) (T:TypeId) (vs:Array Value) (r:List (Nat×Option Ob)):bS ((i,some (.lit T vs))::r)=.ptr i 0::bS r:=rfl
theorem Pz (i:Nat) (e:TypeId) (p:Nat→Value×List Value) (r:List (Nat×Option Ob)):bS ((i,some (.pool e p))::r)=bS r:=rfl
theorem PB (i:Nat) (c:List (Value×AV)) (r:List (Nat×Option Ob)):bS ((i,some (.mp c))::r)=.mapr i::bS r:=rfl
theorem cn {α:Type} (a:α) (r s:List α):(a::r)++s=a::(r++s):=rfl
theorem nn {α:Type} (s:List α):[]++s=s:=rfl
end Nf
end Go.Ab
/- Short names of the rules that a walk takes most often;what is plain is filled in. -/
namespace Go.Ab
open Go Go.RowKit
variable {P:Program} {g:ar} {δ:DS} {q:Md} {ops:Array Oper} {rest:List Oper} {Q:Exit→DS→Prop} {dst:Option Nat} {ty:TypeId} {pos:String} {af:Array Edge}
theorem nz {A:DS→Prop} {δ δ':DS} (h:A δ') (e:δ=δ':=by conv=>lhs;simp only[Nf.all,Nat.reduceBEq,Nat.reduceAdd,Nat.reduceSub]):A δ:=e▸h
theorem zm {x:Operand} {p:PV} (hK:aa q P g ops rest Q (δ.au dst (.pv p))) (hx:δ.ev x=.pv p:=by exact rfl) (ho:aK x=true:=by exact rfl) (hd:bk δ.n dst=true:=by exact rfl):aa q P g ops (⟨dst,.move x,ty,pos,af,none⟩::rest) Q δ:=aa.cK hx ho hd hK
theorem za {x:Operand} {p:PV} (hK:aa q P g ops rest Q (δ.au dst (.pv p))) (hx:δ.ev x=.pv p:=by exact rfl) (ho:aK x=true:=by exact rfl) (hd:bk δ.n dst=true:=by exact rfl):aa q P g ops (⟨dst,.assign x,ty,pos,af,none⟩::rest) Q δ:=aa.yq hx ho hd hK
theorem zl {op:Op} {gj d:Nat} {want b:Bool} {o':Oper} (hy:aa q P g ops (⟨dst,op,ty,pos,af,none⟩::rest) Q δ) (ho:ops[gj]? =some o':=by exact rfl) (hd:o'.dst=some d:=by exact rfl) (hd0:Nat.blt d HS=true:=by exact rfl) (pQ:Nat.blt d δ.n=true:=by exact rfl) (hb:δ.get d=aM b:=by exact rfl) (tX:b=want:=by exact rfl) (qo:bk δ.n dst=true:=by exact rfl):
  aa q P g ops (⟨dst,op,ty,pos,af,some (gj,want)⟩::rest) Q δ:=aa.uz ho hd hd0 pQ hb tX qo hy
theorem zy {op:Op} {gj d:Nat} {o':Oper} {p:Prop} {_:Decidable p} (hy:aa q P g ops (⟨dst,op,ty,pos,af,none⟩::rest) Q δ) (ho:ops[gj]? =some o':=by exact rfl) (hd:o'.dst=some d:=by exact rfl) (hd0:Nat.blt d HS=true:=by exact rfl) (pQ:Nat.blt d δ.n=true:=by exact rfl) (hb:δ.get d=aM (decide p):=by exact rfl) (qo:bk δ.n dst=true:=by exact rfl) (hp:¬p:=by first|(with_reducible assumption)|omega|decide):
  aa q P g ops (⟨dst,op,ty,pos,af,some (gj,false)⟩::rest) Q δ:=aa.Ea ho hd hb hd0 pQ qo hp hy
theorem zt {op:Op} {gj d:Nat} {o':Oper} {p:Prop} {_:Decidable p} (hy:aa q P g ops (⟨dst,op,ty,pos,af,none⟩::rest) Q δ) (ho:ops[gj]? =some o':=by exact rfl) (hd:o'.dst=some d:=by exact rfl) (hd0:Nat.blt d HS=true:=by exact rfl) (pQ:Nat.blt d δ.n=true:=by exact rfl) (hb:δ.get d=aM (decide p):=by exact rfl) (qo:bk δ.n dst=true:=by exact rfl) (hp:p:=by first|(with_reducible assumption)|omega|decide):
  aa q P g ops (⟨dst,op,ty,pos,af,some (gj,true)⟩::rest) Q δ:=aa.E1 ho hd hb hd0 pQ qo hp hy
theorem zb {x:Operand} {t:TypeId} {i off:Nat} {cells:List AV} {v:AV} (hK:aa q P g ops rest Q (δ.au dst v)) (hx:δ.ev x=.ptr i off:=by exact rfl) (hb:δ.ob i=some (.box cells):=by exact rfl) (hv:cells[off]? =some v:=by exact rfl) (ht:eb P t=true:=by exact rfl) (ho:aK x=true:=by exact rfl) (hd:bk δ.n dst=true:=by exact rfl):
  aa q P g ops (⟨dst,.load t x,ty,pos,af,none⟩::rest) Q δ:=aa.Fk hx hb hv ht ho hd hK
theorem zn {α:Type} {x:Operand} {t e:TypeId} {k:Nat} {f:α→List PV} {l:List α} (hK:aa q P g ops rest Q (δ.au dst (aw (l.length:Nat)))) (hx:δ.ev x=.pv (.slice k (l.map f)):=by exact rfl) (ht:P.underlying t=some (.slice e):=by exact rfl) (ho:aK x=true:=by exact rfl) (hd:bk δ.n dst=true:=by exact rfl):
  aa q P g ops (⟨dst,.call {callee:=.builtin .len,args:= #[x],argTypes:= #[t]},ty,pos,af,none⟩::rest) Q δ:=aa.d_ hx ht ho hd hK
theorem zs {x y:Operand} {t t':TypeId} {m n:Int} (hK:aa q P g ops rest Q (δ.au dst (aM (decide (m<n))))) (hx:δ.ev x=aw m:=by exact rfl) (hy:δ.ev y=aw n:=by exact rfl) (ho:aK x=true:=by exact rfl) (ho':aK y=true:=by exact rfl) (hd:bk δ.n dst=true:=by exact rfl):
  aa q P g ops (⟨dst,.binOp .lss t x y t',ty,pos,af,none⟩::rest) Q δ:=aa.lss hx hy ho ho' hd hK
set_option linter.defProp false in
abbrev zd:= @aa.Nq
set_option linter.defProp false in
abbrev zq:= @AW.Nr
set_option linter.defProp false in
abbrev zo:= @AW.seq
theorem zc {c:Operand} {x y:Code} {p:Prop} {_:Decidable p} (h1:AW P g x Q δ) (ho:aK c=true:=by exact rfl) (hc:δ.ev c=aM (decide p):=by exact rfl) (hp:p:=by first|(with_reducible assumption)|omega|decide):AW P g (.cond c x y) Q δ:=AW.Ji ho hc hp h1
theorem zk {c:Operand} {x y:Code} {p:Prop} {_:Decidable p} (h1:AW P g y Q δ) (ho:aK c=true:=by exact rfl) (hc:δ.ev c=aM (decide p):=by exact rfl) (hp:¬p:=by first|(with_reducible assumption)|omega|decide):AW P g (.cond c x y) Q δ:=AW.J7 ho hc hp h1
theorem zr {x:Operand} {t:TypeId} {p:PV} (hK:aa q P g ops rest Q (δ.au dst (.pv p))) (hx:δ.ev x=.rptr [p]:=by exact rfl) (ht:eb P t=true:=by exact rfl) (ho:aK x=true:=by exact rfl) (hd:bk δ.n dst=true:=by exact rfl):aa q P g ops (⟨dst,.load t x,ty,pos,af,none⟩::rest) Q δ:=aa.D1 hx ht ho hd hK
theorem zA {f:FuncId} {xs:List Operand} {tys:Array TypeId} {args:List AV} {r:AV} (hf:Fn P f args r) (hK:aa q P g ops rest Q (δ.au dst r)) (b9:kT true δ xs args:=by repeat (first|exact .nil|(refine .cons rfl ?_ ?_;(first|exact .pv _|exact .own _ _ _ _ rfl|exact .nil _|exact .any _|exact .rptr _|(refine .uJ ?_;repeat (first|exact .nil|(refine .cons ?_ ?_;(first|exact .pv _|exact .own _ _ _ _ rfl|exact .nil _)))))))) (py:r.rm=true:=by exact rfl) (hd:bk δ.n dst=true:=by exact rfl) (hq:q≠ .held:=by exact(fun h_=>by cases h_)):
  aa q P g ops (⟨dst,.call {callee:=.value (.func f),args:=xs.toArray,argTypes:=tys},ty,pos,af,none⟩::rest) Q δ:=aa.call hf b9 py hd hq hK
theorem zP {f:FuncId} {xs:List Operand} {tys:Array TypeId} {args:List AV} {r:AV} (hf:Fn P f args r) (hK:aa .plain P g ops rest Q (δ.au dst r)) (b9:kT false δ xs args:=by repeat (first|exact .nil|(refine .cons rfl ?_ ?_;(first|exact .pv _|exact .own _ _ _ _ rfl|exact .nil _|exact .any _|exact .rptr _|(refine .uJ ?_;repeat (first|exact .nil|(refine .cons ?_ ?_;(first|exact .pv _|exact .own _ _ _ _ rfl|exact .nil _)))))))) (hd:bk δ.n dst=true:=by exact rfl):
  aa .plain P g ops (⟨dst,.call {callee:=.value (.func f),args:=xs.toArray,argTypes:=tys},ty,pos,af,none⟩::rest) Q δ:=aa.FO hf b9 hd hK
theorem zX {y:Operand} {f:FuncId} {xs:List Operand} {tys:Array TypeId} {first cap args:List AV} {r:AV} {n0:Nat} {objs0 objs1:List (Nat×Option Ob)} (hf:jf P f n0 objs0 args objs1 r) (hK:aa .plain P g ops rest Q ((δ.cq objs0 objs1).au dst r)) (dg:g.wt=none:=by with_reducible assumption) (hy:δ.ev y=.clo (.func f) first cap:=by exact rfl) (e8:aK y=true:=by exact rfl) (l9:xs.all aK=true:=by exact rfl)
  (eE:uS δ objs0:=by repeat (first|exact trivial|refine⟨rfl,?_⟩)) (b9:n_ (XS objs0 n0).kK (XS objs0 n0).kE (first++xs.map δ.ev++cap) args:=by repeat (first|exact .nil|(refine .cons ?_ ?_;(first|exact .eq rfl rfl|exact .nil _|exact .any _)))) (hk:eu objs0 objs1=true:=by exact rfl) (hn0:mF n0 objs0=true:=by exact rfl) (mg:gr (XS objs0 n0).kK (XS objs0 n0).kE objs0:=by repeat (first|exact trivial|refine⟨rfl,?_⟩|refine⟨aI,?_⟩))
  (jl:gr (XS objs1 n0).kK (XS objs1 n0).kE objs1:=by repeat (first|exact trivial|refine⟨rfl,?_⟩|refine⟨aI,?_⟩)) (hr:r.ids (XS objs1 n0).kK (XS objs1 n0).kE=true:=by exact rfl) (hd:bk δ.n dst=true:=by exact rfl):
  aa .plain P g ops (⟨dst,.call {callee:=.value y,args:=xs.toArray,argTypes:=tys},ty,pos,af,none⟩::rest) Q δ:=aa.JU dg hf hy e8 l9 eE b9 hk hn0 mg jl hr hd hK
theorem nx {A:DS→Prop} {δ δ':DS} (h:A δ') (e:δ=δ':=by conv=>lhs;simp only[Nf.af,Nf.Ov,Nf.Of,Nf.N7,Nf.Ot,Nf.xor,Nf.Og,Nf.OK,Nf.Ow,Nf.OM,Nf.N2,Nf.Oo,Nf.OQ,Nf.Ay,Nf.F1,Nf.Bt,Nf.x9,Nf.xu,Nf.B4,Nf.BI,Nf.xx,Nf.Ce,Nf.B9,Nf.CQ,Nf.OL,Nf.ON,Nf.Ou,Nf.OT,Nf.cn,Nf.nn,Cj,tM,Nat.reduceBEq,cond_true,cond_false]):A δ:=e▸h
theorem zB {x y:Operand} {t:TypeId} {i:Nat} {cells cs:List AV} (hK:aa .plain P g ops rest Q ((δ.bx i (some (.box cs))).au dst .any)) (hx:δ.ev x=.ptr i 0:=by exact rfl) (hy:δ.ev y=.agg cs:=by exact rfl) (hb:δ.ob i=some (.box cells):=by exact rfl) (hlen:cells.length=cs.length:=by exact rfl) (ht:(P.info? t).map (·.size)=some cs.length:=by exact rfl) (h1:AV.gx cs=true:=by exact rfl) (ho:aK x=true:=by exact rfl) (ho':aK y=true:=by exact rfl) (hd:bk δ.n dst=true:=by exact rfl) (dg:g.wt=none:=by with_reducible assumption):
  aa .plain P g ops (⟨dst,.store t x y,ty,pos,af,none⟩::rest) Q δ:=aa.pR hx hy hb hlen ht h1 ho ho' hd dg hK
theorem zL {x:Operand} {t:TypeId} {i:Nat} {cells:List AV} (hK:aa q P g ops rest Q (δ.au dst (.agg cells))) (hx:δ.ev x=.ptr i 0:=by exact rfl) (hb:δ.ob i=some (.box cells):=by exact rfl) (ht:sF P t cells.length=true:=by exact rfl) (ho:aK x=true:=by exact rfl) (hd:bk δ.n dst=true:=by exact rfl):
  aa q P g ops (⟨dst,.load t x,ty,pos,af,none⟩::rest) Q δ:=aa.yG hx hb ht ho hd hK
theorem zj {x y:Operand} {t t':TypeId} {m n:Int} (hK:aa q P g ops rest Q (δ.au dst (aw (m+n)))) (hx:δ.ev x=aw m:=by exact rfl) (hy:δ.ev y=aw n:=by exact rfl) (ho:aK x=true:=by exact rfl) (ho':aK y=true:=by exact rfl) (hd:bk δ.n dst=true:=by exact rfl) (hb: -9223372036854775808≤m+n∧m+n≤9223372036854775807:=by omega):
  aa q P g ops (⟨dst,.binOp .add t x y t',ty,pos,af,none⟩::rest) Q δ:=aa.add hx hy ho ho' hd hb hK
theorem zF {x y z:Operand} {p:Prop} {_:Decidable p} {v:PV} (hK:aa q P g ops rest Q (δ.au dst (.pv v))) (hx:δ.ev x=aM (decide p):=by exact rfl) (hz:δ.ev z=.pv v:=by exact rfl) (hp:¬p:=by first|(with_reducible assumption)|omega|decide) (ho:aK x=true:=by exact rfl) (e8:aK y=true:=by exact rfl) (lA:aK z=true:=by exact rfl) (hd:bk δ.n dst=true:=by exact rfl):
  aa q P g ops (⟨dst,.pick x y z,ty,pos,af,none⟩::rest) Q δ:=aa.BU hx hz hp ho e8 lA hd hK
theorem zT {x y z:Operand} {p:Prop} {_:Decidable p} {v:PV} (hK:aa q P g ops rest Q (δ.au dst (.pv v))) (hx:δ.ev x=aM (decide p):=by exact rfl) (hy:δ.ev y=.pv v:=by exact rfl) (hp:p:=by first|(with_reducible assumption)|omega|decide) (ho:aK x=true:=by exact rfl) (e8:aK y=true:=by exact rfl) (lA:aK z=true:=by exact rfl) (hd:bk δ.n dst=true:=by exact rfl):
  aa q P g ops (⟨dst,.pick x y z,ty,pos,af,none⟩::rest) Q δ:=aa.BE hx hy hp ho e8 lA hd hK
end Go.Ab
/- Maps from whole numbers to slices:elder entries told whole,the last one over a row of the walk's own. -/
namespace Go.Ab
open Go Go.RowKit
variable {q:Md} {P:Program} {g:ar} {δ:DS} {κ:Kp} {a:Act} {w:World}
variable {gd:Option (Tmp×Bool)} {ops:Array Oper} {rest:List Oper} {Q:Exit→DS→Prop} {dst:Option Nat} {ty:TypeId} {pos:String} {af:Array Edge}
def rK (D:List (Int×List Int)):List (Int×AV):=D.map fun p=>(p.1,.pv (ints p.2))
theorem CB (D:List (Int×List Int)) (A B:Nat→Bool):∀p∈dY (rK D),p.2.ids A B=true:=by
 intro p hp
 simp only[dY,rK,List.map_map,List.mem_map] at hp
 obtain⟨x,_,rfl⟩:=hp
 rfl
theorem WO.J_ {δ δ':DS} {i:Nat} (h:δ.ob i=some (.mp (dY []))):WO δ δ' i (.mp (dY (rK []))):=.mp h (fun p hp=>by simp [dY,rK] at hp)
theorem WO.rows {δ δ':DS} {i:Nat} {D:List (Int×List Int)} (h:δ.ob i=some (.mp (dY (rK D)))):WO δ δ' i (.mp (dY (rK D))):=.mp h (CB D _ _)
theorem jT.sw (i j:Nat) {δ δ':DS} (dg:g.wt=none) (hi:Nat.blt i δ.nx=true) (hj:Nat.blt j δ.nx=true) (h:jT g (δ.sw i j) δ'):jT g δ δ':=
 fun _ a w r=>h _ a w (r.sw i j (by simpa using hi) (by simpa using hj) (fun k hk=>by rw[dg] at hk;cases hk))
theorem AW.DN (i:Nat) {c:Code} (hi:δ.ob i=some .row) (hK:AW P g c Q (j5 δ i)):AW P g c Q δ:=by
 intro κ a w r
 obtain⟨κ',r'⟩:=r.freeze hi
 exact hK κ' a w r'
section
variable {k:Wt} {late:List Nat} {l:List Oper} {dn:List Nat} {QD:Exit→DS→Prop}
end
end Go.Ab
/- v,is:=m[k] over a map whose entries are told one by one. -/
namespace Go.Ab
open Go Go.RowKit
variable {q:Md} {P:Program} {g:ar} {δ:DS} {ops:Array Oper} {rest:List Oper} {Q:Exit→DS→Prop} {dst:Option Nat} {ty:TypeId} {pos:String} {af:Array Edge}
abbrev tv (f:Go.Fn):AV:=.pv (.lit (.func f #[] #[]))
theorem Ke {C:Cx} {w:World} {u:Value} {f:Go.Fn} (h:RA C w u (.clo f [] [])):u=.func f #[] #[]:=by
 cases h with
 |clo hs h ht h'=>
  rename_i vs us
  have e1:vs= #[]:=Array.eq_empty_of_size_eq_zero (by simpa using hs)
  have e2:us= #[]:=Array.eq_empty_of_size_eq_zero (by simpa using ht)
  rw[e1,e2]
theorem nT:∀{l:List (Int×AV)} {j:Nat} {m:Int} {v:AV},l[j]? =some (m,v)→dQ l m≠none
 |[],j,m,v,h=>by simp at h
 |(k,u)::l,0,m,v,h=>by
  simp at h
  obtain⟨rfl,rfl⟩:=h
  simp [dQ]
 |(k,u)::l,j+1,m,v,h=>by
  unfold dQ
  split
  ·simp
  ·exact nT (by simpa using h)
theorem En {C:Cx} {w:World} {u v:Value} (h:RA C w u (.pv (.lit v))):u=v:=by
 cases h with
 |pv h=>cases h;rfl
theorem c9.tc {gd:Option (Tmp×Bool)} {x y z:Operand} {t kt et:TypeId} {i:Nat} {l:List (Int×AV)} {m:Int} {f:Go.Fn} (hx:δ.ev x=.mapr i) (dx:δ.ob i=some (.mp (dY l))) (hy:δ.ev y=aw m) (hz:δ.ev z=.clo f [] []) (ht:P.underlying t=some (.map kt et)) (hk:P.underlying kt=some (.int .i64))
  (ho:aK x=true) (ho':aK y=true) (lA:aK z=true) (hd:bk δ.n dst=true) (Ac:g.iu i) (hn:dQ l m=none):
  c9 P g ⟨dst,.insert t x y z,ty,pos,af,gd⟩ δ ((δ.bx i (some (.mp (dY (l++ [(m,tv f)]))))).au dst .any):=by
 intro κ a w r
 obtain⟨b,es,clock,h1,h2,h3,h4,h5,yT⟩:=r.Ld (r.ra hx ho) dx
 obtain⟨h6,h7⟩:=h4.dY
 have NF:RA (δ.cx g κ) w (a.eval z) (tv f):=by rw[Ke (r.ra hz lA)];exact .pv (.lit _)
 have OJ:MapKept.IsKey (.int .i64) (.int .i64 m):=by simp [MapKept.IsKey]
 have Ik:∀e,(Instr.checkKey e (9999+1) kt (.int .i64 m)).run P w=.ok () w:=fun e=>MapKept.run_checkKey hk OJ e 9999
 rcases qK m es.toList l 0 h6 h7 with ⟨h8,h9⟩|⟨j,e,u,h9,h10,h11,h12,h13⟩
 ·have aR:(execOp a.eval ⟨dst,.insert t x y z,ty,pos,af,gd⟩).run P w=.ok .skip {w with heap:=w.heap.setIfInBounds b (.map (es.push {key:=.int .i64 m,val:=a.eval z,born:=clock}) (clock+1))}:=by
   simp [execOp,r.lit hy ho',h1,Instr.mapUpdate,run_underlying ht,MapKept.run_getObj_map h3,Ik,ic hk h9,MapKept.run_setObj_map _ h3]
  obtain⟨r',G⟩:=r.modify (o':=.mp (dY (l++ [(m,tv f)]))) dx rfl rfl h2 Ac (cS.oI w b (.map (es.push {key:=.int .i64 m,val:=a.eval z,born:=clock}) (clock+1))) (by simp) (fun C hC G=>by
   have h14:gu C {w with heap:=w.heap.setIfInBounds b (.map (es.push {key:=.int .i64 m,val:=a.eval z,born:=clock}) (clock+1))} es (dY l):=h4.e7 G
   obtain⟨h15,h16⟩:=h14.push h5 m (G.ra NF)
   exact⟨b,_,_,by rw[hC];exact h2,gw h3,h15,h16,fun p hp=>by
    rw[dN] at hp
    rcases List.mem_append.1 hp with hp|hp
    ·exact yT p hp
    ·simp [dY] at hp;subst hp;rfl⟩)
  exact .inl ⟨_,_,_,_,aR,.inr ⟨rfl,rfl⟩,r'.au (aU hd) (.any _)⟩
 ·exfalso
  exact nT h11 hn
theorem aa.tc {x y z:Operand} {t kt et:TypeId} {i:Nat} {l:List (Int×AV)} {m:Int} {f:Go.Fn} (hx:δ.ev x=.mapr i) (dx:δ.ob i=some (.mp (dY l))) (hy:δ.ev y=aw m) (hz:δ.ev z=.clo f [] []) (ht:P.underlying t=some (.map kt et)) (hk:P.underlying kt=some (.int .i64))
  (ho:aK x=true) (ho':aK y=true) (lA:aK z=true) (hd:bk δ.n dst=true) (dg:g.wt=none) (hn:dQ l m=none)
  (hK:aa .plain P g ops rest Q ((δ.bx i (some (.mp (dY (l++ [(m,tv f)]))))).au dst .any)):
  aa .plain P g ops (⟨dst,.insert t x y z,ty,pos,af,none⟩::rest) Q δ:=
 aa.mI rfl rfl (c9.tc hx dx hy hz ht hk ho ho' lA hd (eA dg i) hn) hK
def so (l:List (Int×Go.Fn)):List (Int×AV):=l.map fun p=>(p.1,tv p.2)
def C2 (l:List (Int×Go.Fn)):List (Value×PV):=l.map fun p=>(.int .i64 p.1,.lit (.func p.2 #[] #[]))
theorem WV.fns {δ':DS} {i:Nat} {l:List (Int×Go.Fn)} (hb:δ.ob i=some (.mp (dY (so l)))) (hd:δ'.ob i=none):WV δ δ' (.mapr i) (.pv (.mp (C2 l))):=
 .fmap hb hd (by simp [dY,so,C2]) (fun j p p' h1 h2=>by
  simp only[dY,so,C2,List.getElem?_map,Option.map_eq_some_iff] at h1 h2
  obtain⟨a,⟨b,hb,rfl⟩,rfl⟩:=h1
  obtain⟨c,hc,rfl⟩:=h2
  obtain rfl:b=c:=Option.some.inj (hb.symm.trans hc)
  exact⟨rfl,.pv _⟩)
theorem tx {κ:Kp} {w:World} {v:Value} {l:List (Int×Go.Fn)} (h1:RA (δ.cx g κ) w v (.pv (.mp (C2 l)))):∃b es clock,v=.map (some b)∧(∀w',e9 δ κ w w'→w'.heap[b]? =some (.map es clock))∧es.toList.length=(so l).length∧
  ∀(j:Nat) (e:MapEntry) (p:Int×AV),es.toList[j]? =some e→(so l)[j]? =some p→e.key=.int .i64 p.1∧RA (δ.cx g κ) w e.val p.2:=by
 cases h1 with
 |pv h=>
  cases h with
  |mp b clock es hN hb hh hs dp hk hr=>
   refine⟨b,es,clock,rfl,fun w' hw'=>(hw' b hb ⟨fun i hi=>hN.2 i (DS.bN hi),hN.1.2⟩).trans hh,by simpa [so,C2] using hs,fun j e p h1 h2=>?_⟩
   have h1':es[j]? =some e:=by simpa using h1
   simp only[so,List.getElem?_map,Option.map_eq_some_iff] at h2
   obtain⟨a,ha,rfl⟩:=h2
   have h3:(C2 l)[j]? =some (.int .i64 a.1,.lit (.func a.2 #[] #[])):=by simp [C2,ha]
   exact⟨hk j e _ h1' h3,.pv (hr j e _ h1' h3)⟩
theorem aa.wM {x y:Operand} {t kt et:TypeId} {l:List (Int×Go.Fn)} {m:Int} {z:Value} {f:Go.Fn} (hx:δ.ev x=.pv (.mp (C2 l))) (hy:δ.ev y=aw m) (ht:P.underlying t=some (.map kt et)) (hk:P.underlying kt=some (.int .i64)) (hz:(P.info? et).bind (·.zero)=some z)
  (ho:aK x=true) (ho':aK y=true) (hd:bk δ.n dst=true) (hv:dQ (so l) m=some (tv f)) (hK:aa q P g ops rest Q (δ.au dst (.tup [.clo f [] [],aM true]))):aa q P g ops (⟨dst,.lookup t x y true,ty,pos,af,none⟩::rest) Q δ:=
 aa.dq _ hd (fun κ a w r=>by
  obtain⟨b,es,clock,h1,hb,h6,h7⟩:=tx (r.ra hx ho)
  rcases jh m es.toList (so l) 0 h6 h7 with ⟨h8,h9⟩|⟨j,e,v',h8,h9,h10,h11,h12⟩
  ·rw[hv] at h8;cases h8
  ·rw[hv] at h8;cases h8
   have he:e.val=.func f #[] #[]:=En h12
   refine⟨.tuple #[e.val,.bool true],fun w' hw'=>?_,.tup rfl (fun k u c h=>?_)⟩
   ·have:=js ht hk hz (hb w' hw') h9 true
    simp [execOp,r.lit hy ho',h1,this]
   ·intro hc
    match k with
    |0=>simp at h hc;subst h;subst hc;rw[he];exact .clo rfl (fun j u c h=>by simp at h) rfl (fun j u c h=>by simp at h)
    |1=>simp at h hc;subst h;subst hc;exact .pv (.lit _)
    |k+2=>simp at hc) hK
theorem aa.xm {x y:Operand} {t kt et:TypeId} {l:List (Int×Go.Fn)} {m:Int} {z:Value} (hx:δ.ev x=.pv (.mp (C2 l))) (hy:δ.ev y=aw m) (ht:P.underlying t=some (.map kt et)) (hk:P.underlying kt=some (.int .i64)) (hz:(P.info? et).bind (·.zero)=some z)
  (ho:aK x=true) (ho':aK y=true) (hd:bk δ.n dst=true) (hv:dQ (so l) m=none) (hK:aa q P g ops rest Q (δ.au dst (.tup [.pv (.lit z),aM false]))):aa q P g ops (⟨dst,.lookup t x y true,ty,pos,af,none⟩::rest) Q δ:=
 aa.dq _ hd (fun κ a w r=>by
  obtain⟨b,es,clock,h1,hb,h6,h7⟩:=tx (r.ra hx ho)
  rcases jh m es.toList (so l) 0 h6 h7 with ⟨h8,h9⟩|⟨j,e,v',h8,h9,h10,h11,h12⟩
  ·refine⟨.tuple #[z,.bool false],fun w' hw'=>?_,.tup rfl (fun k u c h=>?_)⟩
   ·have:=js ht hk hz (hb w' hw') h9 true
    simp [execOp,r.lit hy ho',h1,this]
   ·intro hc
    match k with
    |0=>simp at h hc;subst h;subst hc;exact .pv (.lit _)
    |1=>simp at h hc;subst h;subst hc;exact .pv (.lit _)
    |k+2=>simp at hc
  ·rw[hv] at h8;cases h8) hK
theorem AW.wB {c:Operand} {x y:Code} {b:Bool} (ho:aK c=true) (hc:δ.ev c=aM b) (hb:b=true) (h1:AW P g x Q δ):AW P g (.cond c x y) Q δ:=AW.B3 hb ho hc h1
theorem AW.r7 {c:Operand} {x y:Code} {b:Bool} (ho:aK c=true) (hc:δ.ev c=aM b) (hb:b=false) (h1:AW P g y Q δ):AW P g (.cond c x y) Q δ:=AW.Be hb ho hc h1
theorem aa.JF {f fn:FuncId} {x:Operand} {tys:Array TypeId} {v r:AV} (hf:Fn P f [v,.clo (.func fn) [] []] r) (b9:kT true δ [x] [v]) (py:r.rm=true) (hd:bk δ.n dst=true) (hq:q≠ .held)
  (hK:aa q P g ops rest Q (δ.au dst r)):aa q P g ops (⟨dst,.call {callee:=.value (.func f),args:=[x,.func fn].toArray,argTypes:=tys},ty,pos,af,none⟩::rest) Q δ:=by
 intro κ a w r0
 have hc:∀w',Below w.heap.size w w'→Calls P f ([x,.func fn].toArray.map a.eval) w' fun e w''=>e=.returned r.out∧Below w'.heap.size w' w'':=fun w' hw'=>
  (hf.calls (fun _=>True) w' _ (fun _ _=>trivial) (by simp) (fun j u av h1 h2=>by
   match j with
   |0=>exact b9.J6 (r0.ext hw') (fun _ _ _=>trivial) (fun _ _ _ _ _=>trivial) 0 u av (by simpa using h1) (by simpa using h2)
   |1=>
    simp at h1 h2
    subst h1;subst h2
    exact .clo rfl (fun j u c h=>by simp at h) rfl (fun j u c h=>by simp at h)
   |j+2=>simp at h2)).mono (by
   rintro e w'' ⟨v,rfl,hv,hb⟩
   exact⟨by rw[hv.rm (AV.j8 (C:=uC (fun _=>True)) (w:=w) py) py],hb⟩)
 have hK1:=hK κ _ _ (r0.au (aU hd) (AV.j8 py))
 cases q with
 |quiet=>
  show wpQuiet P ops _ _ (_::rest) a
  unfold wpQuiet
  rw[if_pos (by simp [Region.wanted])]
  refine⟨r.out,fun w' hw'=>?_,hK1⟩
  unfold Oper.quietAt
  rw[fg (f:=f) rfl hf.enters]
  exact⟨rfl,(hc w' hw').mono fun e w'' ⟨h1,h2⟩=>⟨h1,hw'.trans (h2.mono hw'.size)⟩⟩
 |held=>exact absurd rfl hq
 |plain=>
  show wpListIn _ _ P ops _ (_::rest) a w
  refine cr rfl rfl fun K hK'=>?_
  unfold Oper.uT
  rw[fg (f:=f) rfl hf.enters,Oper.uponIn_enter]
  refine⟨fun h=>by simp at h,(eZ (hc w (Below.refl _ _))).mono ?_⟩
  rintro e w' ⟨rfl,hb⟩
  exact hK' _ _ (hK κ _ _ ((r0.ext hb).au (aU hd) (AV.j8 py)))
end Go.Ab
/- Strings:joined,compared,measured,indexed,cut;numbers of any kind compared. -/
namespace Go.Ab
open Go Go.RowKit
variable {q:Md} {P:Program} {g:ar} {δ:DS} {κ:Kp} {a:Act} {w:World}
variable {ops:Array Oper} {rest:List Oper} {Q:Exit→DS→Prop} {dst:Option Nat} {ty:TypeId} {pos:String} {af:Array Edge}
abbrev Iz (s:ByteArray):AV:=.pv (.lit (.string s))
section strs
variable {x y:Operand} {t t':TypeId} {s u:ByteArray} (hx:δ.ev x=Iz s) (hy:δ.ev y=Iz u) (ho:aK x=true) (ho':aK y=true) (hd:bk δ.n dst=true)
include hx hy ho ho' hd
end strs
end Go.Ab
/- A struct stored into a part of a box:an element of an array,a struct's field that is a struct. -/
namespace Go.Ab
open Go Go.RowKit
inductive ov:Nat→List AV→List AV→List AV→Prop where
 |nil {l}:ov 0 [] l l
 |take {a b cs l l'}:ov 0 cs l l'→ov 0 (b::cs) (a::l) (b::l')
 |skip {k a cs l l'}:ov k cs l l'→ov (k+1) cs (a::l) (a::l')
theorem ov.spec {k:Nat} {cs l l':List AV} (h:ov k cs l l'):k+cs.length≤l.length∧l'.length=l.length∧(∀j,j<k→l'[j]? =l[j]?)∧(∀j,k≤j→j<k+cs.length→l'[j]? =cs[j - k]?)∧(∀j,k+cs.length≤j→l'[j]? =l[j]?):=by
 induction h with
 |nil=>exact⟨by simp,rfl,fun j h=>rfl,fun j h1 h2=>by simp at h2,fun j h=>rfl⟩
 |take _ ih=>
  obtain⟨h1,h2,_,h4,h5⟩:=ih
  refine⟨by simp at h1 ⊢;omega,by simp [h2],fun j h=>by omega,fun j _ h=>?_,fun j h=>?_⟩
  ·cases j with
   |zero=>rfl
   |succ j=>exact h4 j (by omega) (by simp at h ⊢;omega)
  ·cases j with
   |zero=>simp at h
   |succ j=>exact h5 j (by simp at h ⊢;omega)
 |skip _ ih=>
  obtain⟨h1,h2,h3,h4,h5⟩:=ih
  refine⟨by simp at h1 ⊢;omega,by simp [h2],fun j h=>?_,fun j h0 h=>?_,fun j h=>?_⟩
  ·cases j with
   |zero=>rfl
   |succ j=>exact h3 j (by omega)
  ·cases j with
   |zero=>omega
   |succ j=>
    rw[Nat.add_sub_add_right]
    exact h4 j (by omega) (by omega)
  ·cases j with
   |zero=>omega
   |succ j=>exact h5 j (by omega)
variable {P:Program} {g:ar} {δ:DS} {ops:Array Oper} {rest:List Oper} {Q:Exit→DS→Prop} {dst:Option Nat} {ty:TypeId} {pos:String} {af:Array Edge} {gd:Option (Tmp×Bool)}
theorem Dz {c u:List Value} {k j:Nat} (hk:k+u.length≤c.length):(c.take k++u++c.drop (k+u.length))[j]? =if j<k then c[j]? else if j<k+u.length then u[j - k]? else c[j]?:=by
 have hl:(c.take k++u).length=k+u.length:=by simp;omega
 by_cases h1:j<k
 ·rw[if_pos h1,List.getElem?_append_left (by omega),List.getElem?_append_left (by simp;omega),List.getElem?_take,if_pos h1]
 ·rw[if_neg h1]
  by_cases h2:j<k+u.length
  ·rw[if_pos h2,List.getElem?_append_left (by omega),List.getElem?_append_right (by simp;omega)]
   congr 1;simp;omega
  ·rw[if_neg h2,List.getElem?_append_right (by omega),hl,List.getElem?_drop]
   congr 1;omega
theorem c9.oY {x y:Operand} {t:TypeId} {i off:Nat} {cells cs out:List AV} (hx:δ.ev x=.ptr i off) (hy:δ.ev y=.agg cs) (hb:δ.ob i=some (.box cells)) (hp:ov off cs cells out) (ht:(P.info? t).map (·.size)=some cs.length) (h1:AV.gx cs=true) (ho:aK x=true) (ho':aK y=true) (hd:bk δ.n dst=true) (Ac:g.iu i):
  c9 P g ⟨dst,.store t x y,ty,pos,af,gd⟩ δ ((δ.bx i (some (.box out))).au dst .any):=by
 intro κ a w r
 obtain⟨b,c,e,hv,hκ,h3,h4,h5⟩:=r.box (r.ra hx ho) hb
 obtain⟨iK,jU⟩:=(r.ra hy ho').cells h1
 simp only[AV.cellsOf] at iK jU
 obtain⟨p1,p2,p3,p4,p5⟩:=hp.spec
 have ec:∀u∈(a.eval y).cells.toList,u.oneCell'=true:=by
  intro u hu
  obtain⟨j,hj⟩:=List.getElem?_of_mem hu
  have aP:j<cs.length:=by rw[← iK];have:=(List.getElem?_eq_some_iff.1 hj).1;simpa using this
  exact(jU j u _ (by simpa using hj) (List.getElem?_eq_getElem aP)).2
 have JB:(a.eval y).cells.toList.length=cs.length:=by simpa using iK
 have dp:=run_storeCells_at P b off e (a.eval y).cells.toList 0 c w h3 (by rw[JB];omega) ec
 simp only[Nat.add_zero] at dp
 obtain⟨R,hR⟩:∃R,R=(c.toList.take off++(a.eval y).cells.toList++c.toList.drop (off+(a.eval y).cells.toList.length)).toArray:=⟨_,rfl⟩
 rw[← hR] at dp
 have hRs:R.size=c.size:=by rw[hR];simp [JB];omega
 have hRg:∀j,R[j]? =if j<off then c[j]? else if j<off+cs.length then (a.eval y).cells[j - off]? else c[j]?:=fun j=>by
  rw[hR,List.getElem?_toArray,Dz (by rw[JB];simp;omega),JB]
  simp only[Array.getElem?_toList]
 have aR:(execOp a.eval ⟨dst,.store t x y,ty,pos,af,gd⟩).run P w=.ok .skip (w.setRow b R):=by
  obtain⟨i0,dA,hs0⟩:∃i0,P.info? t=some i0∧i0.size=cs.length:=by
   cases h:P.info? t with
   |none=>rw[h] at ht;simp at ht
   |some i0=>rw[h] at ht;exact⟨i0,rfl,by simpa using ht⟩
  simp [execOp,Instr.storeAt,Instr.sureAddr,storeVar,hv,iK,sizeOf,typeInfo,dA,hs0,dp]
 obtain⟨r',G⟩:=r.modify (o':=.box out) hb rfl rfl hκ Ac (cS.setRow w b R) (by simp) (fun C hCκ G=>⟨b,_,e,by rw[hCκ];exact hκ,setRow_heap w b c _ e _ h3,by rw[hRs,p2];exact h4,fun j u av h6 h7=>by
  rw[hRg] at h6
  by_cases e1:j<off
  ·rw[if_pos e1] at h6
   rw[p3 j e1] at h7
   exact⟨G.ra (h5 j u av h6 h7).1,(h5 j u av h6 h7).2⟩
  ·rw[if_neg e1] at h6
   by_cases e2:j<off+cs.length
   ·rw[if_pos e2] at h6
    rw[p4 j (by omega) e2] at h7
    exact⟨G.ra (jU (j - off) u av h6 h7).1,(jU (j - off) u av h6 h7).2⟩
   ·rw[if_neg e2] at h6
    rw[p5 j (by omega)] at h7
    exact⟨G.ra (h5 j u av h6 h7).1,(h5 j u av h6 h7).2⟩⟩)
 exact .inl ⟨_,_,_,_,aR,.inr ⟨rfl,rfl⟩,r'.au (aU hd) (.any _)⟩
theorem aa.oY {x y:Operand} {t:TypeId} {i off:Nat} {cells cs out:List AV} (hx:δ.ev x=.ptr i off) (hy:δ.ev y=.agg cs) (hb:δ.ob i=some (.box cells)) (hp:ov off cs cells out) (ht:(P.info? t).map (·.size)=some cs.length) (h1:AV.gx cs=true) (ho:aK x=true) (ho':aK y=true) (hd:bk δ.n dst=true) (dg:g.wt=none)
  (hK:aa .plain P g ops rest Q ((δ.bx i (some (.box out))).au dst .any)):aa .plain P g ops (⟨dst,.store t x y,ty,pos,af,none⟩::rest) Q δ:=aa.mI rfl rfl (c9.oY hx hy hb hp ht h1 ho ho' hd (eA dg i)) hK
end Go.Ab
/- A row's first part;append of made zeros to nothing;a capacity. -/
namespace Go.Ab
open Go Go.RowKit
variable {q:Md} {P:Program} {g:ar} {δ:DS} {κ:Kp} {a:Act} {w:World}
variable {ops:Array Oper} {rest:List Oper} {Q:Exit→DS→Prop} {dst:Option Nat} {ty:TypeId} {pos:String} {af:Array Edge} {gd:Option (Tmp×Bool)}
theorem aa.Ak {t e e':TypeId} {x y:Operand} {i k:Nat} {m:Int} {els:List (List PV)} (hx:δ.ev x=.own i e' k els) (hy:δ.ev y=aw m) (ht:P.underlying t=some (.slice e)) (hk:(P.info? e).map (·.size)=some k)
  (ho:aK x=true) (ho':aK y=true) (hd:bk δ.n dst=true) (h0:0≤m) (hm:m.toNat≤els.length) (hK:aa q P g ops rest Q (δ.au dst (.own i e' k (els.take m.toNat)))):aa q P g ops (⟨dst,.slice t x none (some y) none,ty,pos,af,none⟩::rest) Q δ:=
 aa.dq _ hd (fun κ a w r=>by
  have h1:=(r.ra hx ho).dM
  obtain⟨i0,dA,hk0⟩:∃i0,P.info? e=some i0∧i0.size=k:=by
   cases h:P.info? e with
   |none=>rw[h] at hk;simp at hk
   |some i0=>rw[h] at hk;exact⟨i0,rfl,by simpa using hk⟩
  have rN:a.eval y=.int .i64 m:=r.lit hy ho'
  obtain⟨h,rfl⟩:∃h:Nat,m=(h:Int):=⟨m.toNat,by omega⟩
  rw[Int.toNat_natCast] at hm ⊢
  obtain⟨a0,cap,hv,jz,hb⟩:∃a0 cap,a.eval x=.slice a0 els.length cap∧els.length≤cap∧dJ (δ.cx g κ) w (.slice a0 h cap) i e' k (els.take h):=by
   obtain⟨hl,gi,xR,iF,xs,⟨qz,b8⟩,h1x,Pk⟩:=h1
   have mk:∀a0 cap,(∀b,(Value.slice a0 h cap).ownBlock=some b→(δ.cx g κ).κ i=some b)→((Value.slice a0 h cap=.slice none 0 0∧h=0)∨∃g0 cap' cur,Value.slice a0 h cap=.slice (some ⟨g0,0,none⟩) h cap'∧(δ.cx g κ).B≤g0∧w.heap[g0]? =some (.cells cur e' (0,0))∧h≤cap'∧cap'≤maxLen∧cur.size=cap'*k∧cur.toList.take (h*k)=xs.take (h*k))→dJ (δ.cx g κ) w (.slice a0 h cap) i e' k (els.take h):=by
    intro a0 cap Lg o8
    have hlen:(els.take h).length=h:=by rw[List.length_take];omega
    have hmul:h*k≤els.length*k:=Nat.mul_le_mul_right k hm
    refine⟨hl,by omega,fun c hc=>xR c (List.mem_of_mem_take hc),Lg,xs.take (h*k),⟨by rw[hlen,List.length_take];omega,by rw[hlen];exact o8⟩,fun u hu=>h1x u (List.mem_of_mem_take hu),fun i' j p hp=>?_⟩
    unfold cellAt at hp
    rw[List.getElem?_take] at hp
    by_cases MP:i'<h
    ·rw[if_pos MP] at hp
     obtain⟨u,hu,hu2⟩:=Pk i' j p (by unfold cellAt;exact hp)
     refine⟨u,?_,hu2⟩
     have MH:j<k:=by
      rw[Option.bind_eq_some_iff] at hp
      obtain⟨c,hc1,hc2⟩:=hp
      have:=xR c (List.mem_of_getElem? hc1)
      have:=(List.getElem?_eq_some_iff.1 hc2).1
      omega
     have:(i'+1)*k≤h*k:=Nat.mul_le_mul_right k MP
     rw[Nat.add_mul,Nat.one_mul] at this
     rw[List.getElem?_take,if_pos (by omega)];exact hu
    ·rw[if_neg MP] at hp;simp at hp
   rcases b8 with ⟨hn,hz⟩|⟨g0,cap,cur,hv,hg,h3,hle,Da,jU,n4⟩
   ·refine⟨none,0,by rw[hn,hz],by omega,mk none 0 (fun b hb=>by cases hb) (.inl ⟨?_,by omega⟩)⟩
    rw[show h=0 by omega]
   ·refine⟨_,cap,hv,hle,mk _ cap (fun b hb=>iF b (by rw[hv];exact hb)) (.inr ⟨g0,cap,cur,rfl,hg,h3,by omega,Da,jU,?_⟩)⟩
    rw[← n4,List.take_take,Nat.min_eq_left (Nat.mul_le_mul_right k hm)]
  have aR:∀w,(execOp a.eval ⟨dst,.slice t x none (some y) none,ty,pos,af,none⟩).run P w=.ok (.value (.slice a0 h cap)) w:=by
   intro w
   have hb1:∀w,(Instr.sliceBounds true els.length cap none (some (.int .i64 (h:Int))) none).run P w=.ok (0,h,cap) w:=by
    intro w
    have e1:(0:Int)≤(h:Int)∧(h:Int)≤(cap:Int):=by omega
    simp [Instr.sliceBounds,Instr.sliceBound,asIntOf,e1]
    intro h0;exfalso;omega
   simp only[execOp,Instr.sliceAt,Instr.slice,run_underlying ht,hv,rN,Sem.run_bind,Result.andThen_ok,Option.map_none,Option.map_some,hb1,sizeOf,typeInfo,Sem.run_pure]
   cases a0 with
   |none=>simp [dA,hk0]
   |some ad=>
    simp [dA,hk0]
    intro _
    cases ad;simp [Addr.add]
  exact⟨_,fun w' _=>aR w',.own hb⟩) hK
namespace Nf
variable {n x:Nat} {e:List (Nat×AV)} {o:List (Nat×Option Ob)}
theorem Qy (d:Nat) (v:AV):DS.put ⟨n,e,o,x⟩ d v=⟨n,(d,v)::e,o,x⟩:=rfl
theorem Ra (δ:DS) (v:AV):fC δ v []=δ:=rfl
theorem PC (δ:DS) (v:AV) (t:Nat) (ts:List Nat):fC δ v (t::ts)=(fC δ v ts).put t v:=rfl
theorem O_ (i:Nat) (e:TypeId) (zs os:List Int):td i e zs os none=.tup []:=rfl
theorem P9 (i:Nat) (e:TypeId) (zs os:List Int) (r:List Int→Nat):td i e zs os (some r)=.own i e 1 ((os.take (r zs)).map nI):=rfl
set_option linter.defProp false in
def O0:=And.intro @Qy (And.intro @Ra (And.intro @PC (And.intro @O_ @P9)))
end Nf
end Go.Ab
/- Contracts of callees that return a row of their own making;the caller owns it from then on. -/
namespace Go.Ab
open Go Go.RowKit
variable {P:Program} {g:ar} {δ:DS} {κ:Kp} {a:Act} {w:World}
variable {ops:Array Oper} {rest:List Oper} {Q:Exit→DS→Prop} {dst:Option Nat} {ty:TypeId} {pos:String} {af:Array Edge}
theorem Rel.Hi (r:Rel g δ κ a w) {w':World} (hb:Below w.heap.size w w') (bo:Option Nat) (zC:∀b,bo=some b→w.heap.size≤b∧b<w'.heap.size∧∃c e,w'.heap[b]? =some (.cells c e (0,0))):
  Rel g (δ.ba .row) (cp κ δ.nx bo) a w'∧ez (δ.cx g κ) w ((δ.ba .row).cx g (cp κ δ.nx bo)) w':=by
 have hold:∀k,k<w.heap.size→w'.heap[k]? =w.heap[k]?:=hb.block
 have hY:¬δ.live δ.nx:=fun h=>Nat.lt_irrefl _ (r.nx _ h)
 have br:∀i,δ.live i→δ.nx≠i:=fun i h e=>hY (e▸h)
 have bf:∀i,(δ.ba .row).live i→i=δ.nx∨δ.live i:=by
  intro i ⟨o',h⟩
  rw[bp] at h
  by_cases e:δ.nx=i
  ·exact .inl e.symm
  ·rw[if_neg e] at h;exact .inr ⟨o',h⟩
 have G:ez (δ.cx g κ) w ((δ.ba .row).cx g (cp κ δ.nx bo)) w':=
  {B:=rfl,size:=hb.size
   N:=fun b h1 h2=>⟨⟨h2.1,fun i hi=>by
    show cp κ δ.nx bo i≠some b
    rcases bf i hi with rfl|hi
    ·simp only[cp,if_true];intro e;have:=(zC b e).1;omega
    ·simp only[cp,br i hi,if_false];exact h2.2 i hi⟩,hold b h1⟩
   Lr:=fun i hi=>by
    have hi':=br i (DS.bN hi)
    refine⟨?_,by show cp _ _ _ i=κ i;simp [cp,hi'],fun b hκ=>hold b (r.lo i b (DS.bN hi) hκ).2⟩
    show(δ.ba .row).ob i=_
    rw[bp,if_neg hi'];exact hi
   Lb:=fun i hi=>by
    have hi':=br i (DS.fU hi)
    refine⟨?_,by show cp _ _ _ i=κ i;simp [cp,hi']⟩
    obtain⟨o',h1,h2⟩:=hi
    exact⟨o',by rw[bp,if_neg hi'];exact h1,h2⟩}
 refine⟨?_,G⟩
 exact
  {n:=r.n,dfr:=r.dfr.e7 fun k _ hk=>hold k (cW hk),env:=fun j=>G.ra (r.env j)
   obj:=fun i o' h=>by
    rw[bp] at h
    by_cases e:δ.nx=i
    ·rw[if_pos e] at h;cases h;subst e
     intro b hκ
     have hκ':bo=some b:=by
      have:cp κ δ.nx bo δ.nx=some b:=hκ
      simpa [cp] using this
     exact(zC b hκ').2.2
    ·rw[if_neg e] at h
     exact(r.obj i o' h).e7 G (by show cp _ _ _ i=κ i;simp [cp,e]) (fun b hκ=>hold b (r.lo i b ⟨o',h⟩ hκ).2) (fun b hF aP=>⟨hF,hold b aP⟩)
   inj:=fun i j b h1 h2 h3 h4=>by
    rcases bf i h1 with rfl|h1
    ·rcases bf j h2 with rfl|h2
     ·rfl
     ·simp only[cp,if_true] at h3
      simp only[cp,br j h2,if_false] at h4
      exact absurd (r.lo j _ h2 h4).2 (by have:=(zC b h3).1;omega)
    ·rcases bf j h2 with rfl|h2
     ·simp only[cp,if_true] at h4
      simp only[cp,br i h1,if_false] at h3
      exact absurd (r.lo i _ h1 h3).2 (by have:=(zC b h4).1;omega)
     ·simp only[cp,br i h1,br j h2,if_false] at h3 h4
      exact r.inj i j b h1 h2 h3 h4
   lo:=fun i b h1 h2=>by
    rcases bf i h1 with rfl|h1
    ·simp only[cp,if_true] at h2
     have:=zC b h2
     have:=r.hB
     omega
    ·simp only[cp,br i h1,if_false] at h2
     have:=r.lo i b h1 h2
     have:=hb.size
     omega
   nx:=fun i h=>by
    show i<δ.nx+1
    rcases bf i h with rfl|h
    ·omega
    ·have:=r.nx i h;omega
   wt:=fun k hk=>⟨fun b qQ=>⟨((r.wt k hk).1 b qQ).1,(hold b (lh ((r.wt k hk).1 b qQ))).trans ((r.wt k hk).1 b qQ).2⟩,fun i b hl hi hκ qQ=>by
    rcases bf i hl with rfl|hi'
    ·simp only[cp,if_true] at hκ
     have:=(zC b hκ).1
     exact absurd (lh ((r.wt k hk).1 _ qQ)) (by omega)
    ·simp only[cp,br i hi',if_false] at hκ
     refine(r.wt k hk).2 i b hi' ?_ hκ qQ
     refine hi.imp (fun hi=>?_) id
     have hi2:(δ.ba .row).ob i=some .row:=hi
     rw[bp,if_neg (br i hi')] at hi2
     exact hi2⟩
   below:=r.below.trans (hb.mono r.hB)
   hB:=Nat.le_trans r.hB hb.size
   N0:=r.N0
   mkf:=r.mkf
   fr:=r.fr.of hb.size (fun b _ h1 _=>hold b h1) fun i b h1 h2=>by
    rcases bf i h1 with rfl|h1
    ·simp only[cp,if_true] at h2;exact .inr (zC b h2).1
    ·simp only[cp,br i h1,if_false] at h2;exact .inl ⟨i,h1,h2⟩}
structure Cr (N:Nat→Prop) (w:World) (B:Nat) (v:Value) (e:TypeId) (k:Nat) (els:List (List PV)):Prop where
 lim:els.length≤140737488355328
 hk:∀c∈els,c.length=k
 row:∃xs,w.ownsRow B e k v els.length xs∧(∀u∈xs,u.oneCell'=true)∧∀i' j p,cellAt els i' j=some p→∃u,xs[i'*k+j]? =some u∧RP (fun b=>N b∧v.ownBlock≠some b) w u p
structure HN (P:Program) (f:FuncId) (args:List AV) (e:TypeId) (k:Nat) (els:List (List PV)):Prop where
 enters:∀vals w,(callFunc f vals).run P w=.ok (.enter f vals) w
 calls:∀(N:Nat→Prop) (w:World) (vals:Array Value),(∀b,w.heap.size≤b→N b)→vals.size=args.length→
  (∀(j:Nat) (v:Value) (av:AV),vals[j]? =some v→args[j]? =some av→RA (uC N) w v av)→
  Calls P f vals w fun en w'=>∃v,en=.returned v∧Below w.heap.size w w'∧Cr N w' w.heap.size v e k els
theorem aa.F3 {f:FuncId} {xs:List Operand} {tys:Array TypeId} {args:List AV} {e:TypeId} {k:Nat} {els:List (List PV)} (hf:HN P f args e k els) (b9:kT false δ xs args) (hd:bk δ.n dst=true)
  (hK:aa .plain P g ops rest Q ((δ.ba .row).au dst (.own δ.nx e k els))):aa .plain P g ops (⟨dst,.call {callee:=.value (.func f),args:=xs.toArray,argTypes:=tys},ty,pos,af,none⟩::rest) Q δ:=by
 intro κ a w r0
 show wpListIn _ _ P ops _ (_::rest) a w
 refine cr rfl rfl fun K hK'=>?_
 unfold Oper.uT
 rw[fg (f:=f) rfl hf.enters,Oper.uponIn_enter]
 refine⟨fun h=>by simp at h,(eZ (hf.calls (fun b=>(δ.cx g κ).N b∨w.heap.size≤b) w _ (fun _ h=> .inr h) (by simp [b9.len]) (b9.J6 r0 (fun _ _ h=> .inl h) (fun h=>by simp at h)))).mono ?_⟩
 rintro en w' ⟨v,rfl,hb,hv⟩
 have zC:∀b,v.ownBlock=some b→w.heap.size≤b∧b<w'.heap.size∧∃c e,w'.heap[b]? =some (.cells c e (0,0)):=by
  intro b Lh
  obtain⟨xs,⟨_,b8⟩,_⟩:=hv.row
  rcases b8 with ⟨rfl,_⟩|⟨b0,cap,cur,rfl,h1,h2,_⟩
  ·cases Lh
  ·cases Lh
   exact⟨h1,(Array.getElem?_eq_some_iff.1 h2).1,cur,e,h2⟩
 obtain⟨r1,G⟩:=r0.Hi hb v.ownBlock zC
 refine hK' _ _ (hK _ _ _ (r1.au (aU hd) (.own ?_)))
 obtain⟨xs,⟨qz,b8⟩,h1,hx⟩:=hv.row
 refine⟨by show(δ.ba .row).ob _=_;rw[bp,if_pos rfl],hv.lim,hv.hk,fun b Lh=>by show cp _ _ _ _=_;simp [cp,Lh],xs,⟨qz,?_⟩,h1,fun i' j p hp=>?_⟩
 ·rcases b8 with h|⟨b0,cap,cur,h2,h3,h4⟩
  ·exact .inl h
  ·exact .inr ⟨b0,cap,cur,h2,Nat.le_trans r0.hB h3,h4⟩
 ·obtain⟨u,hu,hr⟩:=hx i' j p hp
  refine⟨u,hu,hr.mono (Nat.le_refl _) fun b _ hN=>⟨?_,rfl⟩⟩
  have bf:∀i,(δ.ba .row).live i→i=δ.nx∨δ.live i:=by
   intro i ⟨o',h⟩
   rw[bp] at h
   by_cases e:δ.nx=i
   ·exact .inl e.symm
   ·rw[if_neg e] at h;exact .inr ⟨o',h⟩
  have hY:∀i,δ.live i→δ.nx≠i:=fun i h e=>Nat.lt_irrefl _ (r0.nx _ (e▸h))
  refine⟨?_,fun i hi=>?_⟩
  ·rcases hN.1 with h|h
   ·exact h.1
   ·exact r0.xE h
  ·show cp κ δ.nx v.ownBlock i≠some b
   rcases bf i hi with rfl|hi
   ·simp only[cp,if_true];exact hN.2
   ·simp only[cp,hY i hi,if_false]
    rcases hN.1 with h|h
    ·exact h.2 i hi
    ·intro e
     have:=(r0.lo i b hi e).2
     omega
def CU (P:Program) (rs:List ResultVar) (e:TypeId) (k:Nat) (els:List (List PV)):Exit→DS→Prop
 |.normal,δ|.ret,δ=>(∃i,bD P δ rs (.own i e k els))∨(els=[]∧bD P δ rs (.pv (.lit (.slice none 0 0))))
 |_,_=>False
theorem HN.enter {f:FuncId} {fn:Func} {c:Code} {rs:List ResultVar} {n:Nat} {args:List AV} {e:TypeId} {k:Nat} {els:List (List PV)} (hf:P.funcs[f]? =some fn) (hb:fn.body=some c) (mE:fn.results=rs.toArray) (hn:fn.ntmps=n) (uE:Nat.ble args.length n=true)
  (ka:Nat.ble n HS=true) (he:(fn.name== "runtime.NumGoroutine")=false) (h:∀g:ar,g.ro=none→g.wt=none→AW P g c (CU P rs e k els) (start n args)):HN P f args e k els:=by
 refine⟨fun vals w=>by simp [callFunc,hf,hb];simpa using he,fun N w vals hN hs b9=>?_⟩
 have hle:args.length≤n:=by simpa using uE
 have hnH:n≤HS:=by simpa using ka
 let g:ar:={B:=w.heap.size,w0:=w,N0:=N,held:=fun _=>undef,ro:=none,mks:=[],wt:=none,fr:=fun _=>False,w1:=w}
 have hY:∀i,¬(start n args).live i:=fun i ⟨o,h⟩=>by cases h
 refine callsIn_wide.1 (callsIn_of_wp_marks (n:=0) hf hb trivial (wpIn_mono (h g rfl rfl ⟨fun _=>none,fun _ _=>False⟩ _ w ?_) ?_))
 ·exact
  {n:=by simp [hn,start];omega
   dfr:=⟨[],rfl,by simp [g],by simp [g]⟩
   env:=fun j=>by
    by_cases hj:j<args.length
    ·have h1:(start n args).get j=args[j]:=gM args 0 j _ (Nat.zero_le _) (by simp [hj])
     have h2:g.val {tmps:=vals++Array.replicate (fn.ntmps - vals.size) undef,defers:=[]} j=vals[j]'(by omega):=by
      unfold ar.val
      rw[if_pos (by omega)]
      simp [Array.getD_eq_getD_getElem?,Array.getElem?_append,hs,hj]
     rw[h1,h2]
     exact(b9 j _ _ (Array.getElem?_eq_getElem (by omega)) (List.getElem?_eq_getElem hj)).o5 _ fun b _ h=>⟨⟨h,fun⟨_,h⟩=>h⟩,fun i hi=>absurd hi (hY i)⟩
    ·have h1:(start n args).get j=.any:=dh args 0 j (by omega)
     rw[h1];exact .any _
   obj:=fun i o h=>by cases h
   inj:=fun i j b h=>absurd h (hY i)
   lo:=fun i b h=>absurd h (hY i)
   nx:=fun i h=>absurd h (hY i)
   wt:=fun k hk=>by cases hk
   below:=Below.refl _ _
   hB:=Nat.le_refl _
   N0:=fun b h _=>hN b h
   fr:=⟨fun b hb=>hb.elim,fun i b hb=>hb.elim⟩
   mkf:=fun d hd=>by cases hd}
 ·rintro ex a' w' ⟨δ',κ',hq,r'⟩
  have fin:∀i,bD P δ' rs (.own i e k els)→LeavesInM Fence.wide 0 P fn a'.tmps (fun en w'=>∃v,en=.returned v∧Below w.heap.size w w'∧Cr N w' w.heap.size v e k els) a'.defers .returning w':=by
   intro i h1
   exact leaves (g:=g) rfl rfl mE h1 r' (fun w2 r2 u hu=>by
    have ho:=hu.dM
    refine⟨u,rfl,r2.below,ho.lim,ho.hk,?_⟩
    obtain⟨xs,h3,h4,h5⟩:=ho.row
    refine⟨xs,h3,h4,fun i' j p hp=>?_⟩
    obtain⟨v,hv,hr⟩:=h5 i' j p hp
    refine⟨v,hv,hr.mono (Nat.le_refl _) fun b _ hN=>⟨⟨hN.1.1,fun hb=>?_⟩,rfl⟩⟩
    exact hN.2 i (DS.bN ho.live) (ho.blk b hb))
  have finN:els=[]→bD P δ' rs (.pv (.lit (.slice none 0 0)))→LeavesInM Fence.wide 0 P fn a'.tmps (fun en w'=>∃v,en=.returned v∧Below w.heap.size w w'∧Cr N w' w.heap.size v e k els) a'.defers .returning w':=by
   intro h0 h1
   exact leaves (g:=g) rfl rfl mE h1 r' (fun w2 r2 u hu=>by
    have hu:=hu.lit
    subst hu
    subst h0
    exact⟨_,rfl,r2.below,by simp,fun c hc=>by simp at hc,[],World.ownsRow_nil _ _ _ _,fun u hu=>by simp at hu,fun i' j p hp=>by simp [cellAt] at hp⟩)
  cases ex with
  |normal=>
   rcases hq with ⟨i,h1⟩|⟨h0,h1⟩
   ·exact fin i h1
   ·exact finN h0 h1
  |ret=>
   rcases hq with ⟨i,h1⟩|⟨h0,h1⟩
   ·exact fin i h1
   ·exact finN h0 h1
  |_=>exact hq.elim
theorem eY {rs:List ResultVar} {i:Nat} {e:TypeId} {k:Nat} {els els':List (List PV)} (h:bD P δ rs (.own i e k els')) (he:els'=els):CU P rs e k els .ret δ:=.inl ⟨i,he▸h⟩
theorem kC {rs:List ResultVar} {e:TypeId} {k:Nat} {els:List (List PV)} (h:bD P δ rs (.pv (.lit (.slice none 0 0)))) (he:els=[]):CU P rs e k els .ret δ:=.inr ⟨he,h⟩
theorem WV.C7 {δ δ':DS} {k:Nat} {els:List (List PV)} (h:els=[]):WV δ δ' (.pv (.lit (.slice none 0 0))) (.pv (.slice k els)):=by rw[h];exact .nilpv k
end Go.Ab
/- A callee that takes one value out of a row of one-cell values in place:Go's slices.Delete. -/
namespace Go.Ab
open Go Go.RowKit
variable {P:Program} {g:ar} {δ:DS} {κ:Kp} {a:Act} {w:World}
structure HD (P:Program) (f:FuncId) (z:Value):Prop where
 enters:∀vals w,(callFunc f vals).run P w=.ok (.enter f vals) w
 calls:∀(b cap i:Nat) (us:List Value) (w:World),Sort.Holds (fun u:Value=>u) w b 0 us.toArray→(∀u∈us,u.oneCell'=true)→us.length≤cap→cap≤maxLen→i<us.length→
  Calls P f #[.slice (some ⟨b,0,none⟩) us.length cap,.int .i64 i,.int .i64 (i+1)] w fun e w'=>e=.returned (.slice (some ⟨b,0,none⟩) (us.length - 1) cap)∧
   ∃n,w'=Sort.putRow (fun u:Value=>u) (Sort.ahead w n) b 0 (us.take i++us.drop (i+1)++ [z]).toArray
theorem sm {w:World} {b n:Nat} {c:Array Value} {e:TypeId} {d:Array Value} (h:w.heap[b]? =some (.cells c e (0,0))):
  (Sort.putRow (fun u:Value=>u) (Sort.ahead w n) b 0 d).heap[b]? =some (.cells (Sort.putCells (fun u:Value=>u) 0 d c) e (0,0)):=by
 unfold Sort.putRow Sort.mapBlock Sort.ahead
 simp only
 rw[Array.getElem?_modify,if_pos rfl,h]
 rfl
theorem qH (w:World) (b n:Nat) (d:Array Value):cS w (Sort.putRow (fun u:Value=>u) (Sort.ahead w n) b 0 d) (some b):=
 ⟨rfl,rfl,rfl,by simp [Sort.putRow,Sort.mapBlock,Sort.ahead],fun k hk br=>by
  unfold Sort.putRow Sort.mapBlock Sort.ahead
  simp only
  rw[Array.getElem?_modify,if_neg (fun e=>br (by rw[e]))]⟩
theorem qe {c:Array Value} {d:List Value} {m:Nat} (hc:d.length≤c.size) (hm:m≤d.length):(Sort.putCells (fun u:Value=>u) 0 d.toArray c).toList.take m=d.take m:=by
 apply List.ext_getElem
 ·simp [Sort.putCells];omega
 ·intro j h1 h2
  have hj:j<d.length:=by simp at h2;omega
  simp [Sort.putCells,hj]
theorem rR {α:Type} {l:List α} {i j:Nat}:(l.take i++l.drop (i+1))[j]? =if j<i then l[j]? else l[j+1]?:=by
 by_cases h:i≤l.length
 ·by_cases hj:j<i
  ·rw[if_pos hj,List.getElem?_append_left (by rw[List.length_take];omega),List.getElem?_take,if_pos hj]
  ·rw[if_neg hj,List.getElem?_append_right (by rw[List.length_take];omega),List.length_take,Nat.min_eq_left h,List.getElem?_drop]
   congr 1;omega
 ·have h1:l.take i=l:=List.take_of_length_le (by omega)
  have h2:l.drop (i+1)=[]:=List.drop_eq_nil_of_le (by omega)
  rw[h1,h2,List.append_nil]
  by_cases hj:j<i
  ·rw[if_pos hj]
  ·rw[if_neg hj,List.getElem?_eq_none (by omega),List.getElem?_eq_none (by omega)]
variable {ops:Array Oper} {rest:List Oper} {Q:Exit→DS→Prop} {dst:Option Nat} {ty:TypeId} {pos:String} {af:Array Edge} {gd:Option (Tmp×Bool)}
theorem c9.Gv {f:FuncId} {zv:Value} {x y z:Operand} {tys:Array TypeId} (hf:HD P f zv) {r i:Nat} {e:TypeId} {els:List (List PV)} {m:Int} (hx:δ.ev x=.own r e 1 els) (hy:δ.ev y=aw (i:Nat)) (hz:δ.ev z=aw m) (hr:δ.ob r=some .row)
  (ho:aK x=true) (ho':aK y=true) (lA:aK z=true) (hd:bk δ.n dst=true) (hm:m=(i:Int)+1) (hi:i<els.length):
  c9 P g ⟨dst,.call {callee:=.value (.func f),args:= #[x,y,z],argTypes:=tys},ty,pos,af,none⟩ δ ((δ.cj (AV.kill r)).au dst (.own r e 1 (els.take i++els.drop (i+1)))):=by
 subst hm
 intro κ a w rl
 right
 have wQ:=(rl.ra hx ho).dM
 have rN:a.eval y=.int .i64 (i:Nat):=rl.lit hy ho'
 have NF:a.eval z=.int .i64 ((i:Int)+1):=rl.lit hz lA
 have aR:=fg (dst:=dst) (ty:=ty) (pos:=pos) (af:=af) (xs:= #[x,y,z]) (tys:=tys) (ρ:=a.eval) (x:=.func f) (f:=f) rfl hf.enters w
 have gi:els.length≤140737488355328:=wQ.lim
 refine⟨f, #[a.eval x,a.eval y,a.eval z],by simpa using aR,?_⟩
 obtain⟨xs,⟨hl,b8⟩,kS,ie⟩:=wQ.row
 rw[Nat.mul_one] at hl
 rcases b8 with ⟨_,h0⟩|⟨b,cap,c,hv,hB,hb,jz,iD,jU,n4⟩
 ·exfalso;omega
 ·have hκ:κ r=some b:=wQ.blk b (by rw[hv];rfl)
  rw[hv,rN,NF]
  have K0:b<w.heap.size:=(Array.getElem?_eq_some_iff.1 hb).1
  rw[Nat.mul_one] at jU n4
  have hold:Sort.Holds (fun u:Value=>u) w b 0 xs.toArray:=by
   intro j hj
   have hj':j<xs.length:=by simpa using hj
   refine⟨?_,by rw[Nat.zero_add];exact jd hb _⟩
   rw[Nat.zero_add,cell_of hb]
   have h1:(c.toList.take els.length)[j]? =xs[j]?:=by rw[n4]
   rw[List.getElem?_take,if_pos (by omega),Array.getElem?_toList,List.getElem?_eq_getElem hj'] at h1
   rw[h1]
   simp [hj']
  rw[← hl]
  refine(hf.calls b cap i xs w hold kS (by omega) iD (by omega)).mono fun e' w' ⟨he,n,hw'⟩=>?_
  obtain⟨d,hd'⟩:∃d,d=xs.take i++xs.drop (i+1):=⟨_,rfl⟩
  have xT:d.length=xs.length - 1:=by rw[hd'];simp;omega
  rw[← hd'] at hw'
  have hh:w'.heap[b]? =some (.cells (Sort.putCells (fun u:Value=>u) 0 (d++ [zv]).toArray c) e (0,0)):=by rw[hw'];exact sm hb
  have iK:(Sort.putCells (fun u:Value=>u) 0 (d++ [zv]).toArray c).size=c.size:=by simp [Sort.putCells]
  have Cb:=qe (c:=c) (d:=d++ [zv]) (m:=d.length) (by simp;omega) (by simp)
  rw[List.take_left] at Cb
  obtain⟨rk,G⟩:=rl.row hr (κ':=κ) (w':=w') (fun _ _=>rfl) (by rw[hκ,hw'];exact qH _ _ _ _) (fun b' hb'=>by
   obtain rfl:b=b':=Option.some.inj (hκ.symm.trans hb')
   exact⟨.inl hκ,(Array.getElem?_eq_some_iff.1 hh).1,_,_,hh⟩) (AV.kill r) rfl (fun G v av h=>h.kill G)
  have Io:(els.take i++els.drop (i+1)).length=d.length:=by rw[xT];simp;omega
  refine⟨_,κ,he,rk.au (aU hd) (.own ⟨?_,by omega,fun c hc=>?_,fun b' hb'=>?_,d,⟨by rw[Nat.mul_one];exact Io.symm,.inr ⟨b,cap,_,?_,hB,hh,?_,iD,?_,?_⟩⟩,fun u hu=>?_,fun i' j p hp=>?_⟩)⟩
  ·show(δ.cj (AV.kill r)).ob r=some .row
   rw[eO,hr];rfl
  ·rcases List.mem_append.1 hc with hc|hc
   ·exact wQ.hk c (List.mem_of_mem_take hc)
   ·exact wQ.hk c (List.mem_of_mem_drop hc)
  ·cases hb';exact hκ
  ·rw[Io,xT]
  ·rw[Io];omega
  ·rw[iK,Nat.mul_one];exact jU
  ·rw[Io,Nat.mul_one];exact Cb
  ·rw[hd'] at hu
   rcases List.mem_append.1 hu with hu|hu
   ·exact kS u (List.mem_of_mem_take hu)
   ·exact kS u (List.mem_of_mem_drop hu)
  ·have hp':cellAt els (if i'<i then i' else i'+1) j=some p:=by
    unfold cellAt at hp ⊢
    rw[rR] at hp
    split at hp
    ·rename_i h;rw[if_pos h];exact hp
    ·rename_i h;rw[if_neg h];exact hp
   obtain⟨u,hu,Iu⟩:=ie _ j p hp'
   have hj:j=0:=by
    unfold cellAt at hp'
    rw[Option.bind_eq_some_iff] at hp'
    obtain⟨c,hc1,hc2⟩:=hp'
    have:=wQ.hk c (List.mem_of_getElem? hc1)
    have:=(List.getElem?_eq_some_iff.1 hc2).1
    omega
   subst hj
   refine⟨u,?_,G.rp (C:=(δ.cx g κ).less r) Iu⟩
   rw[Nat.mul_one,Nat.add_zero] at hu ⊢
   rw[hd',rR]
   split at hu
   ·rename_i h;rw[if_pos h];exact hu
   ·rename_i h;rw[if_neg h];exact hu
theorem aa.Gv {f:FuncId} {zv:Value} {x y z:Operand} {tys:Array TypeId} (hf:HD P f zv) {α:Type} {h:α→List PV} {l:List α} {r i:Nat} {e:TypeId} {m:Int} (hx:δ.ev x=.own r e 1 (l.map h)) (hy:δ.ev y=aw (i:Nat)) (hz:δ.ev z=aw m) (hr:δ.ob r=some .row)
  (ho:aK x=true) (ho':aK y=true) (lA:aK z=true) (hd:bk δ.n dst=true) (hm:m=(i:Int)+1) (hi:i<l.length) (hK:aa .plain P g ops rest Q ((δ.cj (AV.kill r)).au dst (.own r e 1 ((l.eraseIdx i).map h)))):
  aa .plain P g ops (⟨dst,.call {callee:=.value (.func f),args:= #[x,y,z],argTypes:=tys},ty,pos,af,none⟩::rest) Q δ:=
 aa.mI rfl rfl (c9.Gv hf hx hy hz hr ho ho' lA hd hm (by simpa using hi)) (by
  have e1:(l.map h).take i++(l.map h).drop (i+1)=(l.eraseIdx i).map h:=by rw[List.eraseIdx_eq_take_drop_succ,List.map_append,List.map_take,List.map_drop]
  rw[e1];exact hK)
end Go.Ab
/- Eight values laid out. -/
namespace Go.Ab
open Go Go.RowKit
variable {q:Md} {P:Program} {g:ar} {δ:DS} {κ:Kp} {a:Act} {w:World}
variable {ops:Array Oper} {rest:List Oper} {Q:Exit→DS→Prop} {dst:Option Nat} {ty:TypeId} {pos:String} {af:Array Edge}
end Go.Ab
/- Values of interface type,type switches;a string appended to a row of bytes. -/
namespace Go.Ab
open Go Go.RowKit
variable {q:Md} {P:Program} {g:ar} {δ:DS} {κ:Kp} {a:Act} {w:World}
variable {ops:Array Oper} {rest:List Oper} {Q:Exit→DS→Prop} {dst:Option Nat} {ty:TypeId} {pos:String} {af:Array Edge}
section ints
variable {x y:Operand} {t t':TypeId} {m n:Int} {k:IntKind} (hx:δ.ev x=.pv (.lit (.int k m))) (hy:δ.ev y=.pv (.lit (.int k n))) (ho:aK x=true) (ho':aK y=true) (hd:bk δ.n dst=true)
include hx hy ho ho' hd
end ints
end Go.Ab
/- The last bit of a number turned;objects renumbered ahead of a region. -/
namespace Go.Ab
open Go Go.RowKit
variable {P:Program} {g:ar} {δ:DS} {q:Md}
variable {ops:Array Oper} {rest:List Oper} {Q:Exit→DS→Prop} {dst:Option Nat} {ty:TypeId} {pos:String} {af:Array Edge}
end Go.Ab
/- Any number of values of one cell laid out. -/
namespace Go.Ab
open Go Go.RowKit
variable {q:Md} {P:Program} {g:ar} {δ:DS} {κ:Kp} {a:Act} {w:World}
variable {ops:Array Oper} {rest:List Oper} {Q:Exit→DS→Prop} {dst:Option Nat} {ty:TypeId} {pos:String} {af:Array Edge}
inductive Jl (δ:DS):Nat→List (Nat×Operand)→List PV→Prop
 |nil {i:Nat}:Jl δ i [] []
 |cons {i:Nat} {x:Operand} {p:PV} {ps:List PV} {r:List (Nat×Operand)} (h:δ.ev x=.pv p) (h1:AV.one (.pv p)=true) (ho:aK x=true) (hr:Jl δ (i+1) r ps):Jl δ i ((i,x)::r) (p::ps)
theorem Jl.ok {δ:DS} {i:Nat} {parts:List (Nat×Operand)} {ps:List PV} (h:Jl δ i parts ps):parts.all (fun p=>aK p.2)=true:=by
 induction h with
 |nil=>rfl
 |cons h h1 ho hr ih=>simp [ho,ih]
end Go.Ab
/- Pools:rows of one-cell values,reached by slices that are told whole. -/
namespace Go.Ab
open Go Go.RowKit
variable {q:Md} {P:Program} {g:ar} {δ:DS} {κ:Kp} {a:Act} {w:World}
variable {ops:Array Oper} {rest:List Oper} {Q:Exit→DS→Prop} {dst:Option Nat} {ty:TypeId} {pos:String} {af:Array Edge} {gd:Option (Tmp×Bool)}
abbrev eL:=Nat→Value×List Value
def hU (rows:eL) (k:Nat) (p:Value×List Value):eL:=fun j=>if j=k then p else rows j
def c_ (m:Nat):Value→Value
 |.slice a _ c=> .slice a m c
 |v=>v
def gP (n:Nat):Value→Value
 |.slice (some ⟨b,o,x⟩) _ _=> .pointer (some ⟨b,o+n,x⟩)
 |v=>v
theorem kX {w:World} {B:Nat} {e:TypeId} {v:Value} {n:Nat} {xs:List Value} (h:w.ownsRow B e 1 v n xs) {b:Nat} (hb:v.ownBlock=some b):∃cur,w.heap[b]? =some (.cells cur e (0,0))∧B≤b:=by
 rcases h.2 with ⟨rfl,_⟩|⟨b',cap,cur,rfl,h1,h2,_⟩
 ·cases hb
 ·cases hb;exact⟨cur,h2,h1⟩
theorem DS.Cm {δ:DS} {i:Nat} {o o':Ob} (ho:δ.ob i=some o) (j:Nat):(δ.bx i (some o')).live j↔δ.live j:=by
 unfold DS.live
 rw[du]
 by_cases e:i=j
 ·subst e;simp [ho]
 ·simp [e]
theorem Rel.iG (r:Rel g δ κ a w) {i:Nat} {e:TypeId} {rows:eL} (ho:δ.ob i=some (.pool e rows)) {k:Nat} {w':World} (t:cS w w' (rows k).1.ownBlock) {v':Value} {ys:List Value}
  (b8:w'.ownsRow g.B e 1 v' ys.length ys) (hl:ys.length≤140737488355328) (h1:∀u∈ys,u.oneCell'=true) (pf:∀b,v'.ownBlock=some b→(rows k).1.ownBlock=some b∨w.heap.size≤b):
  ∃κ',Rel g (δ.bx i (some (.pool e (hU rows k (v',ys))))) κ' a w'∧ez (δ.cx g κ) w ((δ.bx i (some (.pool e (hU rows k (v',ys))))).cx g κ') w':=by
 obtain⟨hκi,ru,sY⟩:=r.obj i _ ho
 have hi:δ.live i:=⟨_,ho⟩
 have hF:∀kk b,(rows kk).1.ownBlock=some b→κ.F i b:=fun kk b hb=>(ru kk).2.2.1 b hb
 have hFl:∀b,κ.Fs b→b<w.heap.size:=fun b hb=>r.fr.xV hb
 have bf:=fun j=>DS.Cm (o':=.pool e (hU rows k (v',ys))) ho j
 have ir:∀j,(δ.bx i (some (.pool e (hU rows k (v',ys))))).lr j↔δ.lr j:=by
  intro j
  unfold DS.lr
  rw[du]
  by_cases e':i=j
  ·subst e';rw[if_pos rfl,ho];simp
  ·simp [e']
 have oF:∀j,δ.lb j→(δ.bx i (some (.pool e (hU rows k (v',ys))))).lb j:=by
  rintro j ⟨o,h2,h3⟩
  unfold DS.lb
  rw[du]
  by_cases e':i=j
  ·subst e';rw[if_pos rfl];exact⟨_,rfl,rfl⟩
  ·rw[if_neg e'];exact⟨o,h2,h3⟩
 have iF:∀b,b<w.heap.size→¬(rows k).1.ownBlock=some b→w'.heap[b]? =w.heap[b]?:=fun b h2 h3=>t.block b h2 h3
 have hnF:∀b,b<w.heap.size→¬κ.Fs b→w'.heap[b]? =w.heap[b]?:=fun b h2 h3=>iF b h2 fun h4=>h3 ⟨i,hF k b h4⟩
 have hv'lt:∀b,v'.ownBlock=some b→b<w'.heap.size∧g.B≤b:=fun b hb=>let ⟨_,h2,h3⟩:=kX b8 hb;⟨cW h2,h3⟩
 let κ':Kp:=⟨κ.f,fun j b=>κ.F j b∨(j=i∧v'.ownBlock=some b)⟩
 have hold:∀j b,κ'.F j b→b<w.heap.size→κ.F j b:=by
  rintro j b (h2|⟨rfl,h2⟩) h3
  ·exact h2
  ·rcases pf b h2 with h4|h4
   ·exact hF k b h4
   ·omega
 have G:ez (δ.cx g κ) w ((δ.bx i (some (.pool e (hU rows k (v',ys))))).cx g κ') w':=
  {B:=rfl,size:=t.size
   N:=fun b h2 h3=>⟨⟨⟨h3.1.1,fun⟨j,hj⟩=>h3.1.2 ⟨j,hold j b hj h2⟩⟩,fun j hj=>h3.2 j ((bf j).1 hj)⟩,hnF b h2 h3.1.2⟩
   Lr:=fun j hj=>⟨(ir j).2 hj,rfl,fun b hb=>hnF b (r.lo j b (DS.bN hj) hb).2 (r.fr.gS (DS.bN hj) hb)⟩
   Lb:=fun j hj=>⟨oF j hj,rfl⟩}
 refine⟨κ',?_,G⟩
 exact
  {n:=r.n
   dfr:=r.dfr.e7 fun b _ hb=>iF b (cW hb) fun h2=>by
    obtain⟨cur,h3,_⟩:=kX (ru k).1 h2
    rw[hb] at h3;cases h3
   env:=fun j=>G.ra (r.env j)
   obj:=fun j x h=>by
    rw[du] at h
    by_cases e':i=j
    ·subst e'
     rw[if_pos rfl] at h
     cases h
     refine⟨hκi,fun kk=>?_,fun k1 k2 b h2 h3=>?_⟩
     ·unfold hU
      by_cases hk:kk=k
      ·rw[if_pos hk];exact⟨b8,hl,fun b hb=> .inr ⟨rfl,hb⟩,h1⟩
      ·rw[if_neg hk]
       exact(ru kk).e7 rfl fun b hb h2 h3=>⟨.inl h2,iF b h3 fun h4=>hk (sY kk k b hb h4)⟩
     ·unfold hU at h2 h3
      by_cases hk1:k1=k
      ·by_cases hk2:k2=k
       ·rw[hk1,hk2]
       ·rw[if_pos hk1] at h2
        rw[if_neg hk2] at h3
        rcases pf b h2 with h4|h4
        ·exact hk1.trans (sY k k2 b h4 h3)
        ·exact absurd (hFl b ⟨i,hF k2 b h3⟩) (by omega)
      ·by_cases hk2:k2=k
       ·rw[if_neg hk1] at h2
        rw[if_pos hk2] at h3
        rcases pf b h3 with h4|h4
        ·exact(sY k1 k b h2 h4).trans hk2.symm
        ·exact absurd (hFl b ⟨i,hF k1 b h2⟩) (by omega)
       ·rw[if_neg hk1] at h2
        rw[if_neg hk2] at h3
        exact sY k1 k2 b h2 h3
    ·rw[if_neg e'] at h
     exact(r.obj j x h).e7 G rfl (fun b hb=>hnF b (r.lo j b ⟨x,h⟩ hb).2 (r.fr.gS ⟨x,h⟩ hb)) fun b h2 h3=>⟨.inl h2,iF b h3 fun h4=>e' ((r.fr.2 j b h2).2.2.2.2 i (hF k b h4))⟩
   inj:=fun i' j b h2 h3=>r.inj i' j b ((bf i').1 h2) ((bf j).1 h3)
   lo:=fun j b h2 h3=>by have:=r.lo j b ((bf j).1 h2) h3;exact⟨this.1,Nat.lt_of_lt_of_le this.2 t.size⟩
   nx:=fun j h=>r.nx j ((bf j).1 h)
   wt:=fun kk hk=>⟨fun b hb=>⟨((r.wt kk hk).1 b hb).1,(iF b (lh ((r.wt kk hk).1 b hb)) (fun h4=>(r.fr.2 i b (hF k b h4)).1.2 kk hk hb)).trans ((r.wt kk hk).1 b hb).2⟩,fun j b hj o8=>(r.wt kk hk).2 j b ((bf j).1 hj) (o8.imp (ir j).1 id)⟩
   below:=r.lO t (fun b hb=>(r.fr.2 i b (hF k b hb)).1.1)
   hB:=Nat.le_trans r.hB t.size
   N0:=r.N0
   mkf:=r.mkf
   fr:=by
    refine⟨fun b hb=>?_,fun j b hb=>?_⟩
    ·obtain⟨h2,h3,h4⟩:=r.fr.1 b hb
     refine⟨h2,(hnF b (r.fr.tu hb) fun⟨j,hj⟩=>(r.fr.2 j b hj).2.2.1 hb).trans h3,fun j hj=>h4 j ((bf j).1 hj)⟩
    ·have JY:κ.F j b∨(j=i∧v'.ownBlock=some b∧w.heap.size≤b):=by
      rcases hb with h2|⟨rfl,h2⟩
      ·exact .inl h2
      ·rcases pf b h2 with h3|h3
       ·exact .inl (hF k b h3)
       ·exact .inr ⟨rfl,h2,h3⟩
     rcases JY with h2|⟨rfl,h2,h3⟩
     ·obtain⟨h4,h5,h6,h7,h8⟩:=r.fr.2 j b h2
      exact⟨h4,Nat.lt_of_lt_of_le h5 t.size,h6,fun j' hj'=>h7 j' ((bf j').1 hj'),fun j' hj'=>h8 j' (hold j' b hj' h5)⟩
     ·refine⟨⟨(hv'lt b h2).2,fun kk hk hb=>by have:=lh ((r.wt kk hk).1 b hb);omega⟩,(hv'lt b h2).1,fun h4=>?_,fun j' hj' h4=>?_,fun j' hj'=>?_⟩
      ·have:=r.fr.tu h4;omega
      ·have:=r.lo j' b ((bf j').1 hj') h4;omega
      ·rcases hj' with h4|⟨rfl,_⟩
       ·have:=hFl b ⟨j',h4⟩;omega
       ·rfl}
theorem cb (r:Rel g δ κ a w) {i:Nat} {e:TypeId} {rows:eL} (ho:δ.ob i=some (.pool e rows)) (k:Nat):w.ownsRow g.B e 1 (rows k).1 (rows k).2.length (rows k).2:=((r.obj i _ ho).2.1 k).1
theorem DM (r:Rel g δ κ a w) {i:Nat} {e:TypeId} {rows:eL} (ho:δ.ob i=some (.pool e rows)) {k b:Nat} (hb:(rows k).1.ownBlock=some b):b<w.heap.size∧∀j,δ.lr j→κ j≠some b:=by
 have hF:=((r.obj i _ ho).2.1 k).2.2.1 b hb
 exact⟨r.fr.xV ⟨i,hF⟩,fun j hj e=>r.fr.gS (DS.bN hj) e ⟨i,hF⟩⟩
theorem aa.BO {x:Operand} {t e':TypeId} (i k:Nat) {e:TypeId} {rows:eL} {H:Value} {ys:List Value} (ho:δ.ob i=some (.pool e rows)) (hk:rows k=(H,ys)) (hx:δ.ev x=.pv (.lit H)) (ht:P.underlying t=some (.slice e')) (fa:aK x=true) (hd:bk δ.n dst=true)
  (hK:aa q P g ops rest Q (δ.au dst (aw (ys.length:Nat)))):aa q P g ops (⟨dst,.call {callee:=.builtin .len,args:= #[x],argTypes:= #[t]},ty,pos,af,none⟩::rest) Q δ:=
 aa.dq _ hd (fun κ a w r=>by
  have h0:=cb r ho k
  rw[hk] at h0
  simp only at h0
  have hv:a.eval x=H:=r.lit hx fa
  rcases h0.2 with ⟨h1,h2⟩|⟨b,cap,cur,h1,_⟩
  ·exact⟨_,fun w' _=>run_len_slice ht x a.eval none _ 0 (hv.trans (by rw[h1,h2])) w',.pv (.lit _)⟩
  ·exact⟨_,fun w' _=>run_len_slice ht x a.eval _ _ cap (hv.trans h1) w',.pv (.lit _)⟩) hK
theorem aa.w8 {x y:Operand} {t e':TypeId} (i k:Nat) {n:Nat} {ik:IntKind} {e:TypeId} {rows:eL} {H:Value} {ys:List Value} (ho:δ.ob i=some (.pool e rows)) (hk:rows k=(H,ys)) (hx:δ.ev x=.pv (.lit H)) (hy:δ.ev y=.pv (.lit (.int ik (n:Int)))) (hn:n<ys.length)
  (ht:P.underlying t=some (.slice e')) (hs:(P.info? e').map (·.size)=some 1) (fa:aK x=true) (e8:aK y=true) (hd:bk δ.n dst=true)
  (hK:aa q P g ops rest Q (δ.au dst (.pv (.lit (gP n H))))):aa q P g ops (⟨dst,.indexAddr t x y,ty,pos,af,none⟩::rest) Q δ:=
 aa.dq _ hd (fun κ a w r=>by
  have h0:=cb r ho k
  rw[hk] at h0
  simp only at h0
  have hv:a.eval x=H:=r.lit hx fa
  rcases h0.2 with ⟨h1,h2⟩|⟨b,cap,cur,h1,_⟩
  ·exfalso;omega
  ·subst h1
   refine⟨_,fun w' _=>?_,.pv (.lit _)⟩
   have:=cH (dst:=dst) (ty:=ty) (pos:=pos) (af:=af) ht hs hv (r.lit hy e8) hn w'
   rw[Nat.mul_one] at this
   exact this) hK
theorem aa.zM {x:Operand} {t:TypeId} (i k:Nat) {n:Nat} {e:TypeId} {rows:eL} {H u:Value} {ys:List Value} (ho:δ.ob i=some (.pool e rows)) (hk:rows k=(H,ys)) (hx:δ.ev x=.pv (.lit (gP n H))) (hu:ys[n]? =some u)
  (ht:eb P t=true) (fa:aK x=true) (hd:bk δ.n dst=true) (hq:q≠ .held) (hK:aa q P g ops rest Q (δ.au dst (.pv (.lit u)))):aa q P g ops (⟨dst,.load t x,ty,pos,af,none⟩::rest) Q δ:=
 aa.Gl _ hq rfl rfl hd (fun κ a w r=>by
  have h0:=cb r ho k
  have aP:=fun b hb=>DM r ho (k:=k) (b:=b) hb
  rw[hk] at h0 aP
  simp only at h0 aP
  have hv:a.eval x=gP n H:=r.lit hx fa
  have hY:n<ys.length:=(List.getElem?_eq_some_iff.1 hu).1
  have h0':=h0
  rcases h0.2 with ⟨h1,h2⟩|⟨b,cap,cur,h1,_⟩
  ·exfalso;omega
  ·subst h1
   have h3:=h0'.cellAt (n*1) (by omega)
   rw[Nat.mul_one] at h3
   have hv2:a.eval x=.pointer (some ⟨b,n,none⟩):=hv.trans (by simp [gP])
   obtain⟨h4,h5⟩:=aP b rfl
   exact⟨u,fun w' hw'=>eP ht hv2 ((hw'.cell (p:=⟨b,n,none⟩) h4).trans (h3.trans hu)),.pv (.lit _)⟩) hK
theorem c9.lJ {x y:Operand} {t:TypeId} (i k:Nat) {n:Nat} {e:TypeId} {rows:eL} {H u:Value} {ys:List Value} (ho:δ.ob i=some (.pool e rows)) (hk:rows k=(H,ys)) (hx:δ.ev x=.pv (.lit (gP n H))) (hn:n<ys.length) (hy:δ.ev y=.pv (.lit u))
  (hu:u.oneCell'=true) (ht:(P.info? t).map (·.size)=some 1) (fa:aK x=true) (e8:aK y=true) (hd:bk δ.n dst=true):
  c9 P g ⟨dst,.store t x y,ty,pos,af,gd⟩ δ ((δ.bx i (some (.pool e (hU rows k (H,ys.set n u))))).au dst .any):=by
 intro κ a w r
 have h0:=cb r ho k
 have hl:=((r.obj i _ ho).2.1 k).2.1
 have h1c:=((r.obj i _ ho).2.1 k).2.2.2
 rw[hk] at h0 hl h1c
 simp only at h0 hl h1c
 have hv:a.eval x=gP n H:=r.lit hx fa
 have rN:a.eval y=u:=r.lit hy e8
 rcases h0.2 with ⟨h1,h2⟩|⟨b,cap,cur,h1,hB,h3,hle,Da,jU,n4⟩
 ·exfalso;omega
 ·subst h1
  have hv2:a.eval x=.pointer (some ⟨b,n,none⟩):=hv.trans (by simp [gP])
  have aR:(execOp a.eval ⟨dst,.store t x y,ty,pos,af,gd⟩).run P w=.ok .skip (w.setCell ⟨b,n,none⟩ u):=by
   obtain⟨i0,dA,hs0⟩:∃i0,P.info? t=some i0∧i0.size=1:=by
    cases h:P.info? t with
    |none=>rw[h] at ht;simp at ht
    |some i0=>rw[h] at ht;exact⟨i0,rfl,by simpa using ht⟩
   have hc:w.cell? ⟨b,n,none⟩=some (cur[n]'(by omega)):=by rw[cell_of h3,Array.getElem?_eq_getElem (by omega)]
   have dp:(store ⟨b,n,none⟩ u).run P w=.ok () (w.setCell ⟨b,n,none⟩ u):=by
    rw[run_store P w _ _ _ hu,hc];simp [jd h3]
   simp [execOp,Instr.storeAt,Instr.sureAddr,storeVar,hv2,rN,gJ hu,sizeOf,typeInfo,dA,hs0,storeCells,dw,dp]
  have dx:(rows k).1.ownBlock=some b:=by rw[hk];rfl
  obtain⟨κ',r',_⟩:=r.iG ho (k:=k) (w':=w.setCell ⟨b,n,none⟩ u) (by rw[dx];exact cS.setCell w ⟨b,n,none⟩ u) (v':=.slice (some ⟨b,0,none⟩) ys.length cap) (ys:=ys.set n u)
   (by
    rw[List.length_set]
    refine⟨by simp,.inr ⟨b,cap,_,rfl,hB,fh h3 _,hle,Da,by simpa using jU,?_⟩⟩
    rw[Nat.mul_one] at n4 ⊢
    rw[Array.toList_setIfInBounds,List.take_set,n4])
   (by rw[List.length_set];exact hl)
   (fun v hv=>by
    rcases List.mem_or_eq_of_mem_set hv with hv|rfl
    ·exact h1c v hv
    ·exact hu)
   (fun b' hb'=> .inl (by rw[dx];exact hb'))
  exact .inl ⟨_,_,_,κ',aR,.inr ⟨rfl,rfl⟩,r'.au (aU hd) (.any _)⟩
theorem aa.lJ {x y:Operand} {t:TypeId} (i k:Nat) {n:Nat} {e:TypeId} {rows:eL} {H u:Value} {ys:List Value} (ho:δ.ob i=some (.pool e rows)) (hk:rows k=(H,ys)) (hx:δ.ev x=.pv (.lit (gP n H))) (hn:n<ys.length) (hy:δ.ev y=.pv (.lit u))
  (hu:u.oneCell'=true) (ht:(P.info? t).map (·.size)=some 1) (fa:aK x=true) (e8:aK y=true) (hd:bk δ.n dst=true) (hK:aa .plain P g ops rest Q ((δ.bx i (some (.pool e (hU rows k (H,ys.set n u))))).au dst .any)):
  aa .plain P g ops (⟨dst,.store t x y,ty,pos,af,none⟩::rest) Q δ:=aa.mI rfl rfl (c9.lJ i k ho hk hx hn hy hu ht fa e8 hd) hK
end Go.Ab
