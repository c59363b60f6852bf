/- In the midst of a region that draws its order: operations that only read are taken in one order; the watch over memory begins anew. -/
import Derived.Test.YtigjjjpcjnifhaaAbL2
import Derived.Sort.Row
import Derived.Sort.Grow
import Derived.Lib.AppendZeros
import Derived.Lib.AppendStr
set_option linter.unusedSimpArgs false
set_option linter.unusedVariables false
namespace Go.Ab
open Go Go.RowKit
variable {P:Program} {g:Ghost} {δ:DS} {k:Wt} {late:List Nat} {l:List Oper} {dn:List Nat} {QD:Exit→DS→Prop} {ro:Option Nat}
def directB (ops:Array Oper) (i j:Nat):Bool:=match ops[j]? with
 |some o=>o.after.any fun e=>Region.binds .any e && e.on==i
 |none=>false
theorem directB_waits {ops:Array Oper} {i j n:Nat} (h:directB ops i j=true):waitsB ops i (n+1) j=true:=by
 unfold directB at h
 unfold waitsB
 cases ho:ops[j]? with
 |none=>rw[ho] at h;cases h
 |some o=>
  rw[ho] at h
  simp only at h ⊢
  obtain⟨e,he,hb⟩:=Array.any_eq_true'.1 h
  refine Array.any_eq_true'.2 ⟨e,he,?_⟩
  simp only[Bool.and_eq_true,Bool.or_eq_true] at hb ⊢
  exact⟨hb.1,.inl hb.2⟩
def firstD (l:List Oper) (late:List Nat):List Nat→List Nat→Bool
 |[],_=>true
 |i::r,dn=>freeB l late dn i && late.all (fun j=>directB l.toArray i j||waitsB l.toArray i l.length j) && firstD l late r (i::dn)
theorem firstD_first:∀(l2 dn:List Nat),firstD l late l2 dn=true→firstB l late l2 dn=true
 |[],_,_=>rfl
 |i::r,dn,h=>by
  unfold firstD at h
  unfold firstB
  simp only[Bool.and_eq_true] at h ⊢
  refine⟨⟨h.1.1,List.all_eq_true.2 fun j hj=>?_⟩,firstD_first r _ h.2⟩
  have h1:=(List.all_eq_true.1 h.1.2) j hj
  rcases Bool.or_eq_true _ _▸h1 with h2|h2
  ·cases hl:l.length with
   |zero=>simp only[List.length_eq_zero_iff] at hl;subst hl;simp [directB] at h2
   |succ n=>exact directB_waits h2
  ·exact h2
theorem AR.reads (l2:List Nat) (hB:firstD l late l2 dn=true) (hL:lateIn late (setL l.length dn)=false) (hle:Nat.ble (l2.length+dn.length) l.length=true)
  (h:∀g':Ghost,Gs g' g→AOps .held P g' l.toArray (pick l l2) (onlyN fun δ'=>∀k':Wt,k'.2.2=δ.nx→AR P g k' late l QD (l2.reverse++dn) δ') δ):AR P g k late l QD dn δ:=by
 intro hdc κ a w r
 have hle':l2.length+dn.length≤l.length:=by simpa using hle
 have h1:=h (gOf g k late (setL l.length dn)) ⟨rfl,rfl,rfl⟩ κ a w r
 have hwt:=r.wt k (show(if lateIn late (setL l.length dn)=true then none else some k)=some k by rw[hL];rfl)
 obtain⟨k',hk⟩:∃k':Wt,k'=(w,(fun b=>b<w.heap.size∧((∀i,δ.lr i→κ i≠some b)∧¬κ.Fs b)),δ.nx):=⟨_,rfl⟩
 have hsub:∀listed w',Sof k' late listed w'→Sof k late listed w':=by
  intro listed w' h3 hl b hb
  obtain⟨h4,h5⟩:=hwt.1 b hb
  have h6:b<w.heap.size:=by
   rw[Array.getElem?_eq_getElem h4] at h5
   exact(Array.getElem?_eq_some_iff.1 h5).1
  have h7:k'.2.1 b:=by
   rw[hk]
   exact⟨h6,fun i hi hκ=>hwt.2 i b ⟨_,hi⟩ (.inl hi) hκ hb,fun⟨j,hj⟩=>(r.fr.2 j b hj).1.2 k (show(if lateIn late (setL l.length dn)=true then none else some k)=some k by rw[hL];rfl) hb⟩
  have h8:=(h3 hl b h7).2
  rw[hk] at h8
  exact⟨h4,h8.trans h5⟩
 have hfrom:∀(fuel:Nat) (listed:Array Bool) (a:Act) (w':World),wpAnyL g.ro P l.toArray (postN g QD) (Sof k' late) fuel listed a w'→wpAnyL g.ro P l.toArray (postN g QD) (Sof k late) fuel listed a w':=by
  intro fuel
  induction fuel with
  |zero=>intro _ _ _ h;exact h
  |succ fuel ih=>intro listed a w' h;exact⟨h.1,fun i hi=>wpOpIn_mono (fun a' w'' h'=>⟨hsub _ _ h'.1,ih _ _ _ h'.2⟩) (h.2 i hi)⟩
 have hfu:l.length - dn.length=l2.length+(l.length - (l2.reverse++dn).length):=by simp;omega
 rw[hfu]
 have hk0:Sof k' late (setL l.length dn) w:=fun _ b hb=>by subst hk;exact⟨hb.1,rfl⟩
 refine hfrom _ _ _ _ (heldIn (ro:=g.ro) (g:=g) (QD:=QD) (late:=late) (l:=l) (P:=P) (δ0:=δ) (κ1:=κ) (w1:=w) (k:=k') (by rw[hk]) (by rw[hk]) (N:=l.length - (l2.reverse++dn).length) l2 dn a (firstD_first _ _ hB) hdc hk0 h1 (fun a' ha' hd'=>?_))
 obtain⟨δ',hq,hobj,r2⟩:=ha'
 refine hq k' (by rw[hk]) hd' κ a' w ?_
 have hob:∀i,δ'.ob i=δ.ob i:=fun i=>by unfold DS.ob;rw[hobj]
 refine Rel.rewt (g:=gOf g k late (setL l.length dn)) r2 (wt':=if lateIn late (setL l.length (l2.reverse++dn))=true then none else some k') (fun k'' hk'=>?_) (fun k'' hk' b hb hkb=>?_)
 rotate_left
 ·split at hk'
  ·cases hk'
  ·cases hk'
   subst hk
   exact hkb.2.2 hb
 split at hk'
 ·cases hk'
 ·cases hk'
  subst hk
  refine⟨fun b hb=>⟨hb.1,rfl⟩,fun i b hli hor hκ hb=>?_⟩
  rcases hor with hor|hor
  ·exact hb.2.1 i (by have:δ'.ob i=some .row:=hor;rw[hob] at this;exact this) hκ
  ·obtain⟨o,hli⟩:=hli
   rw[hob] at hli
   exact absurd (r.nx i ⟨o,hli⟩) (Nat.not_lt.2 hor)
end Go.Ab
/- A part of a box,loaded as a whole. -/
namespace Go.Ab
open Go Go.RowKit
inductive Sub:Nat→Nat→List AV→List AV→Prop where
 |nil {l}:Sub 0 0 l []
 |take {n a l vs}:Sub 0 n l vs→Sub 0 (n+1) (a::l) (a::vs)
 |skip {k n a l vs}:Sub k n l vs→Sub (k+1) n (a::l) vs
theorem Sub.spec {k n:Nat} {l vs:List AV} (h:Sub k n l vs):(l.drop k).take n=vs∧k+n≤l.length:=by
 induction h with
 |nil=>simp
 |take _ ih=>simp at ih ⊢;exact⟨ih.1,ih.2⟩
 |skip _ ih=>simp at ih ⊢;exact⟨ih.1,by omega⟩
variable {q:Md} {P:Program} {g:Ghost} {δ:DS} {ops:Array Oper} {rest:List Oper} {Q:Exit→DS→Prop} {dst:Option Nat} {ty:TypeId} {pos:String} {af:Array Edge}
theorem AOps.load_bs {x:Operand} {t:TypeId} {i off n:Nat} {cells vs:List AV} (hx:δ.ev x=.ptr i off) (hb:δ.ob i=some (.box cells)) (hn:(P.info? t).map (·.size)=some n) (hs:Sub off n cells vs) (ht:aggT P t n=true) (ho:okT x=true) (hd:okD δ.n dst=true)
  (hK:AOps q P g ops rest Q (δ.putd dst (.agg vs))):AOps q P g ops (⟨dst,.load t x,ty,pos,af,none⟩::rest) Q δ:=
 AOps.load_bn (n:=n) hx hb ht (by simpa using hs.spec.2) ho hd (by rw[hs.spec.1];exact hK)
theorem AOps.pickBt {x y z:Operand} {b:Bool} {v:PV} (hx:δ.ev x=litB b) (hy:δ.ev y=.pv v) (hb:b=true) (ho:okT x=true) (hoy:okT y=true) (hoz:okT z=true) (hd:okD δ.n dst=true)
  (hK:AOps q P g ops rest Q (δ.putd dst (.pv v))):AOps q P g ops (⟨dst,.pick x y z,ty,pos,af,none⟩::rest) Q δ:=AOps.pick_lt (hb▸hx) hy ho hoy hoz hd hK
theorem AOps.pickBf {x y z:Operand} {b:Bool} {v:PV} (hx:δ.ev x=litB b) (hz:δ.ev z=.pv v) (hb:b=false) (ho:okT x=true) (hoy:okT y=true) (hoz:okT z=true) (hd:okD δ.n dst=true)
  (hK:AOps q P g ops rest Q (δ.putd dst (.pv v))):AOps q P g ops (⟨dst,.pick x y z,ty,pos,af,none⟩::rest) Q δ:=AOps.pick_lf (hb▸hx) hz ho hoy hoz hd hK
variable {gd:Option (Tmp×Bool)}
theorem Eff.bs1a3 {t e:TypeId} {x0:Operand} {p0 p1 p2:PV} {z:Value} (ht:P.underlying t=some (.slice e)) (h0:δ.ev x0=.agg [.pv p0,.pv p1,.pv p2]) (hi:(P.info? e).map (fun i=>(i.size,i.zero))=some (3,some z)) (hz:z.cells.toList.all (·.oneCell')=true) (hzk:Nat.beq z.cells.size 3=true)
  (k0:AV.one (.pv p0)=true) (k1:AV.one (.pv p1)=true) (k2:AV.one (.pv p2)=true) (o0:okT x0=true) (hd:okD δ.n dst=true):Eff P g ⟨dst,.buildSlice t 1 [(0,x0)].toArray,ty,pos,af,gd⟩ δ ((δ.addOb .row).putd dst (.own δ.nx e 3 [[p0,p1,p2]])):=by
 have hf:fillA (fun i=>some (i*3,3)) (zerosA z (1*3)) (([(0,x0)]:List (Nat×Operand)).map fun p=>(p.1,δ.ev p.2))=some [.pv p0,.pv p1,.pv p2]:=by
  simp [fillA,setsA,AV.cellsOf,AV.ones,zerosA,h0,k0,k1,k2]<;>rfl
 exact Eff.buildSlice (len:=1) (k:=3) (parts:=[(0,x0)]) (cells:=[.pv p0,.pv p1,.pv p2]) ht hi hzk rfl rfl hz (by simp [o0]) hf (by simp [AV.isPv]) hd
theorem AOps.bs1a3 {t e:TypeId} {x0:Operand} {p0 p1 p2:PV} {z:Value} (ht:P.underlying t=some (.slice e)) (h0:δ.ev x0=.agg [.pv p0,.pv p1,.pv p2]) (hi:(P.info? e).map (fun i=>(i.size,i.zero))=some (3,some z)) (hz:z.cells.toList.all (·.oneCell')=true) (hzk:Nat.beq z.cells.size 3=true)
  (k0:AV.one (.pv p0)=true) (k1:AV.one (.pv p1)=true) (k2:AV.one (.pv p2)=true) (o0:okT x0=true) (hd:okD δ.n dst=true) (hK:AOps .plain P g ops rest Q ((δ.addOb .row).putd dst (.own δ.nx e 3 [[p0,p1,p2]]))):
  AOps .plain P g ops (⟨dst,.buildSlice t 1 [(0,x0)].toArray,ty,pos,af,none⟩::rest) Q δ:=AOps.eff rfl rfl (Eff.bs1a3 ht h0 hi hz hzk k0 k1 k2 o0 hd) hK
end Go.Ab
/- The checks over a region's orders,quick for the kernel:what is listed lies as the bits of one number. -/
namespace Go.Ab
open Go Go.RowKit
variable {P:Program} {g:Ghost} {δ:DS} {k:Wt} {late:List Nat} {l:List Oper} {dn:List Nat} {QD:Exit→DS→Prop}
def maskL (n:Nat):List Nat→Nat
 |[]=>0
 |i::d=>bif Nat.blt i n then maskL n d|||(1<<<i) else maskL n d
theorem maskL_spec {n:Nat}:∀{d:List Nat} {j:Nat},(maskL n d).testBit j=(setL n d).getD j false
 |[],j=>by
  show Nat.testBit 0 j=(Array.replicate n false).getD j false
  rw[Nat.zero_testBit]
  simp [Array.getD_eq_getD_getElem?,Array.getElem?_replicate]
  split<;>rfl
 |i::d,j=>by
  show(bif Nat.blt i n then maskL n d|||(1<<<i) else maskL n d).testBit j=((setL n d).setIfInBounds i true).getD j false
  rw[getD_set]
  have hsz:(setL n d).size=n:=by
   clear j
   induction d with
   |nil=>simp [setL]
   |cons i d ih=>simp [setL,ih]
  by_cases hi:i<n
  ·have hb:Nat.blt i n=true:=by simpa using hi
   rw[hb,cond_true,Nat.testBit_or,maskL_spec,Nat.one_shiftLeft,Nat.testBit_two_pow]
   by_cases hij:i=j
   ·subst hij;simp [hsz,hi]
   ·simp [hij]
  ·have hb:Nat.blt i n=false:=by
    cases h:Nat.blt i n with
    |false=>rfl
    |true=>exact absurd (by simpa using h) hi
   rw[hb,cond_false,maskL_spec]
   by_cases hij:i=j
   ·subst hij
    rw[if_pos rfl,if_neg (by omega)]
    simp [Array.getD_eq_getD_getElem?,Array.getElem?_eq_none (by omega:(setL n d).size≤i)]
   ·rw[if_neg hij]
def afterM (m:Nat) (o:Oper):Bool:=o.after.toList.all fun e=>!Region.binds .any e||m.testBit e.on
def readyM (m:Nat):Nat→List Oper→List Nat
 |_,[]=>[]
 |j,o::r=>bif !m.testBit j && afterM m o then j::readyM m (j+1) r else readyM m (j+1) r
theorem readyM_filter (m:Nat):∀(l:List Oper) (j:Nat),readyM m j l=((List.range l.length).filter fun i=>!m.testBit (j+i) && ((l[i]?).map (afterM m)).getD false).map (j+·)
 |[],_=>rfl
 |o::r,j=>by
  rw[List.length_cons,List.range_succ_eq_map,List.filter_cons,readyM,readyM_filter m r (j+1)]
  simp only[Nat.add_zero,List.getElem?_cons_zero,Option.map_some,Option.getD_some,List.filter_map]
  have e:(List.map (fun x=>j+x) (List.map Nat.succ (List.filter ((fun i=>!m.testBit (j+i) && (Option.map (afterM m) (o::r)[i]?).getD false)∘Nat.succ) (List.range r.length))))=List.map (fun x=>j+1+x) (List.filter (fun i=>!m.testBit (j+1+i) && (Option.map (afterM m) r[i]?).getD false) (List.range r.length)):=by
   rw[List.map_map]
   have e2:((fun i=>!m.testBit (j+i) && (Option.map (afterM m) (o::r)[i]?).getD false)∘Nat.succ)=(fun i=>!m.testBit (j+1+i) && (Option.map (afterM m) r[i]?).getD false):=by
    funext i
    simp only[Function.comp,Nat.succ_eq_add_one,List.getElem?_cons_succ]
    rw[show j+(i+1)=j+1+i by omega]
   rw[e2]
   apply List.map_congr_left
   intro i _
   simp only[Function.comp,Nat.succ_eq_add_one]
   omega
  cases (!m.testBit j && afterM m o) with
  |true=>simp only[cond_true,if_true,List.map_cons,Nat.add_zero];rw[e]
  |false=>simp only[cond_false,Bool.false_eq_true,if_false];rw[e]
theorem readyM_eq:Region.ready .any l.toArray (setL l.length dn)=readyM (maskL l.length dn) 0 l:=by
 rw[readyM_filter]
 unfold Region.ready
 simp only[Nat.zero_add,List.size_toArray]
 rw[show(fun x:Nat=>x)=id from rfl,List.map_id]
 apply List.filter_congr
 intro i hi
 have hil:i<l.length:=List.mem_range.1 hi
 have e1:(setL l.length dn).getD i true=(maskL l.length dn).testBit i:=by
  rw[maskL_spec]
  have hsz:(setL l.length dn).size=l.length:=by
   clear hi hil
   generalize l.length=n
   induction dn with
   |nil=>simp [setL]
   |cons i d ih=>simp [setL,ih]
  rw[Array.getD_eq_getD_getElem?,Array.getD_eq_getD_getElem?,Array.getElem?_eq_getElem (by omega)];rfl
 rw[e1]
 congr 1
 rw[List.getElem?_toArray]
 congr 2
 funext o
 unfold afterM
 rw[← Array.all_toList]
 congr 1
 funext e
 rw[maskL_spec]
theorem readyIs_M {rs:List Nat} (h:(readyM (maskL l.length dn) 0 l==rs)=true):readyIs l dn rs=true:=by
 unfold readyIs;rw[readyM_eq];exact h
def lateM (late:List Nat) (m:Nat):Bool:=late.any m.testBit
theorem lateM_eq:lateIn late (setL l.length dn)=lateM late (maskL l.length dn):=by
 unfold lateIn lateM
 congr 1
 funext j
 rw[maskL_spec]
def freeJ (ops:Array Oper) (m i:Nat) (oi:Oper):Nat→List Oper→Bool
 |_,[]=>true
 |j,o::r=>(Nat.beq j i||m.testBit j||o.after.toList.any (fun e=>Region.binds .any e && Nat.beq e.on i)||oi.apart ops o) && freeJ ops m i oi (j+1) r
theorem freeJ_spec {ops:Array Oper} {m i:Nat} {oi:Oper}:∀{l:List Oper} {j:Nat},freeJ ops m i oi j l=true→∀(x:Nat) (o:Oper),l[x]? =some o→(j+x==i||m.testBit (j+x)||(o.after.any (fun e=>Region.binds .any e && e.on==i)||oi.apart ops o))=true
 |[],_,_,x,o,h=>by simp at h
 |o'::r,j,h,x,o,hx=>by
  unfold freeJ at h
  rw[Bool.and_eq_true] at h
  cases x with
  |zero=>
   simp only[List.getElem?_cons_zero,Option.some.injEq] at hx
   subst hx
   have h1:=h.1
   simp only[Nat.add_zero]
   rw[← Array.any_toList]
   simpa [Bool.or_assoc] using h1
  |succ x=>
   rw[List.getElem?_cons_succ] at hx
   have:=freeJ_spec h.2 x o hx
   rwa [show j+1+x=j+(x+1) by omega] at this
def freeM (l:List Oper) (late:List Nat) (m:Nat) (i:Nat):Bool:=
 (readyM m 0 l).contains i && (match l[i]? with|some oi=>freeJ l.toArray m i oi 0 l|none=>false) && !late.contains i
def firstM (l:List Oper) (late:List Nat):List Nat→List Nat→Bool
 |[],_=>true
 |i::r,dn=>freeM l late (maskL l.length dn) i && late.all (fun j=>directB l.toArray i j||waitsB l.toArray i l.length j) && firstM l late r (i::dn)
def fineL (l:List Oper):Bool:=Region.noSelect l.toArray && l.all noDefer
theorem freeM_free {i:Nat} (hf:fineL l=true) (hl:Nat.blt dn.length l.length=true) (h:freeM l late (maskL l.length dn) i=true):freeB l late dn i=true:=by
 unfold fineL at hf
 unfold freeM at h
 unfold freeB
 simp only[Bool.and_eq_true] at hf h ⊢
 refine⟨⟨⟨⟨hf,by rw[readyM_eq];exact h.1.1⟩,?_⟩,h.2⟩,hl⟩
 have h2:=h.1.2
 unfold Region.free
 rw[List.getElem?_toArray]
 cases ho:l[i]? with
 |none=>rw[ho] at h2;cases h2
 |some oi=>
  rw[ho] at h2
  simp only at h2 ⊢
  rw[List.all_eq_true]
  intro j hj
  have hj':j<l.length:=by simpa using hj
  have h3:=freeJ_spec h2 j _ (List.getElem?_eq_getElem hj')
  rw[Nat.zero_add,maskL_spec] at h3
  have hsz:(setL l.length dn).size=l.length:=by
   clear hf h h2 h3 hl
   generalize l.length=n
   induction dn with
   |nil=>simp [setL]
   |cons i d ih=>simp [setL,ih]
  have e1:(setL l.length dn).getD j true=(setL l.length dn).getD j false:=by
   rw[Array.getD_eq_getD_getElem?,Array.getD_eq_getD_getElem?,Array.getElem?_eq_getElem (by omega)];rfl
  rw[e1,List.getElem?_toArray,List.getElem?_eq_getElem hj']
  exact h3
theorem firstM_first (hf:fineL l=true):∀(l2 dn:List Nat),Nat.ble (l2.length+dn.length) l.length=true→firstM l late l2 dn=true→firstD l late l2 dn=true
 |[],_,_,_=>rfl
 |i::r,dn,hle,h=>by
  unfold firstM at h
  unfold firstD
  simp only[Bool.and_eq_true] at h ⊢
  have hle':(i::r).length+dn.length≤l.length:=by simpa using hle
  simp only[List.length_cons] at hle'
  exact⟨⟨freeM_free hf (by simp;omega) h.1.1,h.1.2⟩,firstM_first hf r _ (by simp;omega) h.2⟩
theorem AR.readsM (l2:List Nat) (hf:fineL l=true) (hB:firstM l late l2 dn=true) (hL:lateM late (maskL l.length dn)=false) (hle:Nat.ble (l2.length+dn.length) l.length=true)
  (h:∀g':Ghost,Gs g' g→AOps .held P g' l.toArray (pick l l2) (onlyN fun δ'=>∀k':Wt,k'.2.2=δ.nx→AR P g k' late l QD (l2.reverse++dn) δ') δ):AR P g k late l QD dn δ:=
 AR.reads l2 (firstM_first hf _ _ hle hB) (by rw[lateM_eq];exact hL) hle h
theorem AR.doneM (hwt:g.wt=none) (hr:(readyM (maskL l.length dn) 0 l==[])=true) (h:QD .normal δ):AR P g k late l QD dn δ:=AR.done hwt (readyIs_M hr) h
theorem AR.step1M {i:Nat} {o:Oper} (hl:Nat.blt dn.length l.length=true) (hr:(readyM (maskL l.length dn) 0 l==[i])=true) (ho:l[i]? =some o)
  (h:∀g':Ghost,Gs g' g→(∀j,k.2.2≤j→g'.wtOk j)→AOps .plain P g' l.toArray [o] (onlyN (AR P g k late l QD (i::dn))) δ):AR P g k late l QD dn δ:=AR.step1 hl (readyIs_M hr) ho h
theorem AR.step1LM {i:Nat} {o:Oper} (hl:Nat.blt dn.length l.length=true) (hr:(readyM (maskL l.length dn) 0 l==[i])=true) (ho:l[i]? =some o) (hlt:lateM late (maskL l.length (i::dn))=true)
  (h:∀g':Ghost,Gs g' g→g'.wt=none→AOps .plain P g' l.toArray [o] (onlyN (AR P g k late l QD (i::dn))) δ):AR P g k late l QD dn δ:=AR.step1L hl (readyIs_M hr) ho (by rw[lateM_eq];exact hlt) h
theorem AR.step2M {i j:Nat} {o p:Oper} (hl:Nat.blt dn.length l.length=true) (hr:(readyM (maskL l.length dn) 0 l==[i,j])=true) (ho:l[i]? =some o) (hp:l[j]? =some p)
  (h:∀g':Ghost,Gs g' g→(∀j,k.2.2≤j→g'.wtOk j)→AOps .plain P g' l.toArray [o] (onlyN (AR P g k late l QD (i::dn))) δ)
  (h':∀g':Ghost,Gs g' g→(∀j,k.2.2≤j→g'.wtOk j)→AOps .plain P g' l.toArray [p] (onlyN (AR P g k late l QD (j::dn))) δ):AR P g k late l QD dn δ:=AR.step2 hl (readyIs_M hr) ho hp h h'
theorem AW.regionM {id:Nat} (l1:List Nat) (late:List Nat) {l:List Oper} (hm:P.follows .mixedOrders=true) (hwt:g.wt=none) (hf:fineL l=true) (hB:firstM l late l1 []=true) (hle:Nat.ble l1.length l.length=true)
  (h:AOps .held P g l.toArray (pick l l1) (onlyN fun δ'=>∀k:Wt,k.2.2=δ.nx→AR P g k late l QD l1.reverse δ') δ):AW P g (.region id l.toArray true) QD δ:=
 AW.regionE l1 late hm hwt (firstD_first _ _ (firstM_first hf _ _ (by simpa using hle) hB)) hle h
end Go.Ab
/- A loop's state told by what stays of the state before it and what changes. -/
namespace Go.Ab
open Go Go.RowKit
variable {P:Program} {g:Ghost} {δ:DS}
def selE (e:List (Nat×AV)):List Nat→List (Nat×AV)
 |[]=>[]
 |k::ks=>(k,look e k)::selE e ks
def selO (o:List (Nat×Option Ob)):List Nat→List (Nat×Option Ob)
 |[]=>[]
 |k::ks=>(k,lookOb o k)::selO o ks
def nxUp:List (Nat×Option Ob)→Nat→Nat
 |[],n=>n
 |(k,_)::r,n=>nxUp r (bif Nat.ble n k then k+1 else n)
namespace Nf
theorem nx0 (n:Nat):nxUp [] n=n:=rfl
theorem nx1 (k n:Nat) (v:Option Ob) (r:List (Nat×Option Ob)):nxUp ((k,v)::r) n=nxUp r (bif Nat.ble n k then k+1 else n):=rfl
def ao:List (Nat×Option Ob)→List (Nat×Option Ob)→List (Nat×Option Ob)
 |[],m=>m
 |v::r,m=>v::ao r m
theorem ao0 (m:List (Nat×Option Ob)):ao [] m=m:=rfl
theorem ao1 (v:Nat×Option Ob) (r m:List (Nat×Option Ob)):ao (v::r) m=v::ao r m:=rfl
theorem se0 (e:List (Nat×AV)):selE e []=[]:=rfl
theorem se1 (e:List (Nat×AV)) (k:Nat) (ks:List Nat):selE e (k::ks)=(k,look e k)::selE e ks:=rfl
theorem so0 (e:List (Nat×Option Ob)):selO e []=[]:=rfl
theorem so1 (e:List (Nat×Option Ob)) (k:Nat) (ks:List Nat):selO e (k::ks)=(k,lookOb e k)::selO e ks:=rfl
set_option linter.defProp false in
def lpR:=And.intro @nx0 (And.intro @nx1 (And.intro @ao0 (And.intro @ao1 (And.intro @se0 (And.intro @se1 (And.intro @so0 @so1))))))
end Nf
theorem AW.loopR {S:Type} {c:Code} {Q:Exit→DS→Prop} (ks os:List Nat) (u:S→List (Nat×AV)) (ou:S→List (Nat×Option Ob)) (I:S→Prop) (μ:S→Nat) (s0:S) {D:S→DS}
  (hD:(fun s=>(⟨δ.n,Nf.ae (u s) (selE δ.env ks),Nf.ao (ou s) (selO δ.objs os),nxUp (ou s) δ.nx⟩:DS))=D) (hs:I s0) (hw:Weak g δ (D s0))
  (round:∀s,I s→AW P g c (thenD (fun δ'=>∃s',I s'∧μ s'<μ s∧Weak g δ' (D s')) Q) (D s)):AW P g (.loop c) Q δ:=AW.loop D I μ s0 hs hw round
end Go.Ab
/- Quotient and remainder of numbers that are not below zero. -/
namespace Go.Ab
open Go Go.RowKit
variable {q:Md} {P:Program} {g:Ghost} {δ:DS} {ops:Array Oper} {rest:List Oper} {Q:Exit→DS→Prop} {dst:Option Nat} {ty:TypeId} {pos:String} {af:Array Edge} {x y:Operand} {m n:Int} {t t':TypeId}
theorem AOps.remE (hx:δ.ev x=litI m) (hy:δ.ev y=litI n) (ho:okT x=true) (ho':okT y=true) (hd:okD δ.n dst=true) (h0:0≤m∧0<n) (hK:AOps q P g ops rest Q (δ.putd dst (litI (m % n)))):AOps q P g ops (⟨dst,.binOp .rem t x y t',ty,pos,af,none⟩::rest) Q δ:=
 AOps.rem hx hy ho ho' hd (by omega) (by rw[Int.tmod_eq_emod_of_nonneg h0.1];exact hK)
end Go.Ab
/- Two objects' names exchanged;the orders of a drawn region brought together again. -/
namespace Go.Ab
open Go Go.RowKit
variable {P:Program} {g:Ghost} {δ:DS} {κ:Kp} {a:Act} {w:World}
def swN (i j x:Nat):Nat:=bif Nat.beq i x then j else bif Nat.beq j x then i else x
theorem swN_if (i j x:Nat):swN i j x=if i=x then j else if j=x then i else x:=by
 unfold swN
 by_cases h1:i=x
 ·subst h1;simp
 ·rw[beq_ne h1,if_neg h1]
  by_cases h2:j=x
  ·subst h2;simp
  ·rw[beq_ne h2,if_neg h2];rfl
theorem swN_sw (i j x:Nat):swN i j (swN i j x)=x:=by
 simp only[swN_if]
 split<;>split<;>(try split)<;>omega
mutual
def AV.sw (i j:Nat):AV→AV
 |.any=> .any
 |.pv p=> .pv p
 |.own x e k els=> .own (swN i j x) e k els
 |.ptr x o=> .ptr (swN i j x) o
 |.rptr c=> .rptr c
 |.optr x e k els n=> .optr (swN i j x) e k els n
 |.agg cs=> .agg (AV.swL i j cs)
 |.tup cs=> .tup (AV.swL i j cs)
 |.clo fn cs ds=> .clo fn (AV.swL i j cs) (AV.swL i j ds)
 |.mapr x=> .mapr (swN i j x)
 |.yld x=> .yld (swN i j x)
def AV.swL (i j:Nat):List AV→List AV
 |[]=>[]
 |c::cs=>AV.sw i j c::AV.swL i j cs
end
theorem AV.swL_eq (i j:Nat):∀l,AV.swL i j l=l.map (AV.sw i j)
 |[]=>rfl
 |c::cs=>by simp [AV.swL,AV.swL_eq i j cs]
def Ob.sw (i j:Nat):Ob→Ob
 |.row=> .row
 |.box cs=> .box (AV.swL i j cs)
 |.mp l=> .mp (l.map fun p=>(p.1,p.2.sw i j))
 |.mpl l k v=> .mpl (l.map fun p=>(p.1,p.2.sw i j)) k (v.sw i j)
 |.it l seen=> .it l seen
 |.lit T vals=> .lit T vals
 |.pool e rows=> .pool e rows
 |.loop l tm ps asg body st=> .loop l tm ps asg body st
theorem Ob.sw_row (i j:Nat) (o:Ob):(o.sw i j).isRow=o.isRow:=by cases o<;>rfl
def swE (i j:Nat):List (Nat×AV)→List (Nat×AV)
 |[]=>[]
 |(x,v)::r=>(x,v.sw i j)::swE i j r
def swO (i j:Nat):List (Nat×Option Ob)→List (Nat×Option Ob)
 |[]=>[]
 |(x,none)::r=>(swN i j x,none)::swO i j r
 |(x,some o)::r=>(swN i j x,some (o.sw i j))::swO i j r
def DS.sw (δ:DS) (i j:Nat):DS:=⟨δ.n,swE i j δ.env,swO i j δ.objs,δ.nx⟩
theorem look_sw (i j:Nat) (k:Nat):∀e,look (swE i j e) k=(look e k).sw i j
 |[]=>rfl
 |(x,v)::r=>by
  unfold swE
  simp only[look_cons,look_sw i j k r]
  split<;>rfl
theorem lookOb_sw (i j:Nat) (k:Nat):∀e,lookOb (swO i j e) (swN i j k)=(lookOb e k).map (Ob.sw i j)
 |[]=>rfl
 |(x,o)::r=>by
  have hx:(swN i j x=swN i j k)=(x=k):=by
   apply propext
   constructor
   ·intro h;rw[← swN_sw i j x,h,swN_sw]
   ·intro h;rw[h]
  cases o with
  |none=>
   unfold swO
   simp only[lookOb_cons,lookOb_sw i j k r,hx]
   split<;>rfl
  |some o=>
   unfold swO
   simp only[lookOb_cons,lookOb_sw i j k r,hx]
   split<;>rfl
theorem ob_sw (i j k:Nat):(δ.sw i j).ob k=(δ.ob (swN i j k)).map (Ob.sw i j):=by
 have:=lookOb_sw i j (swN i j k) δ.objs
 rw[swN_sw] at this
 exact this
theorem live_sw (i j k:Nat):(δ.sw i j).live k↔δ.live (swN i j k):=by
 unfold DS.live
 rw[ob_sw]
 cases δ.ob (swN i j k)<;>simp
theorem lr_sw (i j k:Nat):(δ.sw i j).lr k↔δ.lr (swN i j k):=by
 unfold DS.lr
 rw[ob_sw]
 cases h:δ.ob (swN i j k) with
 |none=>simp
 |some o=>cases o<;>simp [Ob.sw]
theorem lb_sw (i j k:Nat):(δ.sw i j).lb k↔δ.lb (swN i j k):=by
 unfold DS.lb
 rw[ob_sw]
 cases h:δ.ob (swN i j k) with
 |none=>simp
 |some o=>simp [Ob.sw_row]
def swK (i j:Nat) (κ:Kp):Kp:=⟨fun x=>κ (swN i j x),fun x b=>κ.F (swN i j x) b⟩
theorem Fs_sw (i j b:Nat):(swK i j κ).Fs b↔κ.Fs b:=by
 constructor
 ·rintro⟨x,h⟩;exact⟨_,h⟩
 ·rintro⟨x,h⟩;exact⟨swN i j x,by show κ.F (swN i j (swN i j x)) b;rw[swN_sw];exact h⟩
theorem N_sw (i j b:Nat):((δ.sw i j).cx g (swK i j κ)).N b↔(δ.cx g κ).N b:=by
 show((g.N0 b∧_)∧_)↔((g.N0 b∧_)∧_)
 constructor
 ·rintro⟨h1,h2⟩
  refine⟨⟨h1.1,fun h=>h1.2 ((Fs_sw i j b).2 h)⟩,fun x hx=>?_⟩
  have:=h2 (swN i j x) ((live_sw i j _).2 (by rw[swN_sw];exact hx))
  have this:κ (swN i j (swN i j x))≠some b:=this
  rwa [swN_sw] at this
 ·rintro⟨h1,h2⟩
  exact⟨⟨h1.1,fun h=>h1.2 ((Fs_sw i j b).1 h)⟩,fun x hx=>h2 _ ((live_sw i j _).1 hx)⟩
theorem rp_sw (i j:Nat) {v:Value} {p:PV} (h:RP (δ.cx g κ).N w v p):RP ((δ.sw i j).cx g (swK i j κ)).N w v p:=
 h.mono (Nat.le_refl _) fun b _ hb=>⟨(N_sw i j b).2 hb,rfl⟩
theorem own_sw (i j:Nat) {v:Value} {x:Nat} {e:TypeId} {k:Nat} {els:List (List PV)} (h:OwnV (δ.cx g κ) w v x e k els):OwnV ((δ.sw i j).cx g (swK i j κ)) w v (swN i j x) e k els:=by
 obtain⟨hl,hlim,hk,hb,xs,ho,h1,hx⟩:=h
 refine⟨(lr_sw i j _).2 (by rw[swN_sw];exact hl),hlim,hk,fun b hv=>?_,xs,ho,h1,fun i' j' p hp=>let ⟨u,h1,h2⟩:=hx i' j' p hp;⟨u,h1,rp_sw i j h2⟩⟩
 show κ (swN i j (swN i j x))=some b
 rw[swN_sw];exact hb b hv
theorem ra_sw (i j:Nat) {v:Value} {av:AV} (h:RA (δ.cx g κ) w v av):RA ((δ.sw i j).cx g (swK i j κ)) w v (av.sw i j):=by
 induction h with
 |any v=>exact .any v
 |pv h=>exact .pv (rp_sw i j h)
 |own h=>exact .own (own_sw i j h)
 |ptr hl hκ=>exact .ptr ((lb_sw i j _).2 (by rw[swN_sw];exact hl)) (by show κ (swN i j (swN i j _))=_;rw[swN_sw];exact hκ)
 |rptr b off vs hN hb hc hr=>exact .rptr b off vs ((N_sw i j b).2 hN) hb hc fun k p hp=>rp_sw i j (hr k p hp)
 |optr hi h=>exact .optr hi (own_sw i j h)
 |agg hs h ih=>
  show RA _ _ _ (.agg (AV.swL i j _))
  rw[AV.swL_eq]
  refine .agg (by simp [hs]) fun k u c hu hc=>?_
  rw[List.getElem?_map] at hc
  obtain⟨c',hc',rfl⟩:=Option.map_eq_some_iff.1 hc
  exact ih k u c' hu hc'
 |tup hs h ih=>
  show RA _ _ _ (.tup (AV.swL i j _))
  rw[AV.swL_eq]
  refine .tup (by simp [hs]) fun k u c hu hc=>?_
  rw[List.getElem?_map] at hc
  obtain⟨c',hc',rfl⟩:=Option.map_eq_some_iff.1 hc
  exact ih k u c' hu hc'
 |clo hs h ht h' ih ih'=>
  show RA _ _ _ (.clo _ (AV.swL i j _) (AV.swL i j _))
  rw[AV.swL_eq,AV.swL_eq]
  refine .clo (by simp [hs]) (fun k u c hu hc=>?_) (by simp [ht]) (fun k u c hu hc=>?_)
  ·rw[List.getElem?_map] at hc
   obtain⟨c',hc',rfl⟩:=Option.map_eq_some_iff.1 hc
   exact ih k u c' hu hc'
  ·rw[List.getElem?_map] at hc
   obtain⟨c',hc',rfl⟩:=Option.map_eq_some_iff.1 hc
   exact ih' k u c' hu hc'
 |mapr hl hκ=>exact .mapr ((lb_sw i j _).2 (by rw[swN_sw];exact hl)) (by show κ (swN i j (swN i j _))=_;rw[swN_sw];exact hκ)
 |yld hl hκ=>exact .yld ((lb_sw i j _).2 (by rw[swN_sw];exact hl)) (by show κ (swN i j (swN i j _))=_;rw[swN_sw];exact hκ)
theorem noOwn_sw (i j:Nat) (v:AV):(v.sw i j).noOwn=v.noOwn:=by cases v<;>rfl
theorem ObIs.sw (i j:Nat) {x:Nat} {o:Ob} (h:ObIs (δ.cx g κ) w x o):ObIs ((δ.sw i j).cx g (swK i j κ)) w (swN i j x) (o.sw i j):=by
 have hκ:∀y,((δ.sw i j).cx g (swK i j κ)).κ (swN i j y)=κ y:=fun y=>by show κ (swN i j (swN i j y))=_;rw[swN_sw]
 cases o with
 |row=>
  intro b hb
  rw[hκ] at hb
  exact h b hb
 |box cs=>
  obtain⟨b,c,e,h1,h2,h3,h4⟩:=h
  show ObIs _ _ _ (.box (AV.swL i j cs))
  rw[AV.swL_eq]
  refine⟨b,c,e,(hκ x).trans h1,h2,by simp [h3],fun k u av h5 h6=>?_⟩
  rw[List.getElem?_map] at h6
  obtain⟨c',hc',rfl⟩:=Option.map_eq_some_iff.1 h6
  exact⟨ra_sw i j (h4 k u c' h5 hc').1,(h4 k u c' h5 hc').2⟩
 |mp l=>
  obtain⟨b,es,clock,h1,h2,h3,h4,h5⟩:=h
  refine⟨b,es,clock,(hκ x).trans h1,h2,⟨by simp [h3.1],fun k e p h6 h7=>?_⟩,h4,fun p hp=>?_⟩
  ·rw[List.getElem?_map] at h7
   obtain⟨p',hp',rfl⟩:=Option.map_eq_some_iff.1 h7
   exact⟨(h3.2 k e p' h6 hp').1,ra_sw i j (h3.2 k e p' h6 hp').2⟩
  ·obtain⟨p',hp',rfl⟩:=List.mem_map.1 hp
   show(p'.2.sw i j).noOwn=true
   rw[noOwn_sw];exact h5 p' hp'
 |mpl l kk v=>
  obtain⟨b,es,clock,h1,h2,h3,h4,h5⟩:=h
  refine⟨b,es,clock,(hκ x).trans h1,h2,⟨by simpa using h3.1,fun k e p h6 h7=>?_⟩,h4,fun p hp=>?_⟩
  ·have h8:((l++ [(kk,v)]).map fun p=>(p.1,p.2.sw i j))[k]? =some p:=by simpa using h7
   rw[List.getElem?_map] at h8
   obtain⟨p',hp',rfl⟩:=Option.map_eq_some_iff.1 h8
   exact⟨(h3.2 k e p' h6 hp').1,ra_sw i j (h3.2 k e p' h6 hp').2⟩
  ·obtain⟨p',hp',rfl⟩:=List.mem_map.1 hp
   show(p'.2.sw i j).noOwn=true
   rw[noOwn_sw];exact h5 p' hp'
 |it l seen=>
  obtain⟨b,h1,h2⟩:=h
  exact⟨b,(hκ x).trans h1,h2.mono (Nat.le_refl _) (fun b _ hb=>⟨(N_sw i j b).2 hb,rfl⟩) rfl⟩
 |lit T vals=>obtain⟨b,h1,h2⟩:=h;exact⟨b,(hκ x).trans h1,h2⟩
 |pool e rows=>exact⟨(hκ x).trans h.1,fun k=>let ⟨h1,h2,h3,h4⟩:=h.2.1 k;⟨h1,h2,fun b hb=>(by show κ.F (swN i j (swN i j x)) b;rw[swN_sw];exact h3 b hb),h4⟩,h.2.2⟩
 |loop l tm ps asg body st=>
  obtain⟨b,r,h1,h2⟩:=h
  exact⟨b,r,(hκ x).trans h1,h2⟩
theorem Rel.sw (i j:Nat) (hi:i<δ.nx) (hj:j<δ.nx) (hw:∀k,g.wt=some k→k.2.2≤i∧k.2.2≤j) (r:Rel g δ κ a w):Rel g (δ.sw i j) (swK i j κ) a w where
 n:=r.n
 dfr:=r.dfr
 env:=fun k=>by
  have e:(δ.sw i j).get k=(δ.get k).sw i j:=look_sw i j k δ.env
  rw[e];exact ra_sw i j (r.env k)
 obj:=fun x o h=>by
  rw[ob_sw] at h
  obtain⟨o',ho',rfl⟩:=Option.map_eq_some_iff.1 h
  have:=(r.obj _ o' ho').sw i j
  rwa [swN_sw] at this
 inj:=fun x y b hx hy h1 h2=>by
  have:=r.inj _ _ b ((live_sw i j x).1 hx) ((live_sw i j y).1 hy) h1 h2
  rw[← swN_sw i j x,this,swN_sw]
 lo:=fun x b hx h1=>r.lo _ b ((live_sw i j x).1 hx) h1
 nx:=fun x hx=>by
  have:=r.nx _ ((live_sw i j x).1 hx)
  show x<δ.nx
  rw[swN_if] at this
  split at this
  ·omega
  ·split at this<;>omega
 wt:=fun k hk=>by
  obtain⟨h1,h2⟩:=hw k hk
  refine⟨(r.wt k hk).1,fun x b hx hor hκ=>(r.wt k hk).2 (swN i j x) b ((live_sw i j x).1 hx) ?_ hκ⟩
  rcases hor with hor|hor
  ·exact .inl ((lr_sw i j x).1 hor)
  ·right
   rw[swN_if]
   split
   ·exact h2
   ·split
    ·exact h1
    ·exact hor
 below:=r.below
 hB:=r.hB
 N0:=r.N0
 mkf:=r.mkf
 fr:=by
  refine⟨fun b hb=>?_,fun x b hb=>?_⟩
  ·obtain⟨h1,h2,h3⟩:=r.fr.1 b hb
   exact⟨h1,h2,fun x hx=>h3 _ ((live_sw i j x).1 hx)⟩
  ·obtain⟨h1,h2,h3,h4,h5⟩:=r.fr.2 _ b hb
   refine⟨h1,h2,h3,fun y hy=>h4 _ ((live_sw i j y).1 hy),fun y hy=>?_⟩
   rw[← swN_sw i j y,h5 _ hy,swN_sw]
namespace Nf
variable {n x:Nat} {e:List (Nat×AV)} {o:List (Nat×Option Ob)} {i j k:Nat}
theorem sw:DS.sw ⟨n,e,o,x⟩ i j=⟨n,swE i j e,swO i j o,x⟩:=rfl
theorem swE0:swE i j []=[]:=rfl
theorem swE1 (v:AV) (r:List (Nat×AV)):swE i j ((k,v)::r)=(k,v.sw i j)::swE i j r:=rfl
theorem swO0:swO i j []=[]:=rfl
theorem swOn (r:List (Nat×Option Ob)):swO i j ((k,none)::r)=(swN i j k,none)::swO i j r:=rfl
theorem swOr (r:List (Nat×Option Ob)):swO i j ((k,some .row)::r)=(swN i j k,some .row)::swO i j r:=rfl
theorem swOpo (e:TypeId) (p:Nat→Value×List Value) (r:List (Nat×Option Ob)):swO i j ((k,some (.pool e p))::r)=(swN i j k,some (.pool e p))::swO i j r:=rfl
theorem swOb (cs:List AV) (r:List (Nat×Option Ob)):swO i j ((k,some (.box cs))::r)=(swN i j k,some (.box (AV.swL i j cs)))::swO i j r:=rfl
theorem swOi (l:List (Value×PV)) (s:List Nat) (r:List (Nat×Option Ob)):swO i j ((k,some (.it l s))::r)=(swN i j k,some (.it l s))::swO i j r:=rfl
theorem swOl (l tm ps asg body st) (r:List (Nat×Option Ob)):swO i j ((k,some (.loop l tm ps asg body st))::r)=(swN i j k,some (.loop l tm ps asg body st))::swO i j r:=rfl
theorem swL0:AV.swL i j []=[]:=rfl
theorem swL1 (v:AV) (r:List AV):AV.swL i j (v::r)=v.sw i j::AV.swL i j r:=rfl
theorem swA0:AV.sw i j .any=.any:=rfl
theorem swA1 (p:PV):AV.sw i j (.pv p)=.pv p:=rfl
theorem swA2 (e m els):AV.sw i j (.own k e m els)=.own (swN i j k) e m els:=rfl
theorem swA3 (m:Nat):AV.sw i j (.ptr k m)=.ptr (swN i j k) m:=rfl
theorem swA4 (c:List PV):AV.sw i j (.rptr c)=.rptr c:=rfl
theorem swA5 (e m els m'):AV.sw i j (.optr k e m els m')=.optr (swN i j k) e m els m':=rfl
theorem swA6 (c:List AV):AV.sw i j (.agg c)=.agg (AV.swL i j c):=rfl
theorem swA7 (c:List AV):AV.sw i j (.tup c)=.tup (AV.swL i j c):=rfl
theorem swA8 (f) (c d:List AV):AV.sw i j (.clo f c d)=.clo f (AV.swL i j c) (AV.swL i j d):=rfl
theorem swA9:AV.sw i j (.mapr k)=.mapr (swN i j k):=rfl
theorem swAa:AV.sw i j (.yld k)=.yld (swN i j k):=rfl
theorem swNd:swN i j k=bif Nat.beq i k then j else bif Nat.beq j k then i else k:=rfl
set_option linter.defProp false in
def swR:=And.intro @sw (And.intro @swE0 (And.intro @swE1 (And.intro @swO0 (And.intro @swOn (And.intro @swOr (And.intro @swOpo (And.intro @swOb (And.intro @swOi (And.intro @swOl (And.intro @swL0 (And.intro @swL1 (And.intro @swA0 (And.intro @swA1 (And.intro @swA2 (And.intro @swA3 (And.intro @swA4 (And.intro @swA5 (And.intro @swA6 (And.intro @swA7 (And.intro @swA8 (And.intro @swA9 (And.intro @swAa @swNd))))))))))))))))))))))
end Nf
variable {k:Wt} {late:List Nat} {l:List Oper} {dn:List Nat} {QD:Exit→DS→Prop}
theorem AR.weakG {δ':DS} (hw:∀g':Ghost,(∀k',g'.wt=some k'→k'=k)→Weak g' δ δ') (h:AR P g k late l QD dn δ'):AR P g k late l QD dn δ:=by
 intro hdc κ a w r
 obtain⟨κ',r'⟩:=hw _ (fun k' hk'=>by
  have:(if lateIn late (setL l.length dn)=true then none else some k)=some k':=hk'
  split at this
  ·cases this
  ·cases this;rfl) κ a w r
 exact h hdc κ' a w r'
theorem AR.sw (i j:Nat) {m:Nat} (hk:k.2.2=m) (hi:(Nat.ble m i && Nat.blt i δ.nx)=true) (hj:(Nat.ble m j && Nat.blt j δ.nx)=true) (h:AR P g k late l QD dn (δ.sw i j)):AR P g k late l QD dn δ:=by
 simp only[Bool.and_eq_true,Nat.ble_eq,Nat.blt_eq] at hi hj
 exact AR.weakG (fun g' hg κ a w r=>⟨_,r.sw i j hi.2 hj.2 fun k' hk'=>by rw[hg k' hk',hk];exact⟨hi.1,hj.1⟩⟩) h
theorem setL_size (n:Nat) (d:List Nat):(setL n d).size=n:=by
 induction d with
 |nil=>simp [setL]
 |cons i d ih=>simp [setL,ih]
theorem setL_mask {n:Nat} {d d':List Nat} (h:maskL n d=maskL n d'):setL n d=setL n d':=by
 apply Array.ext
 ·rw[setL_size,setL_size]
 ·intro i h1 h2
  have e1:=maskL_spec (n:=n) (d:=d) (j:=i)
  have e2:=maskL_spec (n:=n) (d:=d') (j:=i)
  rw[h] at e1
  rw[e1] at e2
  rw[Array.getD_eq_getD_getElem?,Array.getD_eq_getD_getElem?,Array.getElem?_eq_getElem h1,Array.getElem?_eq_getElem h2] at e2
  exact e2
theorem AR.perm {J:List Nat} (hm:(maskL l.length dn==maskL l.length J && Nat.beq dn.length J.length)=true) (h:AR P g k late l QD J δ):AR P g k late l QD dn δ:=by
 simp only[Bool.and_eq_true,beq_iff_eq] at hm
 have hm:maskL l.length dn=maskL l.length J∧dn.length=J.length:=⟨hm.1,Nat.eq_of_beq_eq_true hm.2⟩
 have e:=setL_mask hm.1
 intro hdc κ a w r
 rw[hm.2]
 have h1:=h (by rw[← e];exact hdc) κ a w (by rw[← e];exact r)
 rw[e];exact h1
theorem AR.cut (J:List Nat) {δc:DS} (h1:AR P g k late l QD J δc→AR P g k late l QD dn δ) (h2:AR P g k late l QD J δc):AR P g k late l QD dn δ:=h1 h2
theorem AR.meet {J:List Nat} {δc:DS} (hJ:AR P g k late l QD J δc) (hm:(maskL l.length dn==maskL l.length J && Nat.beq dn.length J.length)=true) (hw:∀g':Ghost,Weak g' δ δc):AR P g k late l QD dn δ:=
 AR.weakG (fun g' _=>hw g') (AR.perm hm hJ)
theorem AR.step3M {i j m:Nat} {o p q:Oper} (hl:Nat.blt dn.length l.length=true) (hr:(readyM (maskL l.length dn) 0 l==[i,j,m])=true) (ho:l[i]? =some o) (hp:l[j]? =some p) (hq:l[m]? =some q)
  (h:∀g':Ghost,Gs g' g→(∀j,k.2.2≤j→g'.wtOk j)→AOps .plain P g' l.toArray [o] (onlyN (AR P g k late l QD (i::dn))) δ)
  (h':∀g':Ghost,Gs g' g→(∀j,k.2.2≤j→g'.wtOk j)→AOps .plain P g' l.toArray [p] (onlyN (AR P g k late l QD (j::dn))) δ)
  (h'':∀g':Ghost,Gs g' g→(∀j,k.2.2≤j→g'.wtOk j)→AOps .plain P g' l.toArray [q] (onlyN (AR P g k late l QD (m::dn))) δ):AR P g k late l QD dn δ:=
 AR.all hl (readyIs_M hr) (by simp) fun i' hi'=>by
  have hw:∀i',∀j,k.2.2≤j→(gOf g k late (setL l.length (i'::dn))).wtOk j:=by
   intro i' j hj k' hk'
   have:(if lateIn late (setL l.length (i'::dn))=true then none else some k)=some k':=hk'
   split at this
   ·cases this
   ·cases this;exact hj
  simp only[List.mem_cons,List.not_mem_nil,or_false] at hi'
  rcases hi' with rfl|rfl|rfl
  ·exact⟨o,ho,h _ ⟨rfl,rfl,rfl⟩ (hw _)⟩
  ·exact⟨p,hp,h' _ ⟨rfl,rfl,rfl⟩ (hw _)⟩
  ·exact⟨q,hq,h'' _ ⟨rfl,rfl,rfl⟩ (hw _)⟩
theorem AR.step2LL {i j:Nat} {o p:Oper} (hl:Nat.blt dn.length l.length=true) (hr:(readyM (maskL l.length dn) 0 l==[i,j])=true) (ho:l[i]? =some o) (hp:l[j]? =some p) (hlt:lateM late (maskL l.length dn)=true)
  (h:∀g':Ghost,Gs g' g→g'.wt=none→AOps .plain P g' l.toArray [o] (onlyN (AR P g k late l QD (i::dn))) δ)
  (h':∀g':Ghost,Gs g' g→g'.wt=none→AOps .plain P g' l.toArray [p] (onlyN (AR P g k late l QD (j::dn))) δ):AR P g k late l QD dn δ:=
 AR.all hl (readyIs_M hr) (by simp) fun i' hi'=>by
  have hlt':lateIn late (setL l.length dn)=true:=by rw[lateM_eq];exact hlt
  have hw:∀i',(gOf g k late (setL l.length (i'::dn))).wt=none:=fun i'=>if_pos (lateIn_mono hlt')
  simp only[List.mem_cons,List.not_mem_nil,or_false] at hi'
  rcases hi' with rfl|rfl
  ·exact⟨o,ho,h _ ⟨rfl,rfl,rfl⟩ (hw _)⟩
  ·exact⟨p,hp,h' _ ⟨rfl,rfl,rfl⟩ (hw _)⟩
def memB (k:Nat):List Nat→Bool
 |[]=>false
 |x::r=>bif Nat.beq x k then true else memB k r
def ddE (s:List Nat):List (Nat×AV)→List (Nat×AV)
 |[]=>[]
 |(k,v)::r=>bif memB k s then ddE s r else (k,v)::ddE (k::s) r
def ddO (s:List Nat):List (Nat×Option Ob)→List (Nat×Option Ob)
 |[]=>[]
 |(k,v)::r=>bif memB k s then ddO s r else (k,v)::ddO (k::s) r
theorem memB_iff {k:Nat}:∀{s:List Nat},memB k s=true↔k∈s
 |[]=>by simp [memB]
 |x::r=>by
  unfold memB
  by_cases h:x=k
  ·subst h;simp
  ·rw[beq_ne h,cond_false,memB_iff,List.mem_cons]
   constructor
   ·exact .inr
   ·rintro(h'|h')
    ·exact absurd h'.symm h
    ·exact h'
theorem look_ddE {j:Nat}:∀{e:List (Nat×AV)} {s:List Nat},j∉s→look (ddE s e) j=look e j
 |[],_,_=>rfl
 |(k,v)::r,s,h=>by
  unfold ddE
  cases hm:memB k s with
  |true=>
   have:k≠j:=by rintro rfl;exact h (memB_iff.1 hm)
   rw[cond_true,look_cons,if_neg this,look_ddE h]
  |false=>
   rw[cond_false,look_cons,look_cons]
   by_cases e:k=j
   ·rw[if_pos e,if_pos e]
   ·rw[if_neg e,if_neg e,look_ddE (by simp only[List.mem_cons,not_or];exact⟨fun h'=>e h'.symm,h⟩)]
theorem lookOb_ddO {j:Nat}:∀{e:List (Nat×Option Ob)} {s:List Nat},j∉s→lookOb (ddO s e) j=lookOb e j
 |[],_,_=>rfl
 |(k,v)::r,s,h=>by
  unfold ddO
  cases hm:memB k s with
  |true=>
   have:k≠j:=by rintro rfl;exact h (memB_iff.1 hm)
   rw[cond_true,lookOb_cons,if_neg this,lookOb_ddO h]
  |false=>
   rw[cond_false,lookOb_cons,lookOb_cons]
   by_cases e:k=j
   ·rw[if_pos e,if_pos e]
   ·rw[if_neg e,if_neg e,lookOb_ddO (by simp only[List.mem_cons,not_or];exact⟨fun h'=>e h'.symm,h⟩)]
def DS.dd (δ:DS):DS:=⟨δ.n,ddE [] δ.env,ddO [] δ.objs,δ.nx⟩
theorem Rel.congr {δ':DS} (hn:δ'.n=δ.n) (hx:δ'.nx=δ.nx) (he:∀j,δ'.get j=δ.get j) (ho:∀j,δ'.ob j=δ.ob j) (r:Rel g δ κ a w):Rel g δ' κ a w:=by
 have hob:δ'.ob=δ.ob:=funext ho
 have hl:δ'.live=δ.live:=by unfold DS.live;rw[hob]
 have hlr:δ'.lr=δ.lr:=by unfold DS.lr;rw[hob]
 have hlb:δ'.lb=δ.lb:=by unfold DS.lb;rw[hob]
 have hcx:δ'.cx g κ=δ.cx g κ:=by unfold DS.cx;rw[hl,hlr,hlb]
 exact
  {n:=r.n.trans hn.symm,dfr:=r.dfr
   env:=fun j=>by rw[hcx,he];exact r.env j
   obj:=fun i o h=>by rw[hcx];rw[ho] at h;exact r.obj i o h
   inj:=by rw[hl];exact r.inj
   lo:=by rw[hl];exact r.lo
   nx:=by rw[hl,hx];exact r.nx
   wt:=by rw[hl,hlr];exact r.wt
   below:=r.below,hB:=r.hB,N0:=r.N0,mkf:=r.mkf,fr:=by rw[hl];exact r.fr}
theorem Weak.dd:Weak g δ δ.dd:=fun κ _ _ r=>⟨κ,Rel.congr (δ:=δ) (δ':=δ.dd) rfl rfl (fun j=>look_ddE (s:=[]) (by simp)) (fun j=>lookOb_ddO (s:=[]) (by simp)) r⟩
theorem AR.dd (h:AR P g k late l QD dn δ.dd):AR P g k late l QD dn δ:=AR.weakG (fun _ _=>Weak.dd) h
def ddEc (b:Bool) (s:List Nat) (k:Nat) (v:AV) (r:List (Nat×AV)):List (Nat×AV):=bif b then ddE s r else (k,v)::ddE (k::s) r
def ddOc (b:Bool) (s:List Nat) (k:Nat) (v:Option Ob) (r:List (Nat×Option Ob)):List (Nat×Option Ob):=bif b then ddO s r else (k,v)::ddO (k::s) r
namespace Nf
variable {n x:Nat} {e:List (Nat×AV)} {o:List (Nat×Option Ob)} {i j m:Nat}
theorem dd:DS.dd ⟨n,e,o,x⟩=⟨n,ddE [] e,ddO [] o,x⟩:=rfl
theorem ddE0 (s:List Nat):ddE s []=[]:=rfl
theorem ddE1 (s:List Nat) (v:AV) (r:List (Nat×AV)):ddE s ((m,v)::r)=ddEc (memB m s) s m v r:=rfl
theorem ddEt (s:List Nat) (v:AV) (r:List (Nat×AV)):ddEc true s m v r=ddE s r:=rfl
theorem ddEf (s:List Nat) (v:AV) (r:List (Nat×AV)):ddEc false s m v r=(m,v)::ddE (m::s) r:=rfl
theorem ddO0 (s:List Nat):ddO s []=[]:=rfl
theorem ddO1 (s:List Nat) (v:Option Ob) (r:List (Nat×Option Ob)):ddO s ((m,v)::r)=ddOc (memB m s) s m v r:=rfl
theorem ddOt (s:List Nat) (v:Option Ob) (r:List (Nat×Option Ob)):ddOc true s m v r=ddO s r:=rfl
theorem ddOf (s:List Nat) (v:Option Ob) (r:List (Nat×Option Ob)):ddOc false s m v r=(m,v)::ddO (m::s) r:=rfl
theorem me0:memB m []=false:=rfl
theorem me1 (y:Nat) (r:List Nat):memB m (y::r)=bif Nat.beq y m then true else memB m r:=rfl
set_option linter.defProp false in
def ddR:=And.intro @dd (And.intro @ddE0 (And.intro @ddE1 (And.intro @ddEt (And.intro @ddEf (And.intro @ddO0 (And.intro @ddO1 (And.intro @ddOt (And.intro @ddOf (And.intro @me0 @me1)))))))))
end Nf
end Go.Ab
/- Contracts under a premise on the world at the call that no own memory touches (a table laid,a function value's ways);calls of told closures;functions that take functions. -/
namespace Go.Ab
open Go Go.RowKit
variable {P:Program} {g:Ghost} {δ:DS} {κ:Kp} {a:Act} {w:World}
variable {ops:Array Oper} {rest:List Oper} {Q:Exit→DS→Prop} {dst:Option Nat} {ty:TypeId} {pos:String} {af:Array Edge}
def Stay (T:World→Prop):Prop:=∀w w',T w→Below w.heap.size w w'→T w'
structure FnW (T:World→Prop) (P:Program) (f:FuncId) (args:List AV) (r:AV):Prop where
 enters:∀vals w,(callFunc f vals).run P w=.ok (.enter f vals) w
 calls:∀(N:Nat→Prop) (w:World) (vals:Array Value),T w→(∀b,w.heap.size≤b→N b)→vals.size=args.length→
  (∀(j:Nat) (v:Value) (av:AV),vals[j]? =some v→args[j]? =some av→RA (pcx N) w v av)→
  Calls P f vals w fun e w'=>∃v,e=.returned v∧RA (pcx N) w' v r∧Below w.heap.size w w'
theorem FnW.sub {T T':World→Prop} {f:FuncId} {args:List AV} {r:AV} (h:FnW T P f args r) (hT:∀w,T' w→T w):FnW T' P f args r:=⟨h.enters,fun N w vals ht=>h.calls N w vals (hT w ht)⟩
def TB (T:World→Prop) (g:Ghost):Prop:=∀w',Below g.B g.w0 w'→T w'
theorem TB.sub {T T':World→Prop} {g:Ghost} (h:TB T g) (hT:∀w,T w→T' w):TB T' g:=fun w' hb=>hT w' (h w' hb)
theorem FnW.enter {T:World→Prop} (hst:Stay T) {f:FuncId} {fn:Func} {c:Code} {rs:List ResultVar} {n:Nat} {args:List AV} {r:AV} (hf:P.funcs[f]? =some fn) (hb:fn.body=some c) (hrs:fn.results=rs.toArray) (hn:fn.ntmps=n) (hna:Nat.ble args.length n=true)
  (hna':Nat.ble n HS=true) (he:(fn.name== "runtime.NumGoroutine")=false) (h:∀g:Ghost,g.ro=none→g.wt=none→TB T g→AW P g c (Ends P rs r) (start n args)):FnW T P f args r:=by
 refine⟨fun vals w=>by simp [callFunc,hf,hb];simpa using he,fun N w vals hTw hN hs hargs=>?_⟩
 have hle:args.length≤n:=by simpa using hna
 have hnH:n≤HS:=by simpa using hna'
 let g:Ghost:={B:=w.heap.size,w0:=w,N0:=N,held:=fun _=>undef,ro:=none,mks:=[],wt:=none,fr:=fun _=>False,w1:=w}
 have hnl:∀i,¬(start n args).live i:=fun i ⟨o,h⟩=>by cases h
 refine callsIn_wide.1 (callsIn_of_wp_marks (n:=0) hf hb trivial (wpIn_mono (h g rfl rfl (fun w' hb=>hst w w' hTw hb) ⟨fun _=>none,fun _ _=>False⟩ _ w ?_) ?_))
 ·exact
  {n:=by simp [hn,start];omega
   dfr:=⟨[],rfl,by simp [g],by simp [g]⟩
   env:=fun j=>by
    by_cases hj:j<args.length
    ·have h1:(start n args).get j=args[j]:=look_enum args 0 j _ (Nat.zero_le _) (by simp [hj])
     have h2:g.val {tmps:=vals++Array.replicate (fn.ntmps - vals.size) undef,defers:=[]} j=vals[j]'(by omega):=by
      unfold Ghost.val
      rw[if_pos (by omega)]
      simp [Array.getD_eq_getD_getElem?,Array.getElem?_append,hs,hj]
     rw[h1,h2]
     exact(hargs j _ _ (Array.getElem?_eq_getElem (by omega)) (List.getElem?_eq_getElem hj)).of_pcx _ fun b _ h=>⟨⟨h,fun⟨_,h⟩=>h⟩,fun i hi=>absurd hi (hnl i)⟩
    ·have h1:(start n args).get j=.any:=look_enum_out args 0 j (by omega)
     rw[h1];exact .any _
   obj:=fun i o h=>by cases h
   inj:=fun i j b h=>absurd h (hnl i)
   lo:=fun i b h=>absurd h (hnl i)
   nx:=fun i h=>absurd h (hnl i)
   wt:=fun k hk=>by cases hk
   below:=Below.refl _ _
   hB:=Nat.le_refl _
   N0:=fun b h _=>hN b h
   fr:=⟨fun b hb=>hb.elim,fun i b hb=>hb.elim⟩
   mkf:=fun d hd=>by cases hd}
 ·rintro e a' w' ⟨δ',κ',hq,r'⟩
  have fin:∀v,Res P δ' rs v→Le true v r→LeavesInM Fence.wide 0 P fn a'.tmps (fun e w'=>∃v,e=.returned v∧RA (pcx N) w' v r∧Below w.heap.size w w') a'.defers .returning w':=by
   intro v h1 h2
   exact leaves (g:=g) rfl rfl hrs h1 r' (fun w2 r2 u hu=>by
    exact⟨u,rfl,hu.le h2 (fun b _ h=>h.1.1) (fun _ i b hi hκ=>hN b (r2.lo i b (DS.lr_live hi) hκ).1),r2.below⟩)
  cases e with
  |normal=>obtain⟨v,h1,h2⟩:=hq;exact fin v h1 h2
  |ret=>obtain⟨v,h1,h2⟩:=hq;exact fin v h1 h2
  |_=>exact hq.elim
theorem TB.at {T:World→Prop} (h:TB T g) (r:Rel g δ κ a w) {w':World} (hb:Below w.heap.size w w'):T w':=h w' (r.below.trans (hb.mono r.hB))
def AV.seen:AV→PV
 |.pv p=>p
 |.own _ _ k els=> .slice k els
 |_=> .any
inductive LeB (δ:DS):AV→AV→Prop
 |le {v r:AV} (h:Le true v r):LeB δ v r
 |box {i off:Nat} {cells:List AV} {ps:List PV} (h:δ.ob i=some (.box cells)) (hc:(cells.drop off).map AV.seen=ps):LeB δ (.ptr i off) (.rptr ps)
inductive LeBs (δ:DS):List AV→List AV→Prop
 |nil:LeBs δ [] []
 |cons {c d:AV} {cs ds:List AV} (h:LeB δ c d) (hs:LeBs δ cs ds):LeBs δ (c::cs) (d::ds)
theorem LeBs.len {cs ds:List AV} (h:LeBs δ cs ds):cs.length=ds.length:=by induction h with|nil=>rfl|cons h hs ih=>simp [ih]
theorem LeBs.at {cs ds:List AV} (h:LeBs δ cs ds):∀(j:Nat) (c d:AV),cs[j]? =some c→ds[j]? =some d→LeB δ c d:=by
 induction h with
 |nil=>intro j c d h1;simp at h1
 |cons h hs ih=>
  intro j c d h1 h2
  cases j with
  |zero=>simp at h1 h2;subst h1;subst h2;exact h
  |succ j=>exact ih j c d (by simpa using h1) (by simpa using h2)
theorem RA.seen {C:Cx} {u:Value} {av:AV} (h:RA C w u av):RP (fun _=>True) w u av.seen:=by
 cases h with
 |pv h=>exact h.mono (Nat.le_refl _) fun _ _ _=>⟨trivial,rfl⟩
 |own h=>exact h.pv (fun _ _ _=>trivial) (fun _ _ _ _=>trivial)
 |_=>exact .any _
theorem LeB.ra {v r:AV} (h:LeB δ v r) (rl:Rel g δ κ a w) {u:Value} (hu:RA (δ.cx g κ) w u v):RA (pcx fun _=>True) w u r:=by
 cases h with
 |le h=>exact hu.le h (fun _ _ _=>trivial) (fun _ _ _ _ _=>trivial)
 | @box i off cells ps hb hc=>
  obtain⟨b,c,e,rfl,hκ,h3,h4,h5⟩:=rl.box hu hb
  have hcell:∀j,w.cell? ⟨b,off+j,none⟩=c[off+j]?:=fun j=>cell_of h3 _
  have hat:∀(j:Nat) (p:PV),ps[j]? =some p→∃av,cells[off+j]? =some av∧p=av.seen:=by
   intro j p hp
   rw[← hc,List.getElem?_map,List.getElem?_drop] at hp
   obtain⟨av,h1,h2⟩:=Option.map_eq_some_iff.1 hp
   exact⟨av,h1,h2.symm⟩
  refine .rptr b off (fun j=>(c[off+j]?).getD undef) trivial (heap_lt h3) (fun j p hp=>?_) (fun j p hp=>?_)
  ·obtain⟨av,h1,rfl⟩:=hat j p hp
   have hlt:=(List.getElem?_eq_some_iff.1 h1).1
   have hcj:c[off+j]? =some c[off+j]:=Array.getElem?_eq_getElem (by omega)
   rw[hcell,hcj]
   exact⟨rfl,(h5 _ _ _ hcj h1).2⟩
  ·obtain⟨av,h1,rfl⟩:=hat j p hp
   have hlt:=(List.getElem?_eq_some_iff.1 h1).1
   have hcj:c[off+j]? =some c[off+j]:=Array.getElem?_eq_getElem (by omega)
   simp only[hcj,Option.getD_some]
   exact(h5 _ _ _ hcj h1).1.seen
theorem TB.none (g:Ghost):TB (fun _=>True) g:=fun _ _=>trivial
def Acts (P:Program) (v:Value) (w:World) (arg r:AV):Prop:=∃(f:FuncId) (vs us:Array Value),v=.func (.func f) vs us∧(∀vals w,(callFunc f vals).run P w=.ok (.enter f vals) w)∧
 ∀w',Below w.heap.size w w'→∀u,RA (pcx fun _=>True) w' u arg→Calls P f (vs++ #[u]++us) w' fun e w''=>e=.returned r.out∧Below w'.heap.size w' w''
def Ways (P:Program) {α:Type} (v:Value) (A R:α→AV) (l:List α) (w:World):Prop:=∀x∈l,Acts P v w (A x) (R x)
theorem TB.way {α:Type} {v:Value} {A R:α→AV} {l:List α} (h:TB (Ways P v A R l) g) {x:α} (hx:x∈l):TB (fun w=>Acts P v w (A x) (R x)) g:=h.sub fun w hw=>hw x hx
inductive ArgsV (δ:DS) (z:Operand) (v:Value):List Operand→List AV→Prop
 |nil:ArgsV δ z v [] []
 |here {xs:List Operand} {vs:List AV} (hs:ArgsV δ z v xs vs):ArgsV δ z v (z::xs) (.pv (.lit v)::vs)
 |cons {x:Operand} {u:AV} {xs:List Operand} {vs:List AV} (ho:okT x=true) (h:LeB δ (δ.ev x) u) (hs:ArgsV δ z v xs vs):ArgsV δ z v (x::xs) (u::vs)
theorem ArgsV.len {z:Operand} {v:Value} {xs:List Operand} {vs:List AV} (h:ArgsV δ z v xs vs):xs.length=vs.length:=by induction h with|nil=>rfl|here hs ih=>simp [ih]|cons ho h hs ih=>simp [ih]
end Go.Ab
/- Objects that nothing names any more are given up. -/
namespace Go.Ab
open Go Go.RowKit
variable {P:Program} {g:Ghost} {δ:DS} {κ:Kp} {a:Act} {w:World}
def obIds (lr lb:Nat→Bool):Ob→Bool
 |.row|.it _ _|.loop _ _ _ _ _ _|.lit _ _|.pool _ _=>true
 |.box cs=>AV.idsL lr lb cs
 |.mp l=>l.all fun p=>p.2.ids lr lb
 |.mpl l _ v=>(l.all fun p=>p.2.ids lr lb) && v.ids lr lb
theorem WVs.refl {δ δ':DS}:∀{cs:List AV},AV.idsL δ'.lrB δ'.lbB cs=true→WVs δ δ' cs cs
 |[],_=>trivial
 |c::cs,h=>by
  simp only[AV.idsL,Bool.and_eq_true] at h
  exact⟨.eq rfl h.1,WVs.refl h.2⟩
variable {k:Wt} {late:List Nat} {l:List Oper} {dn:List Nat} {QD:Exit→DS→Prop}
end Go.Ab
/- Contracts of functions that change objects of their caller's. -/
namespace Go.Ab
open Go Go.RowKit
variable {P:Program} {g:Ghost} {δ:DS} {κ:Kp} {a:Act} {w:World}
variable {ops:Array Oper} {rest:List Oper} {Q:Exit→DS→Prop} {dst:Option Nat} {ty:TypeId} {pos:String} {af:Array Edge}
abbrev XS (objs:List (Nat×Option Ob)) (n:Nat):DS:=⟨0,[],objs,n⟩
abbrev act0:Act:={tmps:= #[],defers:=[]}
def pinL:List (Nat×Option Ob)→List AV
 |[]=>[]
 |(i,some (.box _))::r=> .ptr i 0::pinL r
 |(i,some (.lit _ _))::r=> .ptr i 0::pinL r
 |(i,some (.mp _))::r=> .mapr i::pinL r
 |_::r=>pinL r
structure FnXG {α:Type} (T:World→Prop) (P:Program) (E:α→Cx→World→Ending→Prop) (f:FuncId) (n0:Nat) (objs0:List (Nat×Option Ob)) (args:List AV) (objs1:α→List (Nat×Option Ob)):Prop where
 enters:∀vals w,(callFunc f vals).run P w=.ok (.enter f vals) w
 calls:∀(g:Ghost) (κ:Kp) (w:World) (vals:Array Value),g.ro=none→g.wt=none→TB T g→Rel g (XS objs0 n0) κ act0 w→vals.size=args.length→
  (∀(j:Nat) (v:Value) (av:AV),vals[j]? =some v→args[j]? =some av→RA ((XS objs0 n0).cx g κ) w v av)→
  Calls P f vals w fun e w'=>∃x κ',E x ((XS (objs1 x) n0).cx g κ') w' e∧Rel g (XS (objs1 x) n0) κ' act0 w'∧∀i b,(AV.ptr i 0∈pinL objs0∨AV.mapr i∈pinL objs0)→κ i=some b→κ' i=some b
def ERet (r:AV) (C:Cx) (w:World) (e:Ending):Prop:=∃v,e=.returned v∧RA C w v r
def Pan (t:TypeId) (ch:List PanicEntry):Prop:=∃u:Value,ch=[{v:=.iface t (.agg #[u]),recovered:=false}]∧u.oneCell'=true
def EPan (t:TypeId) (_:Cx) (_:World) (e:Ending):Prop:=∃ch,e=.panicked ch∧Pan t ch
abbrev FnXT (T:World→Prop) (P:Program) (f:FuncId) (n0:Nat) (objs0:List (Nat×Option Ob)) (args:List AV) (objs1:List (Nat×Option Ob)) (r:AV):Prop:=FnXG (α:=Unit) T P (fun _=>ERet r) f n0 objs0 args (fun _=>objs1)
abbrev FnX (P:Program) (f:FuncId) (n0:Nat) (objs0:List (Nat×Option Ob)) (args:List AV) (objs1:List (Nat×Option Ob)) (r:AV):Prop:=FnXG (α:=Unit) (fun _=>True) P (fun _=>ERet r) f n0 objs0 args (fun _=>objs1)
abbrev FnD (T:World→Prop) (P:Program) (t:TypeId) (f:FuncId) (n0:Nat) (objs0:List (Nat×Option Ob)) (args:List AV) (objs1:List (Nat×Option Ob)):Prop:=FnXG (α:=Unit) T P (fun _=>EPan t) f n0 objs0 args (fun _=>objs1)
theorem FnXG.sub {α:Type} {T T':World→Prop} {P:Program} {E:α→Cx→World→Ending→Prop} {f:FuncId} {n0:Nat} {objs0:List (Nat×Option Ob)} {args:List AV} {objs1:α→List (Nat×Option Ob)} (h:FnXG T P E f n0 objs0 args objs1) (hT:∀w,T' w→T w):FnXG T' P E f n0 objs0 args objs1:=⟨h.enters,fun g κ w vals h1 h2 h3=>h.calls g κ w vals h1 h2 (h3.sub hT)⟩
def pinB (objs:List (Nat×Option Ob)):List (Nat×Option Ob)→Bool
 |[]=>true
 |(i,some (.box _))::r=>(XS objs 0).lbB i && pinB objs r
 |(i,some (.lit _ _))::r=>(XS objs 0).lbB i && pinB objs r
 |(i,some (.mp _))::r=>(XS objs 0).lbB i && pinB objs r
 |_::r=>pinB objs r
theorem lbB_at {δ:DS} {i:Nat} (h:δ.lbB i=true) {C:Cx} {w:World} (ho:∀i o,δ.ob i=some o→ObIs C w i o):∃b,C.κ i=some b:=by
 obtain⟨o,h1,h2⟩:=lbB_spec h
 have h3:=ho i o h1
 cases o with
 |row=>simp [Ob.isRow] at h2
 |box cs=>obtain⟨b,_,_,h4,_⟩:=h3;exact⟨b,h4⟩
 |lit T vals=>obtain⟨b,h4,_⟩:=h3;exact⟨b,h4⟩
 |pool e rows=>unfold DS.lbB at h;rw[h1] at h;cases h
 |mp l=>obtain⟨b,_,_,h4,_⟩:=h3;exact⟨b,h4⟩
 |mpl l k v=>obtain⟨b,_,_,h4,_⟩:=h3;exact⟨b,h4⟩
 |it l seen=>obtain⟨b,h4,_⟩:=h3;exact⟨b,h4⟩
 |loop l tm ps asg body st=>obtain⟨b,_,h4,_⟩:=h3;exact⟨b,h4⟩
theorem pin_vals {objs:List (Nat×Option Ob)} {n:Nat} (ho:∀i o,(XS objs n).ob i=some o→ObIs ((XS objs n).cx g κ) w i o):∀{l:List (Nat×Option Ob)},pinB objs l=true→∃vs:List Value,vs.length=(pinL l).length∧∀(j:Nat) (u:Value) (c:AV),vs[j]? =some u→(pinL l)[j]? =some c→RA ((XS objs n).cx g κ) w u c
 |[],_=>⟨[],rfl,fun j u c h=>by simp at h⟩
 |(i,none)::r,h=>pin_vals ho (l:=r) h
 |(i,some .row)::r,h=>pin_vals ho (l:=r) h
 |(i,some (.mpl _ _ _))::r,h=>pin_vals ho (l:=r) h
 |(i,some (.it _ _))::r,h=>pin_vals ho (l:=r) h
 |(i,some (.pool _ _))::r,h=>pin_vals ho (l:=r) h
 |(i,some (.loop _ _ _ _ _ _))::r,h=>pin_vals ho (l:=r) h
 |(i,some (.box cs))::r,h=>by
  simp only[pinB,Bool.and_eq_true] at h
  obtain⟨vs,h1,h2⟩:=pin_vals ho h.2
  obtain⟨b,hb⟩:=lbB_at (δ:=XS objs n) h.1 ho
  refine⟨.pointer (some ⟨b,0,none⟩)::vs,by simp [pinL,h1],fun j u c h3 h4=>?_⟩
  cases j with
  |zero=>simp [pinL] at h3 h4;subst h3;subst h4;exact .ptr (lbB_spec (δ:=XS objs n) h.1) hb
  |succ j=>exact h2 j u c (by simpa using h3) (by simpa [pinL] using h4)
 |(i,some (.lit _ _))::r,h=>by
  simp only[pinB,Bool.and_eq_true] at h
  obtain⟨vs,h1,h2⟩:=pin_vals ho h.2
  obtain⟨b,hb⟩:=lbB_at (δ:=XS objs n) h.1 ho
  refine⟨.pointer (some ⟨b,0,none⟩)::vs,by simp [pinL,h1],fun j u c h3 h4=>?_⟩
  cases j with
  |zero=>simp [pinL] at h3 h4;subst h3;subst h4;exact .ptr (lbB_spec (δ:=XS objs n) h.1) hb
  |succ j=>exact h2 j u c (by simpa using h3) (by simpa [pinL] using h4)
 |(i,some (.mp m))::r,h=>by
  simp only[pinB,Bool.and_eq_true] at h
  obtain⟨vs,h1,h2⟩:=pin_vals ho h.2
  obtain⟨b,hb⟩:=lbB_at (δ:=XS objs n) h.1 ho
  refine⟨.map (some b)::vs,by simp [pinL,h1],fun j u c h3 h4=>?_⟩
  cases j with
  |zero=>simp [pinL] at h3 h4;subst h3;subst h4;exact .mapr (lbB_spec (δ:=XS objs n) h.1) hb
  |succ j=>exact h2 j u c (by simpa using h3) (by simpa [pinL] using h4)
abbrev XF (δ:DS) (objs0 objs1:List (Nat×Option Ob)):DS:=⟨δ.n,[(1000,.agg (pinL objs0))],objs1,δ.nx⟩
def EndsX (P:Program) (rs:List ResultVar) (objs0 objs1:List (Nat×Option Ob)) (r:AV):Exit→DS→Prop
 |.normal,δ|.ret,δ=>∃v,Res P δ rs v∧WV δ (XF δ objs0 objs1) v r∧WV δ (XF δ objs0 objs1) (δ.get 1000) (.agg (pinL objs0))∧WObs δ (XF δ objs0 objs1) objs1∧nxB δ.nx objs1=true
 |_,_=>False
def EndsP (t:TypeId) (objs0 objs1:List (Nat×Option Ob)):Exit→DS→Prop
 |.panic ch,δ=>Pan t ch∧WV δ (XF δ objs0 objs1) (δ.get 1000) (.agg (pinL objs0))∧WObs δ (XF δ objs0 objs1) objs1∧nxB δ.nx objs1=true
 |_,_=>False
theorem RA.ptr_inv {C:Cx} {w:World} {u:Value} {i off:Nat} (h:RA C w u (.ptr i off)):∃b,u=.pointer (some ⟨b,off,none⟩)∧C.κ i=some b:=by
 cases h with
 |ptr hl hκ=>exact⟨_,rfl,hκ⟩
theorem RA.mapr_inv {C:Cx} {w:World} {u:Value} {i:Nat} (h:RA C w u (.mapr i)):∃b,u=.map (some b)∧C.κ i=some b:=by
 cases h with
 |mapr hl hκ=>exact⟨_,rfl,hκ⟩
theorem pin_same {C C':Cx} {w w':World} {vs:Array Value} {ps:List AV} (h:RA C w (.agg vs) (.agg ps)) (h':RA C' w' (.agg vs) (.agg ps)) {i b:Nat} (hp:AV.ptr i 0∈ps∨AV.mapr i∈ps) (hb:C.κ i=some b):C'.κ i=some b:=by
 cases h with
 |agg hs h=>
  cases h' with
  |agg hs' h'=>
   rcases hp with hp|hp
   ·obtain⟨j,hj⟩:=List.getElem?_of_mem hp
    have hlt:j<vs.size:=by rw[hs];exact(List.getElem?_eq_some_iff.1 hj).1
    have h1:=h j _ _ (Array.getElem?_eq_getElem hlt) hj
    have h2:=h' j _ _ (Array.getElem?_eq_getElem hlt) hj
    obtain⟨b1,e1,k1⟩:=h1.ptr_inv
    obtain⟨b2,e2,k2⟩:=h2.ptr_inv
    rw[e1] at e2
    cases e2
    rw[k1] at hb
    cases hb
    exact k2
   ·obtain⟨j,hj⟩:=List.getElem?_of_mem hp
    have hlt:j<vs.size:=by rw[hs];exact(List.getElem?_eq_some_iff.1 hj).1
    have h1:=h j _ _ (Array.getElem?_eq_getElem hlt) hj
    have h2:=h' j _ _ (Array.getElem?_eq_getElem hlt) hj
    obtain⟨b1,e1,k1⟩:=h1.mapr_inv
    obtain⟨b2,e2,k2⟩:=h2.mapr_inv
    rw[e1] at e2
    cases e2
    rw[k1] at hb
    cases hb
    exact k2
theorem FnXG.enter {α:Type} {T:World→Prop} {E:α→Cx→World→Ending→Prop} {Q:Exit→DS→Prop} {f:FuncId} {fn:Func} {c:Code} {n n0:Nat} {objs0:List (Nat×Option Ob)} {objs1:α→List (Nat×Option Ob)} {args:List AV} (hf:P.funcs[f]? =some fn) (hb:fn.body=some c) (hn:fn.ntmps=n) (hna:Nat.ble args.length n=true)
  (hna':Nat.ble n HS=true) (he:(fn.name== "runtime.NumGoroutine")=false) (hpin:pinB objs0 objs0=true) (hn1:∀x,nxB n0 (objs1 x)=true)
  (h:∀g:Ghost,g.ro=none→g.wt=none→TB T g→AW P g c Q ⟨n,enum 0 args++ [(1000,.agg (pinL objs0))],objs0,n0⟩)
  (hQ:∀(g:Ghost) (e:Exit) (δ':DS) (κ':Kp) (a':Act) (w':World) (R:Ending→World→Prop),g.wt=none→g.base=[]→Q e δ'→Rel g δ' κ' a' w'→
   (∀x,WV δ' (XF δ' objs0 (objs1 x)) (δ'.get 1000) (.agg (pinL objs0))→WObs δ' (XF δ' objs0 (objs1 x)) (objs1 x)→nxB δ'.nx (objs1 x)=true→
    ∀en w2,Rel g δ' κ' {a' with defers:=[]} w2→E x ((XF δ' objs0 (objs1 x)).cx g (κof δ' κ')) w2 en→R en w2)→bodyPostM Fence.wide 0 P fn R e a' w'):FnXG T P E f n0 objs0 args objs1:=by
 refine⟨fun vals w=>by simp [callFunc,hf,hb];simpa using he,fun g κ w vals hro hwt hTB hrel hs hargs=>?_⟩
 have hle:args.length≤n:=by simpa using hna
 have hnH:n≤HS:=by simpa using hna'
 have hHS:HS=1000:=rfl
 obtain⟨ps,hps,hpv⟩:=pin_vals hrel.obj hpin
 have hbs:g.base=[]:=by
  obtain⟨rs,e,_,_⟩:=hrel.dfr
  exact(List.append_eq_nil_iff.1 e.symm).2
 have hpa:RA ((XS objs0 n0).cx g κ) w (.agg ps.toArray) (.agg (pinL objs0)):=.agg (by simpa using hps) fun j u c h1 h2=>hpv j u c (by simpa using h1) h2
 let g':Ghost:={g with held:=fun _=> .agg ps.toArray}
 let δ0:DS:=⟨n,enum 0 args++ [(1000,.agg (pinL objs0))],objs0,n0⟩
 have happ:∀(l:List AV) (i j:Nat),look (enum i l++ [(1000,AV.agg (pinL objs0))]) j=if i≤j∧j<i+l.length then look (enum i l) j else look [(1000,AV.agg (pinL objs0))] j:=by
  intro l
  induction l with
  |nil=>intro i j;rw[if_neg (by simp)];rfl
  |cons x l ih=>
   intro i j
   show look ((i,x)::(enum (i+1) l++_)) j=_
   rw[look_cons]
   by_cases e:i=j
   ·subst e
    rw[if_pos rfl,if_pos (by simp)]
    show x=look ((i,x)::enum (i+1) l) i
    rw[look_cons,if_pos rfl]
   ·rw[if_neg e,ih]
    simp only[List.length_cons]
    by_cases hj:i+1≤j∧j<i+1+l.length
    ·rw[if_pos hj,if_pos (by omega)]
     show _=look ((i,x)::enum (i+1) l) j
     rw[look_cons,if_neg e]
    ·rw[if_neg hj,if_neg (by omega)]
 have hR:Rel g' δ0 κ {tmps:=vals++Array.replicate (fn.ntmps - vals.size) undef,defers:=[]} w:=
  {n:=by show _=n;simp [hn];omega
   dfr:=by
    obtain⟨rs,e,h1,h2⟩:=hrel.dfr
    have e0:=(List.append_eq_nil_iff.1 e.symm).1
    have e0:rs=[]:=by simpa using e0
    subst e0
    exact⟨[],by show []=_++g.base;rw[hbs];rfl,h1,h2⟩
   env:=fun j=>by
    show RA ((XS objs0 n0).cx g κ) w _ (look (enum 0 args++ [(1000,AV.agg (pinL objs0))]) j)
    rw[happ]
    by_cases hj:j<args.length
    ·rw[if_pos (by omega)]
     have h1:look (enum 0 args) j=args[j]:=look_enum args 0 j _ (Nat.zero_le _) (by simp [hj])
     have h2:g'.val {tmps:=vals++Array.replicate (fn.ntmps - vals.size) undef,defers:=[]} j=vals[j]'(by omega):=by
      unfold Ghost.val
      rw[if_pos (by omega)]
      simp [Array.getD_eq_getD_getElem?,Array.getElem?_append,hs,hj]
     rw[h1,h2]
     exact hargs j _ _ (Array.getElem?_eq_getElem (by omega)) (List.getElem?_eq_getElem hj)
    ·rw[if_neg (by omega),look_cons]
     by_cases e:1000=j
     ·rw[if_pos e]
      have h2:g'.val {tmps:=vals++Array.replicate (fn.ntmps - vals.size) undef,defers:=[]} j=.agg ps.toArray:=by
       unfold Ghost.val
       rw[if_neg (by omega)]
      rw[h2];exact hpa
     ·rw[if_neg e];exact .any _
   obj:=hrel.obj,inj:=hrel.inj,lo:=hrel.lo,nx:=hrel.nx,wt:=hrel.wt,below:=hrel.below,hB:=hrel.hB,N0:=hrel.N0,fr:=hrel.fr
   mkf:=fun d hd=>by cases hd}
 have hw:=h g' hro hwt hTB κ _ w hR
 rw[show g'.ro=none from hro] at hw
 refine callsIn_wide.1 (callsIn_of_wp_marks (n:=0) hf hb trivial (wpIn_mono hw ?_))
 rintro e a' w' ⟨δ',κ',hq,r'⟩
 refine hQ g' e δ' κ' a' w' _ hwt hbs hq r' fun x hp ho hx en w2 r2 hE=>?_
 have hg:∀j,(XF δ' objs0 (objs1 x)).get j=if 1000=j then .agg (pinL objs0) else .any:=fun j=>look_cons _ _ _ _
 have r3:Rel g' (XF δ' objs0 (objs1 x)) (κof δ' κ') {a' with defers:=[]} w2:=weakR (g:=g') (δ:=δ') (δ':=XF δ' objs0 (objs1 x)) rfl (fun j=>by
   rw[hg]
   by_cases e:1000=j
   ·subst e;rw[if_pos rfl];exact hp
   ·rw[if_neg e];exact .any _) (fun i o h=>ho.at i o h) (fun i o h=>nxB_spec hx i o h) r2
 refine⟨x,κof δ' κ',hE,?_,fun i b hpi hb=>?_⟩
 ·exact
   {n:=rfl
    dfr:=by
     obtain⟨rs,e,h1,h2⟩:=r3.dfr
     have e0:=(List.append_eq_nil_iff.1 e.symm).1
     have e0:rs=[]:=by simpa using e0
     subst e0
     exact⟨[],by show []=_++g.base;rw[hbs];rfl,h1,h2⟩
    env:=fun j=> .any _
    obj:=r3.obj,inj:=r3.inj,lo:=r3.lo,nx:=fun i ⟨o,h⟩=>nxB_spec (hn1 x) i o h,wt:=fun k hk=>by rw[hwt] at hk;cases hk
    below:=r3.below,hB:=r3.hB,N0:=r3.N0,fr:=r3.fr,mkf:=fun d hd=>by cases hd}
 ·have h3:=r3.env 1000
  rw[hg,if_pos rfl] at h3
  have h4:g'.val {a' with defers:=[]} 1000=.agg ps.toArray:=by
   unfold Ghost.val
   rw[if_neg (by omega)]
  rw[h4] at h3
  exact pin_same (C:=(XS objs0 n0).cx g κ) (w:=w) hpa h3 hpi hb
theorem FnXT.enter {T:World→Prop} {f:FuncId} {fn:Func} {c:Code} {rs:List ResultVar} {n n0:Nat} {objs0 objs1:List (Nat×Option Ob)} {args:List AV} {r:AV} (hf:P.funcs[f]? =some fn) (hb:fn.body=some c) (hrs:fn.results=rs.toArray) (hn:fn.ntmps=n) (hna:Nat.ble args.length n=true)
  (hna':Nat.ble n HS=true) (he:(fn.name== "runtime.NumGoroutine")=false) (hpin:pinB objs0 objs0=true) (hn1:nxB n0 objs1=true)
  (h:∀g:Ghost,g.ro=none→g.wt=none→TB T g→AW P g c (EndsX P rs objs0 objs1 r) ⟨n,enum 0 args++ [(1000,.agg (pinL objs0))],objs0,n0⟩):FnXT T P f n0 objs0 args objs1 r:=by
 refine FnXG.enter (Q:=EndsX P rs objs0 objs1 r) hf hb hn hna hna' he hpin (fun _=>hn1) h fun g e δ' κ' a' w' R hwt hbs hq r' hR=>?_
 have fin:∀v,Res P δ' rs v→WV δ' (XF δ' objs0 objs1) v r→WV δ' (XF δ' objs0 objs1) (δ'.get 1000) (.agg (pinL objs0))→WObs δ' (XF δ' objs0 objs1) objs1→nxB δ'.nx objs1=true→
   LeavesInM Fence.wide 0 P fn a'.tmps R a'.defers .returning w':=fun v h1 hv hp ho hx=>
  leaves (g:=g) hwt hbs hrs h1 r' fun w2 r2 u hu=>hR () hp ho hx _ _ r2 ⟨u,rfl,hu.wv (δ:=δ') (δ':=XF δ' objs0 objs1) r2.hdrop r2.obj hv⟩
 cases e with
 |normal=>obtain⟨v,h1,h2,h3,h4,h5⟩:=hq;exact fin v h1 h2 h3 h4 h5
 |ret=>obtain⟨v,h1,h2,h3,h4,h5⟩:=hq;exact fin v h1 h2 h3 h4 h5
 |_=>exact hq.elim
theorem FnX.enter {f:FuncId} {fn:Func} {c:Code} {rs:List ResultVar} {n n0:Nat} {objs0 objs1:List (Nat×Option Ob)} {args:List AV} {r:AV} (hf:P.funcs[f]? =some fn) (hb:fn.body=some c) (hrs:fn.results=rs.toArray) (hn:fn.ntmps=n) (hna:Nat.ble args.length n=true)
  (hna':Nat.ble n HS=true) (he:(fn.name== "runtime.NumGoroutine")=false) (hpin:pinB objs0 objs0=true) (hn1:nxB n0 objs1=true)
  (h:∀g:Ghost,g.ro=none→g.wt=none→AW P g c (EndsX P rs objs0 objs1 r) ⟨n,enum 0 args++ [(1000,.agg (pinL objs0))],objs0,n0⟩):FnX P f n0 objs0 args objs1 r:=FnXT.enter hf hb hrs hn hna hna' he hpin hn1 fun g h1 h2 _=>h g h1 h2
end Go.Ab
namespace Go.Ab
open Go Go.RowKit
variable {P:Program} {g:Ghost} {δ:DS} {κ:Kp} {a:Act} {w:World}
variable {ops:Array Oper} {rest:List Oper} {Q:Exit→DS→Prop} {dst:Option Nat} {ty:TypeId} {pos:String} {af:Array Edge}
theorem RA.to {C C':Cx} (hB:C'.B=C.B) (hN:∀b,C.N b→C'.N b) {lr lb:Nat→Bool} (hlr:∀i,lr i=true→C'.Lr i∧C'.κ i=C.κ i) (hlb:∀i,lb i=true→C'.Lb i∧C'.κ i=C.κ i) {v:Value} {av:AV} (h:RA C w v av) (hi:av.ids lr lb=true):RA C' w v av:=by
 have hp:∀{v:Value} {p:PV},RP C.N w v p→RP C'.N w v p:=fun h=>h.mono (Nat.le_refl _) fun b _ h2=>⟨hN b h2,rfl⟩
 have ho:∀{v:Value} {i e k els},OwnV C w v i e k els→lr i=true→OwnV C' w v i e k els:=by
  intro v i e k els h hl
  obtain⟨h1,h2,h3,h4,xs,h5,h6,h7⟩:=h
  refine⟨(hlr i hl).1,h2,h3,fun b hb=>(hlr i hl).2.trans (h4 b hb),xs,?_,h6,fun i' j p hp'=>let ⟨u,h8,h9⟩:=h7 i' j p hp';⟨u,h8,hp h9⟩⟩
  rw[hB];exact h5
 induction h with
 |any v=>exact .any v
 |pv h=>exact .pv (hp h)
 |own h=>exact .own (ho h hi)
 |ptr hl hκ=>exact .ptr (hlb _ hi).1 ((hlb _ hi).2.trans hκ)
 |rptr b off vs hN' hb hc hr=>exact .rptr b off vs (hN _ hN') hb hc (fun j p h=>hp (hr j p h))
 |optr hlt h=>exact .optr hlt (ho h hi)
 |agg hs h ih=>exact .agg hs fun j u c h1 h2=>ih j u c h1 h2 (AV.idsL_at _ hi j c h2)
 |tup hs h ih=>exact .tup hs fun j u c h1 h2=>ih j u c h1 h2 (AV.idsL_at _ hi j c h2)
 |clo hs h ht h' ih ih'=>
  simp only[AV.ids,Bool.and_eq_true] at hi
  exact .clo hs (fun j u c h1 h2=>ih j u c h1 h2 (AV.idsL_at _ hi.1 j c h2)) ht (fun j u c h1 h2=>ih' j u c h1 h2 (AV.idsL_at _ hi.2 j c h2))
 |mapr hl hκ=>exact .mapr (hlb _ hi).1 ((hlb _ hi).2.trans hκ)
 |yld hl hκ=>exact .yld (hlb _ hi).1 ((hlb _ hi).2.trans hκ)
theorem ObIs.to {C C':Cx} (hB:C'.B=C.B) (hN:∀b,C.N b→C'.N b) {lr lb:Nat→Bool} (hlr:∀i,lr i=true→C'.Lr i∧C'.κ i=C.κ i) (hlb:∀i,lb i=true→C'.Lb i∧C'.κ i=C.κ i) {i:Nat} {o:Ob} (hκ:C'.κ i=C.κ i) (hF:∀b,C.κ.F i b→C'.κ.F i b) (h:ObIs C w i o) (hi:obIds lr lb o=true):ObIs C' w i o:=by
 cases o with
 |row=>intro b hb;rw[hκ] at hb;exact h b hb
 |lit T vals=>obtain⟨b,h1,h2⟩:=h;exact⟨b,hκ.trans h1,h2⟩
 |pool e rows=>exact⟨hκ.trans h.1,fun k=>(h.2.1 k).goes hB fun b _ h2 _=>⟨hF b h2,rfl⟩,h.2.2⟩
 |box cs=>
  obtain⟨b,c,e,h1,h2,h3,h4⟩:=h
  exact⟨b,c,e,hκ.trans h1,h2,h3,fun j u av h5 h6=>⟨(h4 j u av h5 h6).1.to hB hN hlr hlb (AV.idsL_at _ hi j av h6),(h4 j u av h5 h6).2⟩⟩
 |mp l=>
  obtain⟨b,es,clock,h1,h2,h3,h4⟩:=h
  exact⟨b,es,clock,hκ.trans h1,h2,⟨h3.1,fun j e p h5 h6=>⟨(h3.2 j e p h5 h6).1,(h3.2 j e p h5 h6).2.to hB hN hlr hlb (List.all_eq_true.1 hi p (List.mem_of_getElem? h6))⟩⟩,h4⟩
 |mpl l k v=>
  obtain⟨b,es,clock,h1,h2,h3,h4⟩:=h
  simp only[obIds,Bool.and_eq_true] at hi
  exact⟨b,es,clock,hκ.trans h1,h2,h3.last (fun u p hp h=>h.to hB hN hlr hlb (List.all_eq_true.1 hi.1 p hp)) (fun u h=>h.to hB hN hlr hlb hi.2),h4⟩
 |it l seen=>
  obtain⟨b,h1,h2⟩:=h
  exact⟨b,hκ.trans h1,h2.mono (Nat.le_refl _) (fun b _ h=>⟨hN b h,rfl⟩) rfl⟩
 |loop l tm ps asg body st=>
  obtain⟨b,lr',h1,h2⟩:=h
  exact⟨b,lr',hκ.trans h1,h2⟩
def kindB:List (Nat×Option Ob)→List (Nat×Option Ob)→Bool
 |[],[]=>true
 |(i,some .row)::r,(j,some .row)::r'=>Nat.beq i j && kindB r r'
 |(i,some (.box _))::r,(j,some (.box _))::r'=>Nat.beq i j && kindB r r'
 |(i,some (.lit _ _))::r,(j,some (.box _))::r'=>Nat.beq i j && kindB r r'
 |(i,some (.mp _))::r,(j,some (.mp _))::r'=>Nat.beq i j && kindB r r'
 |(i,some (.pool _ _))::r,(j,some (.pool _ _))::r'=>Nat.beq i j && kindB r r'
 |_,_=>false
inductive Kind (l0 l1:List (Nat×Option Ob)) (i:Nat):Prop
 |none (h0:lookOb l0 i=.none) (h1:lookOb l1 i=.none)
 |row (h0:lookOb l0 i=some .row) (h1:lookOb l1 i=some .row)
 |box (c d:List AV) (h0:lookOb l0 i=some (.box c)) (h1:lookOb l1 i=some (.box d)) (hp:AV.ptr i 0∈pinL l0)
 |lit (T:TypeId) (vals:Array Value) (d:List AV) (h0:lookOb l0 i=some (.lit T vals)) (h1:lookOb l1 i=some (.box d)) (hp:AV.ptr i 0∈pinL l0)
 |mp (c d:List (Value×AV)) (h0:lookOb l0 i=some (.mp c)) (h1:lookOb l1 i=some (.mp d)) (hp:AV.mapr i∈pinL l0)
 |pool (e e':TypeId) (c d:Nat→Value×List Value) (h0:lookOb l0 i=some (.pool e c)) (h1:lookOb l1 i=some (.pool e' d))
theorem Kind.skip {j:Nat} {o o':Option Ob} {r r':List (Nat×Option Ob)} {i:Nat} (h:Kind r r' i) (hne:¬j=i):Kind ((j,o)::r) ((j,o')::r') i:=by
 have e0:∀(o:Option Ob) (r:List (Nat×Option Ob)),lookOb ((j,o)::r) i=lookOb r i:=fun o r=>by rw[lookOb_cons,if_neg hne]
 have hp:∀{c:AV},c∈pinL r→c∈pinL ((j,o)::r):=fun {c} h=>by
  rcases o with _|o
  ·exact h
  ·cases o<;>simp only[pinL]<;>first|exact h|exact List.mem_cons_of_mem _ h
 cases h with
 |none h0 h1=>exact .none ((e0 _ _).trans h0) ((e0 _ _).trans h1)
 |row h0 h1=>exact .row ((e0 _ _).trans h0) ((e0 _ _).trans h1)
 |box c d h0 h1 h2=>exact .box c d ((e0 _ _).trans h0) ((e0 _ _).trans h1) (hp h2)
 |lit T vals d h0 h1 h2=>exact .lit T vals d ((e0 _ _).trans h0) ((e0 _ _).trans h1) (hp h2)
 |mp c d h0 h1 h2=>exact .mp c d ((e0 _ _).trans h0) ((e0 _ _).trans h1) (hp h2)
 |pool e e' c d h0 h1=>exact .pool e e' c d ((e0 _ _).trans h0) ((e0 _ _).trans h1)
theorem kindB_at:∀{l0 l1:List (Nat×Option Ob)},kindB l0 l1=true→∀i,Kind l0 l1 i
 |[],[],_,i=> .none rfl rfl
 |(j,some .row)::r,(j',some .row)::r',h,i=>by
  simp only[kindB,Bool.and_eq_true] at h
  obtain rfl:=Nat.eq_of_beq_eq_true h.1
  by_cases e:j=i
  ·subst e;exact .row (by rw[lookOb_cons,if_pos rfl]) (by rw[lookOb_cons,if_pos rfl])
  ·exact(kindB_at h.2 i).skip e
 |(j,some (.box c))::r,(j',some (.box d))::r',h,i=>by
  simp only[kindB,Bool.and_eq_true] at h
  obtain rfl:=Nat.eq_of_beq_eq_true h.1
  by_cases e:j=i
  ·subst e;exact .box c d (by rw[lookOb_cons,if_pos rfl]) (by rw[lookOb_cons,if_pos rfl]) (by simp [pinL])
  ·exact(kindB_at h.2 i).skip e
 |(j,some (.lit T c))::r,(j',some (.box d))::r',h,i=>by
  simp only[kindB,Bool.and_eq_true] at h
  obtain rfl:=Nat.eq_of_beq_eq_true h.1
  by_cases e:j=i
  ·subst e;exact .lit T c d (by rw[lookOb_cons,if_pos rfl]) (by rw[lookOb_cons,if_pos rfl]) (by simp [pinL])
  ·exact(kindB_at h.2 i).skip e
 |(j,some (.mp c))::r,(j',some (.mp d))::r',h,i=>by
  simp only[kindB,Bool.and_eq_true] at h
  obtain rfl:=Nat.eq_of_beq_eq_true h.1
  by_cases e:j=i
  ·subst e;exact .mp c d (by rw[lookOb_cons,if_pos rfl]) (by rw[lookOb_cons,if_pos rfl]) (by simp [pinL])
  ·exact(kindB_at h.2 i).skip e
 |(j,some (.pool e c))::r,(j',some (.pool e' d))::r',h,i=>by
  simp only[kindB,Bool.and_eq_true] at h
  obtain rfl:=Nat.eq_of_beq_eq_true h.1
  by_cases e0:j=i
  ·subst e0;exact .pool e e' c d (by rw[lookOb_cons,if_pos rfl]) (by rw[lookOb_cons,if_pos rfl])
  ·exact(kindB_at h.2 i).skip e0
def rowsL:List (Nat×Option Ob)→List Nat
 |[]=>[]
 |(i,some .row)::r=>i::rowsL r
 |_::r=>rowsL r
theorem rowsL_mem:∀{l:List (Nat×Option Ob)} {i:Nat},lookOb l i=some .row→memN i (rowsL l)=true
 |[],i,h=>by simp [lookOb] at h
 |(j,o)::r,i,h=>by
  rw[lookOb_cons] at h
  have hm:∀(b:Bool),(bif b then true else memN i (rowsL r))=true∨memN i (rowsL r)=false:=fun b=>by cases b<;>cases memN i (rowsL r)<;>simp
  by_cases e:j=i
  ·rw[if_pos e] at h
   subst h
   subst e
   simp only[rowsL,memN1,beq_self_eq_true,cond_true]
  ·rw[if_neg e] at h
   have:=rowsL_mem h
   rcases o with _|o
   ·exact this
   ·cases o<;>simp only[rowsL,memN1]<;>first|exact this|(rw[this];cases (i==j)<;>rfl)
def killSF (rs:List Nat):AV→AV
 |.own j e k els=>bif memN j rs then .any else .own j e k els
 |.optr j e k els n=>bif memN j rs then .any else .optr j e k els n
 |v=>v
def AV.killS (rs:List Nat):AV→AV:=AV.mp (killSF rs)
def Cx.lessS (C:Cx) (rs:List Nat):Cx:={C with Lr:=fun j=>C.Lr j∧memN j rs=false,κ:=⟨C.κ.f,fun _ _=>False⟩}
theorem RA.killS {C C':Cx} {rs:List Nat} {w w':World} (G:Goes (C.lessS rs) w C' w') {v:Value} {av:AV} (h:RA C w v av):RA C' w' v (av.killS rs):=by
 have hless:∀{v j e k els},OwnV C w v j e k els→memN j rs=false→OwnV (C.lessS rs) w v j e k els:=fun h hj=>⟨⟨h.live,hj⟩,h.lim,h.hk,h.blk,h.row⟩
 unfold AV.killS
 induction h with
 |any v=>exact .any v
 |pv h=>exact .pv (G.rp h)
 | @own v j e k els h=>
  simp only[AV.mp,killSF]
  cases hj:memN j rs with
  |true=>exact .any _
  |false=>exact .own (G.ownV (hless h hj))
 |ptr hl hκ=>exact .ptr (G.Lb _ hl).1 ((G.Lb _ hl).2.trans hκ)
 |rptr b off vs hN hb hc hr=>exact G.ra (C:=C.lessS rs) (.rptr b off vs hN hb hc hr)
 | @optr j e k els n b cap hn h=>
  simp only[AV.mp,killSF]
  cases hj:memN j rs with
  |true=>exact .any _
  |false=>exact .optr hn (G.ownV (hless h hj))
 | @agg vs cs hs h ih=>
  simp only[AV.mp,AV.mpL_eq]
  refine .agg (by simpa using hs) fun j u c h1 h2=>?_
  simp only[List.getElem?_map,Option.map_eq_some_iff] at h2
  obtain⟨c',h2,rfl⟩:=h2
  exact ih j u c' h1 h2
 | @tup vs cs hs h ih=>
  simp only[AV.mp,AV.mpL_eq]
  refine .tup (by simpa using hs) fun j u c h1 h2=>?_
  simp only[List.getElem?_map,Option.map_eq_some_iff] at h2
  obtain⟨c',h2,rfl⟩:=h2
  exact ih j u c' h1 h2
 | @clo fn vs us cs ds hs h ht h' ih ih'=>
  simp only[AV.mp,AV.mpL_eq]
  refine .clo (by simpa using hs) (fun j u c h1 h2=>?_) (by simpa using ht) (fun j u c h1 h2=>?_)
  ·simp only[List.getElem?_map,Option.map_eq_some_iff] at h2
   obtain⟨c',h2,rfl⟩:=h2
   exact ih j u c' h1 h2
  ·simp only[List.getElem?_map,Option.map_eq_some_iff] at h2
   obtain⟨c',h2,rfl⟩:=h2
   exact ih' j u c' h1 h2
 |mapr hl hκ=>exact .mapr (G.Lb _ hl).1 ((G.Lb _ hl).2.trans hκ)
 |yld hl hκ=>exact .yld (G.Lb _ hl).1 ((G.Lb _ hl).2.trans hκ)
theorem RA.lessS {C:Cx} {rs:List Nat} {w:World} {v:Value} {av:AV} (h:RA C w v av) (hn:av.noOwn=true):RA (C.lessS rs) w v av:=by
 cases h with
 |any v=>exact .any v
 |pv h=>exact .pv h
 |own h=>simp [AV.noOwn] at hn
 |ptr hl hκ=>exact .ptr hl hκ
 |rptr b off vs hN hb hc hr=>exact .rptr b off vs hN hb hc hr
 |optr hi h=>simp [AV.noOwn] at hn
 |agg hs h=>simp [AV.noOwn] at hn
 |tup hs h=>simp [AV.noOwn] at hn
 |clo hs h ht h'=>simp [AV.noOwn] at hn
 |mapr hl hκ=>exact .mapr hl hκ
 |yld hl hκ=>exact .yld hl hκ
def SubO (δ:DS):List (Nat×Option Ob)→Prop
 |[]=>True
 |(i,o)::r=>δ.ob i=o∧SubO δ r
theorem SubO.at {δ:DS}:∀{l:List (Nat×Option Ob)},SubO δ l→∀i o,lookOb l i=some o→δ.ob i=some o
 |[],_,i,o,h=>by simp [lookOb] at h
 |(j,x)::r,hs,i,o,h=>by
  rw[lookOb_cons] at h
  by_cases e:j=i
  ·rw[if_pos e] at h;subst e;rw[hs.1];exact h
  ·rw[if_neg e] at h;exact hs.2.at i o h
inductive LeX (lr lb:Nat→Bool):AV→AV→Prop
 |any (c:AV):LeX lr lb c .any
 |eq {c d:AV} (h:c=d) (hi:d.ids lr lb=true):LeX lr lb c d
 |nil (k:Nat):LeX lr lb (.pv (.lit (.slice none 0 0))) (.pv (.slice k []))
inductive LeXs (lr lb:Nat→Bool):List AV→List AV→Prop
 |nil:LeXs lr lb [] []
 |cons {c d:AV} {cs ds:List AV} (h:LeX lr lb c d) (hs:LeXs lr lb cs ds):LeXs lr lb (c::cs) (d::ds)
theorem LeXs.len {lr lb:Nat→Bool} {cs ds:List AV} (h:LeXs lr lb cs ds):cs.length=ds.length:=by induction h with|nil=>rfl|cons h hs ih=>simp [ih]
theorem LeXs.at {lr lb:Nat→Bool} {cs ds:List AV} (h:LeXs lr lb cs ds):∀(j:Nat) (c d:AV),cs[j]? =some c→ds[j]? =some d→LeX lr lb c d:=by
 induction h with
 |nil=>intro j c d h1;simp at h1
 |cons h hs ih=>
  intro j c d h1 h2
  cases j with
  |zero=>simp at h1 h2;subst h1;subst h2;exact h
  |succ j=>exact ih j c d (by simpa using h1) (by simpa using h2)
def DS.afterX (δ:DS) (objs0 objs1:List (Nat×Option Ob)):DS:={(δ.mapV (AV.killS (rowsL objs0))) with objs:=objs1++(δ.mapV (AV.killS (rowsL objs0))).objs}
theorem look_app:∀{l l':List (Nat×Option Ob)} {i:Nat},(∀p∈l,p.2.isSome=true)→lookOb (l++l') i=match lookOb l i with|some o=>some o|none=>lookOb l' i
 |[],l',i,_=>rfl
 |(j,o)::r,l',i,h=>by
  rw[List.cons_append,lookOb_cons,lookOb_cons]
  by_cases e:j=i
  ·rw[if_pos e,if_pos e]
   have:=h (j,o) (by simp)
   cases o with
   |none=>simp at this
   |some o=>rfl
  ·rw[if_neg e,if_neg e];exact look_app fun p hp=>h p (by simp [hp])
theorem kindB_some:∀{l0 l1:List (Nat×Option Ob)},kindB l0 l1=true→∀p∈l1,p.2.isSome=true
 |[],[],_,p,hp=>by simp at hp
 |(j,some .row)::r,(j',some .row)::r',h,p,hp=>by
  simp only[kindB,Bool.and_eq_true] at h
  rcases List.mem_cons.1 hp with rfl|hp
  ·rfl
  ·exact kindB_some h.2 p hp
 |(j,some (.box c))::r,(j',some (.box d))::r',h,p,hp=>by
  simp only[kindB,Bool.and_eq_true] at h
  rcases List.mem_cons.1 hp with rfl|hp
  ·rfl
  ·exact kindB_some h.2 p hp
 |(j,some (.lit T c))::r,(j',some (.box d))::r',h,p,hp=>by
  simp only[kindB,Bool.and_eq_true] at h
  rcases List.mem_cons.1 hp with rfl|hp
  ·rfl
  ·exact kindB_some h.2 p hp
 |(j,some (.mp c))::r,(j',some (.mp d))::r',h,p,hp=>by
  simp only[kindB,Bool.and_eq_true] at h
  rcases List.mem_cons.1 hp with rfl|hp
  ·rfl
  ·exact kindB_some h.2 p hp
 |(j,some (.pool e c))::r,(j',some (.pool e' d))::r',h,p,hp=>by
  simp only[kindB,Bool.and_eq_true] at h
  rcases List.mem_cons.1 hp with rfl|hp
  ·rfl
  ·exact kindB_some h.2 p hp
theorem killS_any (rs:List Nat):AV.killS rs .any=.any:=rfl
end Go.Ab
/- Callees that rewrite a row of numbers in place:Go's slices.Sort,slices.Compact. -/
namespace Go.Ab
open Go Go.RowKit
variable {P:Program} {g:Ghost} {δ:DS} {κ:Kp} {a:Act} {w:World}
def nI (z:Int):List PV:=[.lit (.int .i64 z)]
structure RowC (P:Program) (f:FuncId) (out:List Int→List Int) (ret:Option (List Int→Nat)):Prop where
 enters:∀vals w,(callFunc f vals).run P w=.ok (.enter f vals) w
 len:∀zs,(out zs).length=zs.length
 retle:∀r,ret=some r→∀zs,r zs≤zs.length
 calls:∀(b cap:Nat) (zs:List Int) (w:World),Sort.Holds (Value.int .i64) w b 0 zs.toArray→b<w.heap.size→zs.length≤140737488355328→zs.length≤cap→
  Calls P f #[.slice (some ⟨b,0,none⟩) zs.length cap] w fun e w'=>e=.returned (match ret with|none=> .tuple #[]|some r=> .slice (some ⟨b,0,none⟩) (r zs) cap)∧
   ∃n os,w'=Sort.grow (Sort.putRow (Value.int .i64) (Sort.ahead w n) b 0 (out zs).toArray) os
 nil:∀w,Calls P f #[.slice none 0 0] w fun e w'=>e=.returned (match ret with|none=> .tuple #[]|some _=> .slice none 0 0)∧Below w.heap.size w w'
theorem putRow_heap {w:World} {b n:Nat} {c:Array Value} {e:TypeId} {d:Array Int} {os:Array Obj} (h:w.heap[b]? =some (.cells c e (0,0))):
  (Sort.grow (Sort.putRow (Value.int .i64) (Sort.ahead w n) b 0 d) os).heap[b]? =some (.cells (Sort.putCells (Value.int .i64) 0 d c) e (0,0)):=by
 have hb:b<w.heap.size:=(Array.getElem?_eq_some_iff.1 h).1
 unfold Sort.grow Sort.putRow Sort.mapBlock Sort.ahead
 simp only
 rw[Array.getElem?_append_left (by simpa using hb),Array.getElem?_modify,if_pos rfl,h]
 rfl
theorem putRow_other {w:World} {b n k:Nat} {d:Array Int} {os:Array Obj} (hk:k<w.heap.size) (hne:b≠k):
  (Sort.grow (Sort.putRow (Value.int .i64) (Sort.ahead w n) b 0 d) os).heap[k]? =w.heap[k]?:=by
 unfold Sort.grow Sort.putRow Sort.mapBlock Sort.ahead
 simp only
 rw[Array.getElem?_append_left (by simpa using hk),Array.getElem?_modify,if_neg hne]
theorem putRow_turns (w:World) (b n:Nat) (d:Array Int) (os:Array Obj):Turns w (Sort.grow (Sort.putRow (Value.int .i64) (Sort.ahead w n) b 0 d) os) (some b):=
 ⟨rfl,rfl,rfl,by simp [Sort.grow,Sort.putRow,Sort.mapBlock,Sort.ahead],fun k hk hne=>putRow_other hk (fun e=>hne (by rw[e]))⟩
theorem putCells_take {c:Array Value} {d:List Int} (hc:d.length≤c.size):(Sort.putCells (Value.int .i64) 0 d.toArray c).toList.take d.length=d.map (Value.int .i64):=by
 apply List.ext_getElem
 ·simp [Sort.putCells];omega
 ·intro j h1 h2
  have hj:j<d.length:=by simpa using h2
  simp [Sort.putCells,hj]
theorem xs_nums {w:World} {N:Nat→Prop} {xs:List Value} {zs:List Int} (hl:xs.length=zs.length*1) (hx:∀i' j p,cellAt (zs.map nI) i' j=some p→∃u,xs[i'*1+j]? =some u∧RP N w u p):xs=zs.map (Value.int .i64):=by
 apply List.ext_getElem
 ·simp [hl]
 ·intro j h1 h2
  have hj:j<zs.length:=by simpa using h2
  obtain⟨u,hu,hr⟩:=hx j 0 (.lit (.int .i64 zs[j])) (by simp [cellAt,hj,nI])
  cases hr
  rw[Nat.mul_one,Nat.add_zero,List.getElem?_eq_getElem h1] at hu
  simpa using hu
def putAll (δ:DS) (v:AV):List Nat→DS
 |[]=>δ
 |t::ts=>(putAll δ v ts).put t v
theorem putAll_n (δ:DS) (v:AV) (ts:List Nat):(putAll δ v ts).n=δ.n:=by induction ts with|nil=>rfl|cons t ts ih=>exact ih
def allAt (δ:DS) (v:AV):List Nat→Prop
 |[]=>True
 |t::ts=>δ.get t=v∧allAt δ v ts
theorem cx_put (δ:DS) (t:Nat) (v:AV):(δ.put t v).cx g κ=δ.cx g κ:=rfl
theorem cx_putAll (δ:DS) (v:AV):∀ts,(putAll δ v ts).cx g κ=δ.cx g κ
 |[]=>rfl
 |t::ts=>by show((putAll δ v ts).put t v).cx g κ=_;rw[cx_put,cx_putAll δ v ts]
theorem Rel.learn (r:Rel g δ κ a w) {t:Nat} {v:AV} (h:RA (δ.cx g κ) w (g.val a t) v):Rel g (δ.put t v) κ a w where
 n:=r.n
 dfr:=r.dfr
 env:=fun j=>by
  rw[get_put]
  by_cases e:t=j
  ·subst e;rw[if_pos rfl];exact h
  ·rw[if_neg e];exact r.env j
 obj:=r.obj
 inj:=r.inj
 lo:=r.lo
 nx:=r.nx
 wt:=r.wt
 below:=r.below
 hB:=r.hB
 N0:=r.N0
 fr:=r.fr
 mkf:=r.mkf
theorem Rel.learnAll (r:Rel g δ κ a w) {v:AV}:∀ts:List Nat,(∀t∈ts,RA (δ.cx g κ) w (g.val a t) v)→Rel g (putAll δ v ts) κ a w
 |[],_=>r
 |t::ts,h=>(Rel.learnAll r ts fun t ht=>h t (by simp [ht])).learn (by rw[cx_putAll];exact h t (by simp))
theorem allAt_mem {δ:DS} {v:AV}:∀{ts:List Nat},allAt δ v ts→∀t∈ts,δ.get t=v
 |[],_,t,h=>by simp at h
 |x::ts,h,t,ht=>by
  rcases List.mem_cons.1 ht with rfl|ht
  ·exact h.1
  ·exact allAt_mem h.2 t ht
variable {ops:Array Oper} {rest:List Oper} {Q:Exit→DS→Prop} {dst:Option Nat} {ty:TypeId} {pos:String} {af:Array Edge} {gd:Option (Tmp×Bool)}
def rowRet (i:Nat) (e:TypeId) (zs os:List Int):Option (List Int→Nat)→AV
 |none=> .tup []
 |some r=> .own i e 1 ((os.take (r zs)).map nI)
theorem OwnV.nums {C:Cx} {w:World} {v:Value} {i:Nat} {e:TypeId} {zs:List Int} (h:OwnV C w v i e 1 (zs.map nI)):
  (v=.slice none 0 0∧zs=[])∨∃b cap c,v=.slice (some ⟨b,0,none⟩) zs.length cap∧C.κ i=some b∧C.B≤b∧w.heap[b]? =some (.cells c e (0,0))∧zs.length≤cap∧cap≤maxLen∧c.size=cap∧c.toList.take zs.length=zs.map (Value.int .i64):=by
 obtain⟨xs,⟨hl,hown⟩,_,hx⟩:=h.row
 rw[List.length_map] at hl hown
 have hxs:=xs_nums hl hx
 rcases hown with ⟨rfl,h0⟩|⟨b,cap,c,rfl,h1,h2,h3,h4,h5,h6⟩
 ·exact .inl ⟨rfl,List.eq_nil_of_length_eq_zero h0⟩
 ·refine .inr ⟨b,cap,c,rfl,h.blk b rfl,h1,h2,h3,h4,by omega,?_⟩
  rw[← hxs,← h6,Nat.mul_one]
theorem OwnV.mkNums {C:Cx} {w:World} {i b cap:Nat} {e:TypeId} {zs:List Int} {c:Array Value} (hl:C.Lr i) (hκ:C.κ i=some b) (hB:C.B≤b) (h2:w.heap[b]? =some (.cells c e (0,0))) (h3:zs.length≤cap) (h4:cap≤maxLen) (h5:c.size=cap)
  (h6:c.toList.take zs.length=zs.map (Value.int .i64)) (hlim:zs.length≤140737488355328):OwnV C w (.slice (some ⟨b,0,none⟩) zs.length cap) i e 1 (zs.map nI):=by
 refine⟨hl,by simpa using hlim,fun c hc=>?_,fun b' hb'=>?_,zs.map (Value.int .i64),⟨by simp,.inr ⟨b,cap,c,by simp,hB,h2,by simpa using h3,h4,by omega,by simpa using h6⟩⟩,fun u hu=>?_,fun i' j p hp=>?_⟩
 ·obtain⟨z,_,rfl⟩:=List.mem_map.1 hc;rfl
 ·cases hb';exact hκ
 ·obtain⟨z,_,rfl⟩:=List.mem_map.1 hu;rfl
 ·unfold cellAt at hp
  rw[List.getElem?_map] at hp
  cases hz:zs[i']? with
  |none=>rw[hz] at hp;simp at hp
  |some z=>
   rw[hz] at hp
   cases j with
   |zero=>
    simp [nI] at hp
    subst hp
    exact⟨.int .i64 z,by rw[Nat.mul_one,Nat.add_zero,List.getElem?_map,hz];rfl,.lit _⟩
   |succ j=>simp [nI] at hp
theorem Eff.rowC {f:FuncId} {x:Operand} {tys:Array TypeId} {out:List Int→List Int} {ret:Option (List Int→Nat)} (hf:RowC P f out ret) (ts:List Nat) {i:Nat} {e:TypeId} {zs:List Int} (hx:δ.ev x=.own i e 1 (zs.map nI)) (hts:allAt δ (.own i e 1 (zs.map nI)) ts) (hr:δ.ob i=some .row)
  (ho:okT x=true) (hd:okD δ.n dst=true):
  Eff P g ⟨dst,.call {callee:=.value (.func f),args:= #[x],argTypes:=tys},ty,pos,af,none⟩ δ ((putAll (δ.mapV (AV.kill i)) (.own i e 1 ((out zs).map nI)) ts).putd dst (rowRet i e zs (out zs) ret)):=by
 intro κ a w r
 right
 have hxv:=(r.ra hx ho).own_inv
 have hrun:=run_call (dst:=dst) (ty:=ty) (pos:=pos) (af:=af) (xs:= #[x]) (tys:=tys) (ρ:=a.eval) (x:=.func f) (f:=f) rfl hf.enters w
 have hlim:zs.length≤140737488355328:=by simpa using hxv.lim
 refine⟨f, #[a.eval x],by simpa using hrun,?_⟩
 have hnn:∀ts,okD (putAll (δ.mapV (AV.kill i)) (.own i e 1 ((out zs).map nI)) ts).n dst=true:=fun ts=>by rw[putAll_n];exact hd
 have hlr:∀κ',((δ.mapV (AV.kill i)).cx g κ').Lr i:=fun κ'=>by
  show(δ.mapV (AV.kill i)).ob i=some .row
  rw[ob_mapV,hr];rfl
 have hoth:∀t∈ts,OwnV (δ.cx g κ) w (g.val a t) i e 1 (zs.map nI):=fun t ht=>by
  have:=r.env t
  rw[allAt_mem hts t ht] at this
  exact this.own_inv
 have hnil:∀{w':World},OwnV ((δ.mapV (AV.kill i)).cx g κ) w' (.slice none 0 0) i e 1 (([]:List Int).map nI):=fun {w'}=>
  ⟨hlr κ,(by simp),(fun c hc=>by simp at hc),(fun b hb=>by cases hb),⟨[],⟨by simp,.inl ⟨rfl,rfl⟩⟩,(fun u hu=>by simp at hu),(fun i' j p hp=>by simp [cellAt] at hp)⟩⟩
 rcases hxv.nums with ⟨hv,rfl⟩|⟨b,cap,c,hv,hκ,hB,hb,hcap,hmax,hcs,htk⟩
 ·
  rw[hv]
  refine(hf.nil w).mono fun e' w' ⟨he,hbel⟩=>?_
  have r1:=r.ext hbel
  have e0:out []=[]:=List.eq_nil_of_length_eq_zero (by rw[hf.len];rfl)
  have rk:Rel g (δ.mapV (AV.kill i)) κ a w':=by
   refine(r1.row hr (κ':=κ) (fun _ _=>rfl) ⟨rfl,rfl,rfl,Nat.le_refl _,fun _ _ _=>rfl⟩ (fun b hb'=>?_) (AV.kill i) rfl (fun G v av h=>h.kill G)).1
   obtain⟨c,e',h1⟩:=r1.obj i .row hr b hb'
   exact⟨.inl hb',(Array.getElem?_eq_some_iff.1 h1).1,c,e',h1⟩
  have ra:Rel g (putAll (δ.mapV (AV.kill i)) (.own i e 1 ((out []).map nI)) ts) κ a w':=by
   refine rk.learnAll ts fun t ht=> .own ?_
   have h1:=r1.env t
   rw[allAt_mem hts t ht] at h1
   rw[e0]
   rcases h1.own_inv.nums with ⟨h2,_⟩|⟨b,cap,c,h2,hκ,hB,hb,hcap,hmax,hcs,htk⟩
   ·rw[h2];exact hnil
   ·rw[h2];exact OwnV.mkNums (hlr κ) hκ hB hb hcap hmax hcs htk (by simp)
  refine⟨_,κ,he,ra.putd (okD_spec (hnn ts)) ?_⟩
  cases ret with
  |none=>exact .tup rfl (fun j u c h=>by simp at h)
  |some rr=>
   show RA _ _ _ (.own i e 1 (((out []).take (rr [])).map nI))
   rw[e0,cx_putAll]
   exact .own (by simpa using hnil)
 ·rw[hv]
  have hκ0:κ i=some b:=hκ
  have hblt:b<w.heap.size:=(Array.getElem?_eq_some_iff.1 hb).1
  have hold:Sort.Holds (Value.int .i64) w b 0 zs.toArray:=by
   intro j hj
   have hj':j<zs.length:=by simpa using hj
   refine⟨?_,by rw[Nat.zero_add];exact frozen_of hb _⟩
   rw[Nat.zero_add,cell_of hb]
   have h1:(c.toList.take zs.length)[j]? =(zs.map (Value.int .i64))[j]?:=by rw[htk]
   rw[List.getElem?_take,if_pos hj',Array.getElem?_toList,List.getElem?_map,List.getElem?_eq_getElem hj'] at h1
   rw[h1]
   simp [hj']
  refine(hf.calls b cap zs w hold hblt hlim hcap).mono fun e' w' ⟨he,n,os,hw'⟩=>?_
  have hh:w'.heap[b]? =some (.cells (Sort.putCells (Value.int .i64) 0 (out zs).toArray c) e (0,0)):=by rw[hw'];exact putRow_heap hb
  have hsz:(Sort.putCells (Value.int .i64) 0 (out zs).toArray c).size=c.size:=by simp [Sort.putCells]
  have htk2:=putCells_take (c:=c) (d:=out zs) (by rw[hf.len];omega)
  have rk:Rel g (δ.mapV (AV.kill i)) κ a w':=by
   refine(r.row hr (κ':=κ) (fun _ _=>rfl) (by rw[hκ0,hw'];exact putRow_turns _ _ _ _ _) (fun b' hb'=>?_) (AV.kill i) rfl (fun G v av h=>h.kill G)).1
   obtain rfl:b=b':=Option.some.inj (hκ.symm.trans hb')
   exact⟨.inl hκ,(Array.getElem?_eq_some_iff.1 hh).1,_,_,hh⟩
  have ra:Rel g (putAll (δ.mapV (AV.kill i)) (.own i e 1 ((out zs).map nI)) ts) κ a w':=by
   refine rk.learnAll ts fun t ht=> .own ?_
   rcases(hoth t ht).nums with ⟨h2,h0⟩|⟨b',cap',c',h2,hκ',hB',hb',hcap',hmax',hcs',htk'⟩
   ·have e0:out zs=[]:=List.eq_nil_of_length_eq_zero (by rw[hf.len,h0];rfl)
    rw[h2,e0];exact hnil
   ·obtain rfl:b=b':=Option.some.inj (hκ.symm.trans hκ')
    rw[hb] at hb'
    simp only[Option.some.injEq,Obj.cells.injEq] at hb'
    obtain⟨rfl,_⟩:=hb'
    rw[h2,← hf.len zs]
    exact OwnV.mkNums (hlr κ) hκ hB hh (by rw[hf.len];exact hcap') hmax' (by omega) htk2 (by rw[hf.len];exact hlim)
  refine⟨_,κ,he,ra.putd (okD_spec (hnn ts)) ?_⟩
  rw[cx_putAll]
  cases ret with
  |none=>exact .tup rfl (fun j u c h=>by simp at h)
  |some rr=>
   have hle:=hf.retle rr rfl zs
   have hl2:((out zs).take (rr zs)).length=rr zs:=by rw[List.length_take,hf.len];omega
   show RA _ _ (.slice (some ⟨b,0,none⟩) (rr zs) cap) (.own i e 1 (((out zs).take (rr zs)).map nI))
   refine .own ?_
   have:=OwnV.mkNums (C:=(δ.mapV (AV.kill i)).cx g κ) (w:=w') (i:=i) (b:=b) (cap:=cap) (e:=e) (zs:=(out zs).take (rr zs)) (hlr κ) hκ hB hh (by omega) hmax (by omega)
    (by rw[hl2,List.map_take,← htk2,List.take_take,hf.len,Nat.min_eq_left (by omega)]) (by omega)
   rwa [hl2] at this
theorem AOps.rowC {f:FuncId} {x:Operand} {tys:Array TypeId} {out:List Int→List Int} {ret:Option (List Int→Nat)} (hf:RowC P f out ret) (ts:List Nat) {i:Nat} {e:TypeId} {zs:List Int} (hx:δ.ev x=.own i e 1 (zs.map nI)) (hts:allAt δ (.own i e 1 (zs.map nI)) ts) (hr:δ.ob i=some .row)
  (ho:okT x=true) (hd:okD δ.n dst=true) (hK:AOps .plain P g ops rest Q ((putAll (δ.mapV (AV.kill i)) (.own i e 1 ((out zs).map nI)) ts).putd dst (rowRet i e zs (out zs) ret))):
  AOps .plain P g ops (⟨dst,.call {callee:=.value (.func f),args:= #[x],argTypes:=tys},ty,pos,af,none⟩::rest) Q δ:=
 AOps.eff rfl rfl (Eff.rowC hf ts hx hts hr ho hd) hK
theorem enters_of {f:FuncId} {fn:Func} {c:Code} (hf:P.funcs[f]? =some fn) (hb:fn.body=some c) (he:(fn.name== "runtime.NumGoroutine")=false):∀vals w,(callFunc f vals).run P w=.ok (.enter f vals) w:=fun vals w=>by
 simp [callFunc,hf,hb];simpa using he
end Go.Ab
/- A call by a contract over objects. -/
namespace Go.Ab
open Go Go.RowKit
variable {P:Program} {g:Ghost} {δ:DS} {κ:Kp} {a:Act} {w:World}
variable {ops:Array Oper} {rest:List Oper} {Q:Exit→DS→Prop} {dst:Option Nat} {ty:TypeId} {pos:String} {af:Array Edge}
def hiE:List (Nat×AV)→List (Nat×AV)
 |[]=>[]
 |(i,v)::r=>bif Nat.ble HS i then (i,v)::hiE r else hiE r
abbrev DS.hi (δ:DS):DS:=⟨δ.n,hiE δ.env,δ.objs,δ.nx⟩
theorem look_hiE:∀(e:List (Nat×AV)) (j:Nat),look (hiE e) j=if j<HS then .any else look e j
 |[],j=>by simp [hiE,look]
 |(i,v)::r,j=>by
  have ih:=look_hiE r j
  rw[look_cons]
  unfold hiE
  cases hb:Nat.ble HS i with
  |true=>
   have hb':HS≤i:=by simpa using hb
   rw[cond_true,look_cons,ih]
   by_cases e:i=j
   ·subst e;rw[if_pos rfl,if_pos rfl,if_neg (by omega)]
   ·rw[if_neg e,if_neg e]
  |false=>
   have hb':¬HS≤i:=by
    intro h
    have h':Nat.ble HS i=true:=by simpa using h
    rw[hb] at h'
    cases h'
   rw[cond_false,ih]
   by_cases e:i=j
   ·subst e;rw[if_pos (by omega),if_pos (by omega)]
   ·rw[if_neg e]
theorem Rel.hi (r:Rel g δ κ a w):Rel g δ.hi κ a w:=
 {n:=r.n,dfr:=r.dfr
  env:=fun j=>by
   have:=r.env j
   show RA (δ.cx g κ) w _ (look (hiE δ.env) j)
   rw[look_hiE]
   by_cases h:j<HS
   ·rw[if_pos h];exact .any _
   ·rw[if_neg h];exact this
  obj:=r.obj,inj:=r.inj,lo:=r.lo,nx:=r.nx,wt:=r.wt,below:=r.below,hB:=r.hB,N0:=r.N0,fr:=r.fr,mkf:=r.mkf}
theorem lift_hi {e:Exit} (h:Q e δ.hi) (r:Rel g δ κ a w):lift g Q e a w:=⟨δ.hi,κ,h,r.hi⟩
namespace Nf
theorem hi (n:Nat) (e:List (Nat×AV)) (o:List (Nat×Option Ob)) (x:Nat):DS.hi ⟨n,e,o,x⟩=⟨n,hiE e,o,x⟩:=rfl
theorem hi0:hiE []=[]:=rfl
theorem hi1 (i:Nat) (v:AV) (r:List (Nat×AV)):hiE ((i,v)::r)=bif Nat.ble 1000 i then (i,v)::hiE r else hiE r:=rfl
end Nf
def SelfO (lr lb:Nat→Bool):List (Nat×Option Ob)→Prop
 |[]=>True
 |(_,none)::r=>SelfO lr lb r
 |(_,some o)::r=>obIds lr lb o=true∧SelfO lr lb r
theorem SelfO.at {lr lb:Nat→Bool}:∀{l:List (Nat×Option Ob)},SelfO lr lb l→∀i o,lookOb l i=some o→obIds lr lb o=true
 |[],_,i,o,h=>by simp [lookOb] at h
 |(j,none)::r,hs,i,o,h=>by
  rw[lookOb_cons] at h
  by_cases e:j=i
  ·rw[if_pos e] at h;cases h
  ·rw[if_neg e] at h;exact SelfO.at (l:=r) hs i o h
 |(j,some x)::r,hs,i,o,h=>by
  rw[lookOb_cons] at h
  by_cases e:j=i
  ·rw[if_pos e] at h;cases h;exact hs.1
  ·rw[if_neg e] at h;exact SelfO.at (l:=r) hs.2 i o h
theorem obIds_set {lr lb:Nat→Bool} {l:List Int}:obIds lr lb (.mp (mpI (setI l)))=true:=by
 unfold obIds
 rw[List.all_eq_true]
 intro p hp
 unfold mpI setI at hp
 obtain⟨q,hq,rfl⟩:=List.mem_map.1 hp
 obtain⟨x,_,rfl⟩:=List.mem_map.1 hq
 rfl
open Classical in
noncomputable def κX (objs0:List (Nat×Option Ob)) (κ κ':Kp):Kp:=⟨fun i=>if (lookOb objs0 i).isSome=true then κ' i else κ i,fun i b=>if (lookOb objs0 i).isSome=true then κ'.F i b else κ.F i b⟩
theorem afterX_ob {objs0 objs1:List (Nat×Option Ob)} (hk:kindB objs0 objs1=true) (i:Nat):(δ.afterX objs0 objs1).ob i=match lookOb objs1 i with|some o=>some o|none=>(δ.ob i).map (Ob.mp' (AV.killS (rowsL objs0))):=by
 show lookOb (objs1++(δ.mapV (AV.killS (rowsL objs0))).objs) i=_
 rw[look_app (kindB_some hk)]
 cases h:lookOb objs1 i with
 |some o=>rfl
 |none=>exact ob_mapV _ _ _
theorem callX_core {α:Type} {T:World→Prop} {E:α→Cx→World→Ending→Prop} {y:Operand} {f:FuncId} {xs:List Operand} {tys:Array TypeId} {first cap args:List AV} {n0:Nat} {objs0:List (Nat×Option Ob)} {objsA:α→List (Nat×Option Ob)} (hwt:g.wt=none) (hTB:TB T g) (hf:FnXG T P E f n0 objs0 args objsA) (hy:δ.ev y=.clo (.func f) first cap) (hoy:okT y=true) (hos:xs.all okT=true)
  (hsub:SubO δ objs0) (hargs:LeXs (XS objs0 n0).lrB (XS objs0 n0).lbB (first++xs.map δ.ev++cap) args) (hkA:∀x,kindB objs0 (objsA x)=true) (hn0:nxB n0 objs0=true) (hself:SelfO (XS objs0 n0).lrB (XS objs0 n0).lbB objs0)
  (hselfA:∀x,SelfO (XS (objsA x) n0).lrB (XS (objsA x) n0).lbB (objsA x))
  (hKr:∀(x:α) (κ:Kp) (a:Act) (w':World) (C:Cx) (v:Value),Rel g (δ.afterX objs0 (objsA x)) κ a w'→E x C w' (.returned v)→(∀r,RA C w' v r→r.ids (XS (objsA x) n0).lrB (XS (objsA x) n0).lbB=true→RA ((δ.afterX objs0 (objsA x)).cx g κ) w' v r)→wpListIn (Fw g.ro) 0 P ops (lift g Q) rest (a.put dst v) w')
  (hKp:∀(x:α) (C:Cx) (w':World) (ch:List PanicEntry),E x C w' (.panicked ch)→Q (.panic ch) (δ.afterX objs0 (objsA x)).hi∨Q (.panic ch) (δ.afterX objs0 (objsA x))) (hno:∀(x:α) (C:Cx) (w':World),¬E x C w' .outgrown):
  AOps .plain P g ops (⟨dst,.call {callee:=.value y,args:=xs.toArray,argTypes:=tys},ty,pos,af,none⟩::rest) Q δ:=by
 intro κ a w r0
 have hra:=r0.ra hy hoy
 generalize hv:a.eval y=v at hra
 cases hra with
 | @clo _ vs us _ _ hs hvs ht hus=>
  obtain⟨ms,hm1,hm2,hm3⟩:=r0.dfr
  have hlive0:∀i,(XS objs0 n0).live i→δ.live i:=fun i ⟨o,h⟩=>⟨o,hsub.at i o h⟩
  let g':Ghost:={B:=g.B,w0:=w,N0:=fun b=>(δ.cx g κ).N b∨(∃i,(XS objs0 n0).live i∧(κ i=some b∨κ.F i b))∨w.heap.size≤b,held:=fun _=>undef,ro:=none,mks:=ms++g.mks,wt:=none,fr:=fun b=>b<w.heap.size∧∀i,(XS objs0 n0).live i→κ i≠some b∧¬κ.F i b,w1:=w}
  let κc:Kp:=⟨κ.f,fun i b=>(lookOb objs0 i).isSome=true∧κ.F i b⟩
  have hN1:∀b,(δ.cx g κ).N b→((XS objs0 n0).cx g' κc).N b:=fun b h=>⟨⟨.inl h,fun⟨i,hi⟩=>h.1.2 ⟨i,hi.2⟩⟩,fun i hi=>h.2 i (hlive0 i hi)⟩
  have hlr1:∀i,(XS objs0 n0).lrB i=true→((XS objs0 n0).cx g' κc).Lr i∧((XS objs0 n0).cx g' κc).κ i=(δ.cx g κ).κ i:=fun i h=>⟨lrB_spec (δ:=XS objs0 n0) h,rfl⟩
  have hlb1:∀i,(XS objs0 n0).lbB i=true→((XS objs0 n0).cx g' κc).Lb i∧((XS objs0 n0).cx g' κc).κ i=(δ.cx g κ).κ i:=fun i h=>⟨lbB_spec (δ:=XS objs0 n0) h,rfl⟩
  have hrel:Rel g' (XS objs0 n0) κc act0 w:=
   {n:=rfl,dfr:=⟨[],rfl,hm2,hm3⟩,env:=fun j=> .any _
    obj:=fun i o h=>ObIs.to (C:=δ.cx g κ) (C':=(XS objs0 n0).cx g' κc) rfl hN1 hlr1 hlb1 rfl (fun b hb=>⟨by rw[show lookOb objs0 i=some o from h];rfl,hb⟩) (r0.obj i o (hsub.at i o h)) (hself.at i o h)
    inj:=fun i j b h1 h2=>r0.inj i j b (hlive0 i h1) (hlive0 j h2)
    lo:=fun i b h1=>r0.lo i b (hlive0 i h1)
    nx:=fun i ⟨o,h⟩=>nxB_spec hn0 i o h
    wt:=fun k hk=>by cases hk
    below:=Below.refl _ _,hB:=r0.hB
    N0:=fun b hb hf=>by
     by_cases h1:w.heap.size≤b
     ·exact .inr (.inr h1)
     ·by_cases h2:∃i,(XS objs0 n0).live i∧(κ i=some b∨κ.F i b)
      ·exact .inr (.inl h2)
      ·exact absurd ⟨by omega,fun i hi=>⟨fun e=>h2 ⟨i,hi,.inl e⟩,fun e=>h2 ⟨i,hi,.inr e⟩⟩⟩ hf
    fr:=⟨fun b hb=>⟨hb.1,rfl,fun i hi=>(hb.2 i hi).1⟩,fun i b hb=>by
     obtain⟨h1,h2,h3,h4,h5⟩:=r0.fr.2 i b hb.2
     exact⟨⟨h1.1,fun k hk=>by cases hk⟩,h2,fun hf=>(hf.2 i (Option.isSome_iff_exists.1 hb.1)).2 hb.2,fun j hj=>h4 j (hlive0 j hj),fun j hj=>h5 j hj.2⟩⟩
    mkf:=fun d hd=>by cases hd}
  have hl:=hargs.len
  simp only[List.length_append,List.length_map] at hl
  have hvals:∀(j:Nat) (v:Value) (av:AV),(vs++xs.toArray.map a.eval++us)[j]? =some v→args[j]? =some av→RA ((XS objs0 n0).cx g' κc) w v av:=by
   intro j v av h1 h2
   have hjl:j<(first++xs.map δ.ev++cap).length:=by rw[hargs.len];exact(List.getElem?_eq_some_iff.1 h2).1
   have h3:=List.getElem?_eq_getElem hjl
   have hle:=hargs.at j _ av h3 h2
   generalize (first++xs.map δ.ev++cap)[j]=c at h3 hle
   have hc:RA (δ.cx g κ) w v c:=by
    by_cases hj:j<first.length+xs.length
    ·rw[List.getElem?_append_left (by simp;omega)] at h3
     rw[Array.getElem?_append_left (by simp;omega)] at h1
     by_cases hj1:j<first.length
     ·rw[List.getElem?_append_left hj1] at h3
      rw[Array.getElem?_append_left (by omega)] at h1
      exact hvs j v c h1 h3
     ·rw[List.getElem?_append_right (by omega)] at h3
      rw[Array.getElem?_append_right (by omega),hs] at h1
      simp only[List.map_toArray,List.getElem?_toArray,List.getElem?_map,Option.map_eq_some_iff] at h1 h3
      obtain⟨y,h5,rfl⟩:=h1
      obtain⟨y',h4,rfl⟩:=h3
      rw[h5] at h4;cases h4
      exact r0.evc y (okT_spec ((List.all_eq_true.1 hos) y (List.mem_of_getElem? h5)))
    ·rw[List.getElem?_append_right (by simp;omega)] at h3
     rw[Array.getElem?_append_right (by simp;omega)] at h1
     have e1:(vs++xs.toArray.map a.eval).size=(first++xs.map δ.ev).length:=by simp;omega
     rw[e1] at h1
     exact hus _ v c h1 h3
   cases hle with
   |any=>exact .any _
   |eq e hi=>subst e;exact RA.to (C:=δ.cx g κ) (C':=(XS objs0 n0).cx g' κc) rfl hN1 hlr1 hlb1 hc hi
   |nil k=>rw[hc.lit];exact .pv (rp_nil k)
  show wpListIn _ _ P ops _ (_::rest) a w
  refine wpl_plain rfl rfl fun K hK'=>?_
  unfold Oper.wpF
  rw[run_callv hv hf.enters,Oper.uponIn_enter]
  refine⟨fun h=>by simp at h,(callsIn_any (hf.calls g' κc w _ rfl rfl (fun w' hb=>hTB w' (r0.below.trans hb)) hrel (by simp;omega) hvals)).mono ?_⟩
  rintro e w' ⟨xA,κ',hE,r1,hpin⟩
  have hk:=hkA xA
  have hself1:=hselfA xA
  have hKr:=hKr xA
  have hKp:=hKp xA
  have hno:=hno xA
  generalize hobjs1:objsA xA=objs1 at*
  obtain⟨F,hF⟩:∃F,F=AV.killS (rowsL objs0):=⟨_,rfl⟩
  have hob:=fun i=>afterX_ob (δ:=δ) hk i
  have hkind:=kindB_at hk
  have hsz:w.heap.size≤w'.heap.size:=r1.below.size
  have hfr:∀b,b<w.heap.size→(∀i,(XS objs0 n0).live i→κ i≠some b∧¬κ.F i b)→w'.heap[b]? =w.heap[b]?∧∀i,(XS objs1 n0).live i→κ' i≠some b:=fun b h1 h2=>(r1.fr.1 b ⟨h1,h2⟩).2
  have hfF:∀b,b<w.heap.size→(∀i,(XS objs0 n0).live i→κ i≠some b∧¬κ.F i b)→∀i,¬κ'.F i b:=fun b h1 h2 i hi=>(r1.fr.2 i b hi).2.2.1 ⟨h1,h2⟩
  -- in and out
  have hin:∀i,(lookOb objs0 i).isSome=true→(XS objs0 n0).live i∧(XS objs1 n0).live i∧κX objs0 κ κ' i=κ' i:=fun i h=>by
   refine⟨Option.isSome_iff_exists.1 h,?_,if_pos h⟩
   cases hkind i with
   |none h0 _=>rw[h0] at h;cases h
   |row _ h1=>exact⟨_,h1⟩
   |box c d _ h1 _=>exact⟨_,h1⟩
   |lit T c d _ h1 _=>exact⟨_,h1⟩
   |mp c d _ h1 _=>exact⟨_,h1⟩
   |pool _ _ c d _ h1=>exact⟨_,h1⟩
  have hout:∀i,¬(lookOb objs0 i).isSome=true→lookOb objs1 i=.none∧κX objs0 κ κ' i=κ i:=fun i h=>by
   refine⟨?_,if_neg h⟩
   cases hkind i with
   |none _ h1=>exact h1
   |row h0 _=>rw[h0] at h;exact absurd rfl h
   |box c d h0 _ _=>rw[h0] at h;exact absurd rfl h
   |lit T c d h0 _ _=>rw[h0] at h;exact absurd rfl h
   |mp c d h0 _ _=>rw[h0] at h;exact absurd rfl h
   |pool _ _ c d h0 _=>rw[h0] at h;exact absurd rfl h
  have hob1:∀i,(lookOb objs0 i).isSome=true→(δ.afterX objs0 objs1).ob i=lookOb objs1 i:=fun i h=>by
   obtain⟨_,⟨o,h1⟩,_⟩:=hin i h
   rw[hob i]
   have h1:lookOb objs1 i=some o:=h1
   rw[h1]
  have hob2:∀i,¬(lookOb objs0 i).isSome=true→(δ.afterX objs0 objs1).ob i=(δ.ob i).map (Ob.mp' F):=fun i h=>by rw[hob i,(hout i h).1,hF]
  have hlive1:∀i,(lookOb objs0 i).isSome=true→δ.live i:=fun i h=>hlive0 i (hin i h).1
  have hlive2:∀i,¬(lookOb objs0 i).isSome=true→(δ.afterX objs0 objs1).live i→δ.live i:=fun i h ⟨o,ho⟩=>by
   rw[hob2 i h] at ho
   obtain⟨o',h1,_⟩:=Option.map_eq_some_iff.1 ho
   exact⟨o',h1⟩
  have hnd:∀i,¬(lookOb objs0 i).isSome=true→∀j,(XS objs0 n0).live j→j≠i:=fun i h j ⟨o,ho⟩ e=>by
   subst e
   have ho:lookOb objs0 j=some o:=ho
   rw[ho] at h
   exact h rfl
  have hold:∀i b,¬(lookOb objs0 i).isSome=true→δ.live i→κ i=some b→b<w.heap.size∧∀j,(XS objs0 n0).live j→κ j≠some b∧¬κ.F j b:=fun i b h hl hb=>
   ⟨(r0.lo i b hl hb).2,fun j hj=>⟨fun e=>hnd i h j hj (r0.inj j i b (hlive0 j hj) hl e hb),fun e=>r0.fr.Fs_own hl hb ⟨j,e⟩⟩⟩
  have hoN:∀b,(δ.cx g κ).N b→∀j,(XS objs0 n0).live j→κ j≠some b∧¬κ.F j b:=fun b h j hj=>⟨h.2 j (hlive0 j hj),fun e=>h.1.2 ⟨j,e⟩⟩
  -- a pool's blocks behind the call
  have hXF:∀i b,(κX objs0 κ κ').F i b→((lookOb objs0 i).isSome=true∧κ'.F i b)∨(¬(lookOb objs0 i).isSome=true∧κ.F i b):=fun i b h=>by
   have h:(if (lookOb objs0 i).isSome=true then κ'.F i b else κ.F i b):=h
   by_cases hi:(lookOb objs0 i).isSome=true
   ·rw[if_pos hi] at h;exact .inl ⟨hi,h⟩
   ·rw[if_neg hi] at h;exact .inr ⟨hi,h⟩
  have hFo:∀i b,¬(lookOb objs0 i).isSome=true→κ.F i b→b<w.heap.size∧∀j,(XS objs0 n0).live j→κ j≠some b∧¬κ.F j b:=fun i b hi hF=>
   ⟨(r0.fr.2 i b hF).2.1,fun j hj=>⟨(r0.fr.2 i b hF).2.2.2.1 j (hlive0 j hj),fun e=>hnd i hi j hj ((r0.fr.2 i b hF).2.2.2.2 j e)⟩⟩
  have hNN:∀b,b<w.heap.size→(δ.cx g κ).N b→((δ.afterX objs0 objs1).cx g (κX objs0 κ κ')).N b:=fun b h1 h2=>by
   refine⟨⟨h2.1.1,fun⟨i,hi⟩=>?_⟩,fun i hi e=>?_⟩
   ·rcases hXF i b hi with h|h
    ·exact hfF b h1 (hoN b h2) i h.2
    ·exact h2.1.2 ⟨i,h.2⟩
   by_cases h:(lookOb objs0 i).isSome=true
   ·rw[(hin i h).2.2] at e
    exact(hfr b h1 (hoN b h2)).2 i (hin i h).2.1 e
   ·rw[(hout i h).2] at e
    exact h2.2 i (hlive2 i h hi) e
  have hsame:∀i b,(AV.ptr i 0∈pinL objs0∨AV.mapr i∈pinL objs0)→κ i=some b→κX objs0 κ κ' i=κ i:=fun i b hp hb=>by
   by_cases h:(lookOb objs0 i).isSome=true
   ·rw[(hin i h).2.2,hpin i b hp hb,hb]
   ·exact(hout i h).2
  have G:Goes ((δ.cx g κ).lessS (rowsL objs0)) w ((δ.afterX objs0 objs1).cx g (κX objs0 κ κ')) w':=
   {B:=rfl,size:=hsz
    N:=fun b h1 h2=>⟨hNN b h1 h2,(hfr b h1 (hoN b h2)).1⟩
    Lr:=fun i hi=>by
     have hl:δ.ob i=some .row:=hi.1
     have h:¬(lookOb objs0 i).isSome=true:=fun h=>by
      obtain⟨⟨o,ho⟩,_,_⟩:=hin i h
      have h1:=hsub.at i o ho
      rw[hl] at h1
      cases h1
      have:=rowsL_mem (l:=objs0) ho
      rw[hi.2] at this
      cases this
     refine⟨?_,(hout i h).2,fun b hb=>?_⟩
     ·show(δ.afterX objs0 objs1).ob i=_
      rw[hob2 i h,hl];rfl
     ·obtain⟨h1,h2⟩:=hold i b h ⟨_,hl⟩ hb
      exact(hfr b h1 h2).1
    Lb:=fun i hi=>by
     obtain⟨o,h1,h2⟩:=hi
     by_cases h:(lookOb objs0 i).isSome=true
     ·have h3:=hob1 i h
      cases hkind i with
      |none h0 _=>rw[h0] at h;cases h
      |row h0 _=>
       have:=hsub.at i _ h0
       rw[h1] at this
       cases this
       simp [Ob.isRow] at h2
      |box c d h0 h4 hp=>
       obtain⟨b,_,_,h5,_⟩:=r0.obj i _ (hsub.at i _ h0)
       exact⟨⟨_,h3.trans h4,rfl⟩,hsame i b (.inl hp) h5⟩
      |lit T c d h0 h4 hp=>
       obtain⟨b,h5,_⟩:=r0.obj i _ (hsub.at i _ h0)
       exact⟨⟨_,h3.trans h4,rfl⟩,hsame i b (.inl hp) h5⟩
      |mp c d h0 h4 hp=>
       obtain⟨b,_,_,h5,_⟩:=r0.obj i _ (hsub.at i _ h0)
       exact⟨⟨_,h3.trans h4,rfl⟩,hsame i b (.inr hp) h5⟩
      |pool e e' c d h0 h4=>
       have h5:=(r0.obj i _ (hsub.at i _ h0)).1
       have h6:=(r1.obj i _ h4).1
       exact⟨⟨_,h3.trans h4,rfl⟩,(hin i h).2.2.trans (h6.trans h5.symm)⟩
     ·refine⟨⟨_,by rw[hob2 i h,h1];rfl,?_⟩,(hout i h).2⟩
      cases o<;>first|rfl|(simp [Ob.isRow] at h2)}
  have HF:∀{u:Value} {av:AV},RA (δ.cx g κ) w u av→RA ((δ.afterX objs0 objs1).cx g (κX objs0 κ κ')) w' u (F av):=fun h=>by rw[hF];exact h.killS G
  have hN2:∀b,((XS objs1 n0).cx g' κ').N b→((δ.afterX objs0 objs1).cx g (κX objs0 κ κ')).N b:=fun b h=>by
   obtain⟨h1,h2⟩:=h
   have hkk:∀i,(δ.afterX objs0 objs1).live i→κX objs0 κ κ' i=some b→¬(lookOb objs0 i).isSome=true∧δ.live i∧κ i=some b:=fun i hi e=>by
    by_cases h:(lookOb objs0 i).isSome=true
    ·rw[(hin i h).2.2] at e
     exact absurd e (h2 i (hin i h).2.1)
    ·rw[(hout i h).2] at e
     exact⟨h,hlive2 i h hi,e⟩
   have hkF:∀i,(κX objs0 κ κ').F i b→¬(lookOb objs0 i).isSome=true∧κ.F i b:=fun i hi=>by
    rcases hXF i b hi with h|h
    ·exact absurd ⟨i,h.2⟩ h1.2
    ·exact h
   rcases h1.1 with h1|⟨j,hj,hjb⟩|h1
   ·exact⟨⟨h1.1.1,fun⟨i,hi⟩=>h1.1.2 ⟨i,(hkF i hi).2⟩⟩,fun i hi e=>let ⟨_,h3,h4⟩:=hkk i hi e;h1.2 i h3 h4⟩
   ·have hN0:g.N0 b:=by
     rcases hjb with hjb|hjb
     ·exact(r0.N0own (hlive0 j hj) hjb).1
     ·obtain⟨k1,k2,k3,_⟩:=r0.fr.2 j b hjb;exact r0.N0 b k1.1 k3
    refine⟨⟨hN0,fun⟨i,hi⟩=>?_⟩,fun i hi e=>?_⟩
    ·obtain⟨h3,h4⟩:=hkF i hi
     rcases hjb with hjb|hjb
     ·exact(hFo i b h3 h4).2 j hj|>.1 hjb
     ·exact(hFo i b h3 h4).2 j hj|>.2 hjb
    ·obtain⟨h3,h4,h5⟩:=hkk i hi e
     have:=(hold i b h3 h4 h5).2 j hj
     rcases hjb with hjb|hjb
     ·exact this.1 hjb
     ·exact this.2 hjb
   ·refine⟨⟨(r0.N0new h1).1,fun⟨i,hi⟩=>?_⟩,fun i hi e=>?_⟩
    ·have:=(hFo i b (hkF i hi).1 (hkF i hi).2).1
     omega
    ·obtain⟨_,h4,h5⟩:=hkk i hi e
     have:=(r0.lo i b h4 h5).2
     omega
  have hlr2:∀i,(XS objs1 n0).lrB i=true→((δ.afterX objs0 objs1).cx g (κX objs0 κ κ')).Lr i∧((δ.afterX objs0 objs1).cx g (κX objs0 κ κ')).κ i=((XS objs1 n0).cx g' κ').κ i:=fun i h=>by
   have h1:lookOb objs1 i=some .row:=lrB_spec (δ:=XS objs1 n0) h
   have h2:(lookOb objs0 i).isSome=true:=by
    cases hkind i with
    |none _ h0=>rw[h0] at h1;cases h1
    |row h0 _=>rw[h0];rfl
    |box c d h0 _ _=>rw[h0];rfl
    |lit T c d h0 _ _=>rw[h0];rfl
    |mp c d h0 _ _=>rw[h0];rfl
    |pool _ _ c d h0 _=>rw[h0];rfl
   exact⟨(hob1 i h2).trans h1,(hin i h2).2.2⟩
  have hlb2:∀i,(XS objs1 n0).lbB i=true→((δ.afterX objs0 objs1).cx g (κX objs0 κ κ')).Lb i∧((δ.afterX objs0 objs1).cx g (κX objs0 κ κ')).κ i=((XS objs1 n0).cx g' κ').κ i:=fun i h=>by
   obtain⟨o,h1,h3⟩:=lbB_spec (δ:=XS objs1 n0) h
   have h1:lookOb objs1 i=some o:=h1
   have h2:(lookOb objs0 i).isSome=true:=by
    cases hkind i with
    |none _ h0=>rw[h0] at h1;cases h1
    |row h0 _=>rw[h0];rfl
    |box c d h0 _ _=>rw[h0];rfl
    |lit T c d h0 _ _=>rw[h0];rfl
    |mp c d h0 _ _=>rw[h0];rfl
    |pool _ _ c d h0 _=>rw[h0];rfl
   exact⟨⟨o,(hob1 i h2).trans h1,h3⟩,(hin i h2).2.2⟩
  have hR:Rel g (δ.afterX objs0 objs1) (κX objs0 κ κ') a w':=
   {n:=r0.n
    dfr:=by
     obtain⟨rs,_,_,k3⟩:=r1.dfr
     exact⟨ms,hm1,hm2,fun k hk=>k3 k (List.mem_append.2 (.inr hk))⟩
    env:=fun j=>by
     have:(δ.afterX objs0 objs1).get j=F (δ.get j):=by rw[hF];exact get_mapV _ (killS_any _) δ j
     rw[this];exact HF (r0.env j)
    obj:=fun i o h=>by
     by_cases hi:(lookOb objs0 i).isSome=true
     ·rw[hob1 i hi] at h
      exact ObIs.to (C:=(XS objs1 n0).cx g' κ') (C':=(δ.afterX objs0 objs1).cx g (κX objs0 κ κ')) rfl hN2 hlr2 hlb2 (hin i hi).2.2 (fun b hb=>(by show(if (lookOb objs0 i).isSome=true then κ'.F i b else κ.F i b);rw[if_pos hi];exact hb)) (r1.obj i o h) (hself1.at i o h)
     ·rw[hob2 i hi] at h
      obtain⟨o',ho',rfl⟩:=Option.map_eq_some_iff.1 h
      have h0:=r0.obj i o' ho'
      have hκi:=(hout i hi).2
      have hbl:∀b,κ i=some b→w'.heap[b]? =w.heap[b]?:=fun b hb=>let ⟨h1,h2⟩:=hold i b hi ⟨_,ho'⟩ hb;(hfr b h1 h2).1
      cases o' with
      |row=>
       intro b hb
       have hb':κ i=some b:=by rw[← hκi];exact hb
       obtain⟨c,e,h1⟩:=h0 b hb'
       exact⟨c,e,(hbl b hb').trans h1⟩
      |lit T vals=>obtain⟨b,h1,h2⟩:=h0;exact⟨b,hκi.trans h1,(hbl b h1).trans h2⟩
      |pool e rows=>exact⟨hκi.trans h0.1,fun k=>(h0.2.1 k).goes rfl fun b _ h2 _=>⟨(by show(if (lookOb objs0 i).isSome=true then κ'.F i b else κ.F i b);rw[if_neg hi];exact h2),(hfr b (hFo i b hi h2).1 (hFo i b hi h2).2).1⟩,h0.2.2⟩
      |box cs=>
       obtain⟨b,c,e,h1,h2,h3,h4⟩:=h0
       refine⟨b,c,e,hκi.trans h1,(hbl b h1).trans h2,by simpa using h3,fun k u av h5 h6=>?_⟩
       simp only[List.getElem?_map,Option.map_eq_some_iff] at h6
       obtain⟨av',h6,rfl⟩:=h6
       exact⟨HF (h4 k u av' h5 h6).1,(h4 k u av' h5 h6).2⟩
      |mp l=>
       obtain⟨b,es,clock,h1,h2,h3,h4⟩:=h0
       exact⟨b,es,clock,hκi.trans h1,(hbl b h1).trans h2,⟨h3.1,fun k e p h5 h6=>⟨(h3.2 k e p h5 h6).1,G.ra ((h3.2 k e p h5 h6).2.lessS (h4.2 p (List.mem_of_getElem? h6)))⟩⟩,h4⟩
      |mpl l kk v=>
       obtain⟨b,es,clock,h1,h2,h3,h4⟩:=h0
       exact⟨b,es,clock,hκi.trans h1,(hbl b h1).trans h2,h3.last (fun u p hp h=>G.ra (h.lessS (h4.2 p hp))) (fun u h=>HF h),h4⟩
      |it l seen=>
       obtain⟨b,h1,h2⟩:=h0
       exact⟨b,hκi.trans h1,h2.mono G.size G.N (hbl b h1)⟩
      |loop l tm ps asg body st=>
       obtain⟨b,lr,h1,h2,h3⟩:=h0
       exact⟨b,lr,hκi.trans h1,(hbl b h1).trans h2,h3⟩
    inj:=fun i j b h1 h2 h3 h4=>by
     by_cases hi:(lookOb objs0 i).isSome=true
     ·rw[(hin i hi).2.2] at h3
      by_cases hj:(lookOb objs0 j).isSome=true
      ·rw[(hin j hj).2.2] at h4
       exact r1.inj i j b (hin i hi).2.1 (hin j hj).2.1 h3 h4
      ·rw[(hout j hj).2] at h4
       obtain⟨k1,k2⟩:=hold j b hj (hlive2 j hj h2) h4
       exact absurd h3 ((hfr b k1 k2).2 i (hin i hi).2.1)
     ·rw[(hout i hi).2] at h3
      by_cases hj:(lookOb objs0 j).isSome=true
      ·rw[(hin j hj).2.2] at h4
       obtain⟨k1,k2⟩:=hold i b hi (hlive2 i hi h1) h3
       exact absurd h4 ((hfr b k1 k2).2 j (hin j hj).2.1)
      ·rw[(hout j hj).2] at h4
       exact r0.inj i j b (hlive2 i hi h1) (hlive2 j hj h2) h3 h4
    lo:=fun i b h1 h2=>by
     by_cases hi:(lookOb objs0 i).isSome=true
     ·rw[(hin i hi).2.2] at h2
      exact r1.lo i b (hin i hi).2.1 h2
     ·rw[(hout i hi).2] at h2
      have:=r0.lo i b (hlive2 i hi h1) h2
      exact⟨this.1,Nat.lt_of_lt_of_le this.2 hsz⟩
    nx:=fun i h=>by
     by_cases hi:(lookOb objs0 i).isSome=true
     ·exact r0.nx i (hlive1 i hi)
     ·exact r0.nx i (hlive2 i hi h)
    wt:=fun k hk=>by rw[hwt] at hk;cases hk
    below:=r0.below.trans r1.below
    hB:=r1.hB
    N0:=r0.N0
    fr:=by
     refine⟨fun b hb=>?_,fun i b hb=>?_⟩
     ·obtain⟨h1,h2,h3⟩:=r0.fr.1 b hb
      have hlt:=r0.fr.old hb
      have h4:=hfr b hlt fun i hi=>⟨h3 i (hlive0 i hi),fun e=>(r0.fr.2 i b e).2.2.1 hb⟩
      refine⟨h1,h4.1.trans h2,fun i hi e=>?_⟩
      by_cases hii:(lookOb objs0 i).isSome=true
      ·rw[(hin i hii).2.2] at e
       exact h4.2 i (hin i hii).2.1 e
      ·rw[(hout i hii).2] at e
       exact h3 i (hlive2 i hii hi) e
     ·rcases hXF i b hb with ⟨hi,hF⟩|⟨hi,hF⟩
      ·obtain⟨k1,k2,k3,k4,k5⟩:=r1.fr.2 i b hF
       refine⟨⟨k1.1,fun k hk=>by rw[hwt] at hk;cases hk⟩,k2,fun hf=>?_,fun j hj e=>?_,fun j hj=>?_⟩
       ·exact k3 ⟨r0.fr.old hf,fun j hj=>⟨(r0.fr.1 b hf).2.2 j (hlive0 j hj),fun e=>(r0.fr.2 j b e).2.2.1 hf⟩⟩
       ·by_cases hjj:(lookOb objs0 j).isSome=true
        ·rw[(hin j hjj).2.2] at e
         exact k4 j (hin j hjj).2.1 e
        ·rw[(hout j hjj).2] at e
         exact k3 (hold j b hjj (hlive2 j hjj hj) e)
       ·rcases hXF j b hj with ⟨_,hj⟩|⟨hjj,hj⟩
        ·exact k5 j hj
        ·exact absurd (hFo j b hjj hj) k3
      ·obtain⟨k1,k2,k3,k4,k5⟩:=r0.fr.2 i b hF
       refine⟨k1,Nat.lt_of_lt_of_le k2 hsz,k3,fun j hj e=>?_,fun j hj=>?_⟩
       ·by_cases hjj:(lookOb objs0 j).isSome=true
        ·rw[(hin j hjj).2.2] at e
         exact(hfr b (hFo i b hi hF).1 (hFo i b hi hF).2).2 j (hin j hjj).2.1 e
        ·rw[(hout j hjj).2] at e
         exact k4 j (hlive2 j hjj hj) e
       ·rcases hXF j b hj with ⟨_,hj⟩|⟨_,hj⟩
        ·exact absurd hj (hfF b (hFo i b hi hF).1 (hFo i b hi hF).2 j)
        ·exact k5 j hj
    mkf:=r0.mkf}
  cases e with
  |returned v=>exact hK' _ _ (hKr _ _ _ _ v hR hE fun r hvr hr=>RA.to (C:=(XS objs1 n0).cx g' κ') (C':=(δ.afterX objs0 objs1).cx g (κX objs0 κ κ')) rfl hN2 hlr2 hlb2 hvr hr)
  |panicked ch=>
           rcases hKp _ _ ch hE with h|h;·exact lift_hi h hR
           ·exact⟨_,_,h,hR⟩
  |outgrown=>exact absurd hE (hno _ _)
theorem AOps.callXT {T:World→Prop} {y:Operand} {f:FuncId} {xs:List Operand} {tys:Array TypeId} {first cap args:List AV} {r:AV} {n0:Nat} {objs0 objs1:List (Nat×Option Ob)} (hwt:g.wt=none) (hTB:TB T g) (hf:FnXT T P f n0 objs0 args objs1 r) (hy:δ.ev y=.clo (.func f) first cap) (hoy:okT y=true) (hos:xs.all okT=true)
  (hsub:SubO δ objs0) (hargs:LeXs (XS objs0 n0).lrB (XS objs0 n0).lbB (first++xs.map δ.ev++cap) args) (hk:kindB objs0 objs1=true) (hn0:nxB n0 objs0=true) (hself:SelfO (XS objs0 n0).lrB (XS objs0 n0).lbB objs0)
  (hself1:SelfO (XS objs1 n0).lrB (XS objs1 n0).lbB objs1) (hr:r.ids (XS objs1 n0).lrB (XS objs1 n0).lbB=true) (hd:okD δ.n dst=true)
  (hK:AOps .plain P g ops rest Q ((δ.afterX objs0 objs1).putd dst r)):
  AOps .plain P g ops (⟨dst,.call {callee:=.value y,args:=xs.toArray,argTypes:=tys},ty,pos,af,none⟩::rest) Q δ:=
 callX_core hwt hTB hf hy hoy hos hsub hargs (fun _=>hk) hn0 hself (fun _=>hself1) (fun _ κ a w' C v hR hE hra=>by
  obtain⟨u,he,hu⟩:=hE
  cases he
  exact hK _ _ _ (hR.putd (okD_spec hd) (hra r hu hr))) (fun _ C w' ch hE=>by obtain⟨u,he,_⟩:=hE;cases he) (fun _ C w' hE=>by obtain⟨u,he,_⟩:=hE;cases he)
theorem AOps.callX {y:Operand} {f:FuncId} {xs:List Operand} {tys:Array TypeId} {first cap args:List AV} {r:AV} {n0:Nat} {objs0 objs1:List (Nat×Option Ob)} (hwt:g.wt=none) (hf:FnX P f n0 objs0 args objs1 r) (hy:δ.ev y=.clo (.func f) first cap) (hoy:okT y=true) (hos:xs.all okT=true)
  (hsub:SubO δ objs0) (hargs:LeXs (XS objs0 n0).lrB (XS objs0 n0).lbB (first++xs.map δ.ev++cap) args) (hk:kindB objs0 objs1=true) (hn0:nxB n0 objs0=true) (hself:SelfO (XS objs0 n0).lrB (XS objs0 n0).lbB objs0)
  (hself1:SelfO (XS objs1 n0).lrB (XS objs1 n0).lbB objs1) (hr:r.ids (XS objs1 n0).lrB (XS objs1 n0).lbB=true) (hd:okD δ.n dst=true)
  (hK:AOps .plain P g ops rest Q ((δ.afterX objs0 objs1).putd dst r)):
  AOps .plain P g ops (⟨dst,.call {callee:=.value y,args:=xs.toArray,argTypes:=tys},ty,pos,af,none⟩::rest) Q δ:=AOps.callXT hwt (fun _ _=>trivial) hf hy hoy hos hsub hargs hk hn0 hself hself1 hr hd hK
end Go.Ab
namespace Go.Ab
open Go Go.RowKit
variable {P:Program} {g:Ghost} {δ:DS}
theorem endsX_ret {rs:List ResultVar} {objs0 objs1:List (Nat×Option Ob)} {r v:AV} (h:Res P δ rs v) (hw:WVs δ (XF δ objs0 objs1) [v,δ.get 1000] [r,.agg (pinL objs0)]) (ho:WObs δ (XF δ objs0 objs1) objs1) (hx:nxB δ.nx objs1=true):EndsX P rs objs0 objs1 r .ret δ:=⟨v,h,hw.1,hw.2.1,ho,hx⟩
theorem endsX_nor {rs:List ResultVar} {objs0 objs1:List (Nat×Option Ob)} {r v:AV} (h:Res P δ rs v) (hw:WVs δ (XF δ objs0 objs1) [v,δ.get 1000] [r,.agg (pinL objs0)]) (ho:WObs δ (XF δ objs0 objs1) objs1) (hx:nxB δ.nx objs1=true):EndsX P rs objs0 objs1 r .normal δ:=⟨v,h,hw.1,hw.2.1,ho,hx⟩
namespace Nf
variable {n x i:Nat} {e:List (Nat×AV)} {o l0 l1 l:List (Nat×Option Ob)} {rs:List Nat}
def kEs (rs:List Nat):List (Nat×AV)→List (Nat×AV)
 |[]=>[]
 |(i,v)::r=>(i,v.killS rs)::kEs rs r
def kOs (rs:List Nat):List (Nat×Option Ob)→List (Nat×Option Ob)
 |[]=>[]
 |(i,o)::r=>(i,o.map (Ob.mp' (AV.killS rs)))::kOs rs r
def kLs (rs:List Nat):List AV→List AV
 |[]=>[]
 |v::r=>v.killS rs::kLs rs r
theorem kEs_eq:∀e:List (Nat×AV),e.map (fun p=>(p.1,p.2.killS rs))=kEs rs e
 |[]=>rfl
 |(i,v)::r=>by rw[List.map_cons,kEs_eq r];rfl
theorem kOs_eq:∀o:List (Nat×Option Ob),o.map (fun p=>(p.1,p.2.map (Ob.mp' (AV.killS rs))))=kOs rs o
 |[]=>rfl
 |(i,v)::r=>by rw[List.map_cons,kOs_eq r];rfl
theorem kLs_eq:∀l:List AV,AV.mpL (killSF rs) l=kLs rs l
 |[]=>rfl
 |v::r=>by rw[AV.mpL,kLs_eq r];rfl
theorem kLs_map (l:List AV):l.map (AV.killS rs)=kLs rs l:=by
 induction l with
 |nil=>rfl
 |cons v r ih=>rw[List.map_cons,ih];rfl
theorem af:DS.afterX ⟨n,e,o,x⟩ l0 l1=⟨n,kEs (rowsL l0) e,l1++kOs (rowsL l0) o,x⟩:=by
 show(⟨n,e.map (fun p=>(p.1,p.2.killS (rowsL l0))),l1++o.map (fun p=>(p.1,p.2.map (Ob.mp' (AV.killS (rowsL l0))))),x⟩:DS)=_
 rw[kEs_eq,kOs_eq]
theorem xe0:kEs rs []=[]:=rfl
theorem xe1 (i:Nat) (v:AV) (r:List (Nat×AV)):kEs rs ((i,v)::r)=(i,v.killS rs)::kEs rs r:=rfl
theorem xo0:kOs rs []=[]:=rfl
theorem xon (i:Nat) (r:List (Nat×Option Ob)):kOs rs ((i,none)::r)=(i,none)::kOs rs r:=rfl
theorem xor (i:Nat) (r:List (Nat×Option Ob)):kOs rs ((i,some .row)::r)=(i,some .row)::kOs rs r:=rfl
theorem xob (i:Nat) (cs:List AV) (r:List (Nat×Option Ob)):kOs rs ((i,some (.box cs))::r)=(i,some (.box (kLs rs cs)))::kOs rs r:=by
 show(i,some (Ob.box (cs.map (AV.killS rs))))::kOs rs r=_
 rw[kLs_map]
theorem xot (i:Nat) (T:TypeId) (vs:Array Value) (r:List (Nat×Option Ob)):kOs rs ((i,some (.lit T vs))::r)=(i,some (.lit T vs))::kOs rs r:=rfl
theorem xom (i:Nat) (l:List (Value×AV)) (r:List (Nat×Option Ob)):kOs rs ((i,some (.mp l))::r)=(i,some (.mp l))::kOs rs r:=rfl
theorem xoi (i:Nat) (l:List (Value×PV)) (s:List Nat) (r:List (Nat×Option Ob)):kOs rs ((i,some (.it l s))::r)=(i,some (.it l s))::kOs rs r:=rfl
theorem xol (i:Nat) (l:List (Value×AV)) (k:Value) (v:AV) (r:List (Nat×Option Ob)):kOs rs ((i,some (.mpl l k v))::r)=(i,some (.mpl l k (v.killS rs)))::kOs rs r:=rfl
theorem xoP (i:Nat) (e:TypeId) (p:Nat→Value×List Value) (r:List (Nat×Option Ob)):kOs rs ((i,some (.pool e p))::r)=(i,some (.pool e p))::kOs rs r:=rfl
theorem xop (i m:Nat) (tm:Array Value) (ps:Array Tmp) (a b:Code) (st:LpSt) (r:List (Nat×Option Ob)):kOs rs ((i,some (.loop m tm ps a b st))::r)=(i,some (.loop m tm ps a b st))::kOs rs r:=rfl
theorem xl0:kLs rs []=[]:=rfl
theorem xl1 (v:AV) (r:List AV):kLs rs (v::r)=v.killS rs::kLs rs r:=rfl
theorem xk_any:AV.killS rs .any=.any:=rfl
theorem xk_pv (p:PV):AV.killS rs (.pv p)=.pv p:=rfl
theorem xk_ptr (j k:Nat):AV.killS rs (.ptr j k)=.ptr j k:=rfl
theorem xk_rptr (c:List PV):AV.killS rs (.rptr c)=.rptr c:=rfl
theorem xk_mapr (j:Nat):AV.killS rs (.mapr j)=.mapr j:=rfl
theorem xk_yld (j:Nat):AV.killS rs (.yld j)=.yld j:=rfl
theorem xk_own (j:Nat) (t:TypeId) (k:Nat) (els:List (List PV)):AV.killS rs (.own j t k els)=bif memN j rs then .any else .own j t k els:=rfl
theorem xk_optr (j:Nat) (t:TypeId) (k:Nat) (els:List (List PV)) (m:Nat):AV.killS rs (.optr j t k els m)=bif memN j rs then .any else .optr j t k els m:=rfl
theorem xk_agg (cs:List AV):AV.killS rs (.agg cs)=.agg (kLs rs cs):=by show AV.agg (AV.mpL (killSF rs) cs)=_;rw[kLs_eq]
theorem xk_tup (cs:List AV):AV.killS rs (.tup cs)=.tup (kLs rs cs):=by show AV.tup (AV.mpL (killSF rs) cs)=_;rw[kLs_eq]
theorem xk_clo (fn:Go.Fn) (cs ds:List AV):AV.killS rs (.clo fn cs ds)=.clo fn (kLs rs cs) (kLs rs ds):=by show AV.clo fn (AV.mpL (killSF rs) cs) (AV.mpL (killSF rs) ds)=_;rw[kLs_eq,kLs_eq]
theorem rw0:rowsL []=[]:=rfl
theorem rwr (i:Nat) (r:List (Nat×Option Ob)):rowsL ((i,some .row)::r)=i::rowsL r:=rfl
theorem rwb (i:Nat) (c:List AV) (r:List (Nat×Option Ob)):rowsL ((i,some (.box c))::r)=rowsL r:=rfl
theorem rwt (i:Nat) (T:TypeId) (vs:Array Value) (r:List (Nat×Option Ob)):rowsL ((i,some (.lit T vs))::r)=rowsL r:=rfl
theorem rwP (i:Nat) (e:TypeId) (p:Nat→Value×List Value) (r:List (Nat×Option Ob)):rowsL ((i,some (.pool e p))::r)=rowsL r:=rfl
theorem rwm (i:Nat) (c:List (Value×AV)) (r:List (Nat×Option Ob)):rowsL ((i,some (.mp c))::r)=rowsL r:=rfl
theorem pi0:pinL []=[]:=rfl
theorem pir (i:Nat) (r:List (Nat×Option Ob)):pinL ((i,some .row)::r)=pinL r:=rfl
theorem pib (i:Nat) (c:List AV) (r:List (Nat×Option Ob)):pinL ((i,some (.box c))::r)=.ptr i 0::pinL r:=rfl
theorem pit (i:Nat) (T:TypeId) (vs:Array Value) (r:List (Nat×Option Ob)):pinL ((i,some (.lit T vs))::r)=.ptr i 0::pinL r:=rfl
theorem piP (i:Nat) (e:TypeId) (p:Nat→Value×List Value) (r:List (Nat×Option Ob)):pinL ((i,some (.pool e p))::r)=pinL r:=rfl
theorem pim (i:Nat) (c:List (Value×AV)) (r:List (Nat×Option Ob)):pinL ((i,some (.mp c))::r)=.mapr i::pinL r:=rfl
theorem cn {α:Type} (a:α) (r s:List α):(a::r)++s=a::(r++s):=rfl
theorem nn {α:Type} (s:List α):[]++s=s:=rfl
end Nf
end Go.Ab
/- Short names of the rules that a walk takes most often;what is plain is filled in. -/
namespace Go.Ab
open Go Go.RowKit
variable {P:Program} {g:Ghost} {δ:DS} {q:Md} {ops:Array Oper} {rest:List Oper} {Q:Exit→DS→Prop} {dst:Option Nat} {ty:TypeId} {pos:String} {af:Array Edge}
theorem nz {A:DS→Prop} {δ δ':DS} (h:A δ') (e:δ=δ':=by conv=>lhs;simp only[Nf.all,Nat.reduceBEq,Nat.reduceAdd,Nat.reduceSub]):A δ:=e▸h
theorem zm {x:Operand} {p:PV} (hK:AOps q P g ops rest Q (δ.putd dst (.pv p))) (hx:δ.ev x=.pv p:=by exact rfl) (ho:okT x=true:=by exact rfl) (hd:okD δ.n dst=true:=by exact rfl):AOps q P g ops (⟨dst,.move x,ty,pos,af,none⟩::rest) Q δ:=AOps.move_pv hx ho hd hK
theorem za {x:Operand} {p:PV} (hK:AOps q P g ops rest Q (δ.putd dst (.pv p))) (hx:δ.ev x=.pv p:=by exact rfl) (ho:okT x=true:=by exact rfl) (hd:okD δ.n dst=true:=by exact rfl):AOps q P g ops (⟨dst,.assign x,ty,pos,af,none⟩::rest) Q δ:=AOps.assign_pv hx ho hd hK
theorem zl {op:Op} {gj d:Nat} {want b:Bool} {o':Oper} (hy:AOps q P g ops (⟨dst,op,ty,pos,af,none⟩::rest) Q δ) (ho:ops[gj]? =some o':=by exact rfl) (hd:o'.dst=some d:=by exact rfl) (hd0:Nat.blt d HS=true:=by exact rfl) (hdn:Nat.blt d δ.n=true:=by exact rfl) (hb:δ.get d=litB b:=by exact rfl) (hbw:b=want:=by exact rfl) (hdd:okD δ.n dst=true:=by exact rfl):
  AOps q P g ops (⟨dst,op,ty,pos,af,some (gj,want)⟩::rest) Q δ:=AOps.guard_lt ho hd hd0 hdn hb hbw hdd hy
theorem zy {op:Op} {gj d:Nat} {o':Oper} {p:Prop} {_:Decidable p} (hy:AOps q P g ops (⟨dst,op,ty,pos,af,none⟩::rest) Q δ) (ho:ops[gj]? =some o':=by exact rfl) (hd:o'.dst=some d:=by exact rfl) (hd0:Nat.blt d HS=true:=by exact rfl) (hdn:Nat.blt d δ.n=true:=by exact rfl) (hb:δ.get d=litB (decide p):=by exact rfl) (hdd:okD δ.n dst=true:=by exact rfl) (hp:¬p:=by first|(with_reducible assumption)|omega|decide):
  AOps q P g ops (⟨dst,op,ty,pos,af,some (gj,false)⟩::rest) Q δ:=AOps.guardFy ho hd hb hd0 hdn hdd hp hy
theorem zt {op:Op} {gj d:Nat} {o':Oper} {p:Prop} {_:Decidable p} (hy:AOps q P g ops (⟨dst,op,ty,pos,af,none⟩::rest) Q δ) (ho:ops[gj]? =some o':=by exact rfl) (hd:o'.dst=some d:=by exact rfl) (hd0:Nat.blt d HS=true:=by exact rfl) (hdn:Nat.blt d δ.n=true:=by exact rfl) (hb:δ.get d=litB (decide p):=by exact rfl) (hdd:okD δ.n dst=true:=by exact rfl) (hp:p:=by first|(with_reducible assumption)|omega|decide):
  AOps q P g ops (⟨dst,op,ty,pos,af,some (gj,true)⟩::rest) Q δ:=AOps.guardTy ho hd hb hd0 hdn hdd hp hy
theorem zb {x:Operand} {t:TypeId} {i off:Nat} {cells:List AV} {v:AV} (hK:AOps q P g ops rest Q (δ.putd dst v)) (hx:δ.ev x=.ptr i off:=by exact rfl) (hb:δ.ob i=some (.box cells):=by exact rfl) (hv:cells[off]? =some v:=by exact rfl) (ht:scalarT P t=true:=by exact rfl) (ho:okT x=true:=by exact rfl) (hd:okD δ.n dst=true:=by exact rfl):
  AOps q P g ops (⟨dst,.load t x,ty,pos,af,none⟩::rest) Q δ:=AOps.load_b1 hx hb hv ht ho hd hK
theorem zn {α:Type} {x:Operand} {t e:TypeId} {k:Nat} {f:α→List PV} {l:List α} (hK:AOps q P g ops rest Q (δ.putd dst (litI (l.length:Nat)))) (hx:δ.ev x=.pv (.slice k (l.map f)):=by exact rfl) (ht:P.underlying t=some (.slice e):=by exact rfl) (ho:okT x=true:=by exact rfl) (hd:okD δ.n dst=true:=by exact rfl):
  AOps q P g ops (⟨dst,.call {callee:=.builtin .len,args:= #[x],argTypes:= #[t]},ty,pos,af,none⟩::rest) Q δ:=AOps.len_map hx ht ho hd hK
theorem zs {x y:Operand} {t t':TypeId} {m n:Int} (hK:AOps q P g ops rest Q (δ.putd dst (litB (decide (m<n))))) (hx:δ.ev x=litI m:=by exact rfl) (hy:δ.ev y=litI n:=by exact rfl) (ho:okT x=true:=by exact rfl) (ho':okT y=true:=by exact rfl) (hd:okD δ.n dst=true:=by exact rfl):
  AOps q P g ops (⟨dst,.binOp .lss t x y t',ty,pos,af,none⟩::rest) Q δ:=AOps.lss hx hy ho ho' hd hK
set_option linter.defProp false in
abbrev zd:= @AOps.nilD
set_option linter.defProp false in
abbrev zq:= @AW.seqR
set_option linter.defProp false in
abbrev zo:= @AW.seq
theorem zc {c:Operand} {x y:Code} {p:Prop} {_:Decidable p} (h1:AW P g x Q δ) (ho:okT c=true:=by exact rfl) (hc:δ.ev c=litB (decide p):=by exact rfl) (hp:p:=by first|(with_reducible assumption)|omega|decide):AW P g (.cond c x y) Q δ:=AW.condY ho hc hp h1
theorem zk {c:Operand} {x y:Code} {p:Prop} {_:Decidable p} (h1:AW P g y Q δ) (ho:okT c=true:=by exact rfl) (hc:δ.ev c=litB (decide p):=by exact rfl) (hp:¬p:=by first|(with_reducible assumption)|omega|decide):AW P g (.cond c x y) Q δ:=AW.condN ho hc hp h1
theorem zr {x:Operand} {t:TypeId} {p:PV} (hK:AOps q P g ops rest Q (δ.putd dst (.pv p))) (hx:δ.ev x=.rptr [p]:=by exact rfl) (ht:scalarT P t=true:=by exact rfl) (ho:okT x=true:=by exact rfl) (hd:okD δ.n dst=true:=by exact rfl):AOps q P g ops (⟨dst,.load t x,ty,pos,af,none⟩::rest) Q δ:=AOps.load_r1 hx ht ho hd hK
theorem zA {f:FuncId} {xs:List Operand} {tys:Array TypeId} {args:List AV} {r:AV} (hf:Fn P f args r) (hK:AOps q P g ops rest Q (δ.putd dst r)) (hargs:Args true δ xs args:=by repeat (first|exact .nil|(refine .cons rfl ?_ ?_;(first|exact .pv _|exact .own _ _ _ _ rfl|exact .nil _|exact .any _|exact .rptr _|(refine .aggL ?_;repeat (first|exact .nil|(refine .cons ?_ ?_;(first|exact .pv _|exact .own _ _ _ _ rfl|exact .nil _)))))))) (hdet:r.det=true:=by exact rfl) (hd:okD δ.n dst=true:=by exact rfl) (hq:q≠ .held:=by exact(fun h_=>by cases h_)):
  AOps q P g ops (⟨dst,.call {callee:=.value (.func f),args:=xs.toArray,argTypes:=tys},ty,pos,af,none⟩::rest) Q δ:=AOps.call hf hargs hdet hd hq hK
theorem zP {f:FuncId} {xs:List Operand} {tys:Array TypeId} {args:List AV} {r:AV} (hf:Fn P f args r) (hK:AOps .plain P g ops rest Q (δ.putd dst r)) (hargs:Args false δ xs args:=by repeat (first|exact .nil|(refine .cons rfl ?_ ?_;(first|exact .pv _|exact .own _ _ _ _ rfl|exact .nil _|exact .any _|exact .rptr _|(refine .aggL ?_;repeat (first|exact .nil|(refine .cons ?_ ?_;(first|exact .pv _|exact .own _ _ _ _ rfl|exact .nil _)))))))) (hd:okD δ.n dst=true:=by exact rfl):
  AOps .plain P g ops (⟨dst,.call {callee:=.value (.func f),args:=xs.toArray,argTypes:=tys},ty,pos,af,none⟩::rest) Q δ:=AOps.callp hf hargs hd hK
theorem zX {y:Operand} {f:FuncId} {xs:List Operand} {tys:Array TypeId} {first cap args:List AV} {r:AV} {n0:Nat} {objs0 objs1:List (Nat×Option Ob)} (hf:FnX P f n0 objs0 args objs1 r) (hK:AOps .plain P g ops rest Q ((δ.afterX objs0 objs1).putd dst r)) (hwt:g.wt=none:=by with_reducible assumption) (hy:δ.ev y=.clo (.func f) first cap:=by exact rfl) (hoy:okT y=true:=by exact rfl) (hos:xs.all okT=true:=by exact rfl)
  (hsub:SubO δ objs0:=by repeat (first|exact trivial|refine⟨rfl,?_⟩)) (hargs:LeXs (XS objs0 n0).lrB (XS objs0 n0).lbB (first++xs.map δ.ev++cap) args:=by repeat (first|exact .nil|(refine .cons ?_ ?_;(first|exact .eq rfl rfl|exact .nil _|exact .any _)))) (hk:kindB objs0 objs1=true:=by exact rfl) (hn0:nxB n0 objs0=true:=by exact rfl) (hself:SelfO (XS objs0 n0).lrB (XS objs0 n0).lbB objs0:=by repeat (first|exact trivial|refine⟨rfl,?_⟩|refine⟨obIds_set,?_⟩))
  (hself1:SelfO (XS objs1 n0).lrB (XS objs1 n0).lbB objs1:=by repeat (first|exact trivial|refine⟨rfl,?_⟩|refine⟨obIds_set,?_⟩)) (hr:r.ids (XS objs1 n0).lrB (XS objs1 n0).lbB=true:=by exact rfl) (hd:okD δ.n dst=true:=by exact rfl):
  AOps .plain P g ops (⟨dst,.call {callee:=.value y,args:=xs.toArray,argTypes:=tys},ty,pos,af,none⟩::rest) Q δ:=AOps.callX hwt hf hy hoy hos hsub hargs hk hn0 hself hself1 hr hd hK
theorem nx {A:DS→Prop} {δ δ':DS} (h:A δ') (e:δ=δ':=by conv=>lhs;simp only[Nf.af,Nf.xe0,Nf.xe1,Nf.xo0,Nf.xon,Nf.xor,Nf.xob,Nf.xom,Nf.xoi,Nf.xol,Nf.xop,Nf.xl0,Nf.xl1,Nf.xk_any,Nf.xk_pv,Nf.xk_ptr,Nf.xk_rptr,Nf.xk_mapr,Nf.xk_yld,Nf.xk_own,Nf.xk_optr,Nf.xk_agg,Nf.xk_tup,Nf.xk_clo,Nf.rw0,Nf.rwr,Nf.rwb,Nf.rwm,Nf.cn,Nf.nn,memN0,memN1,Nat.reduceBEq,cond_true,cond_false]):A δ:=e▸h
theorem zB {x y:Operand} {t:TypeId} {i:Nat} {cells cs:List AV} (hK:AOps .plain P g ops rest Q ((δ.setOb i (some (.box cs))).putd dst .any)) (hx:δ.ev x=.ptr i 0:=by exact rfl) (hy:δ.ev y=.agg cs:=by exact rfl) (hb:δ.ob i=some (.box cells):=by exact rfl) (hlen:cells.length=cs.length:=by exact rfl) (ht:(P.info? t).map (·.size)=some cs.length:=by exact rfl) (h1:AV.ones cs=true:=by exact rfl) (ho:okT x=true:=by exact rfl) (ho':okT y=true:=by exact rfl) (hd:okD δ.n dst=true:=by exact rfl) (hwt:g.wt=none:=by with_reducible assumption):
  AOps .plain P g ops (⟨dst,.store t x y,ty,pos,af,none⟩::rest) Q δ:=AOps.store_bn hx hy hb hlen ht h1 ho ho' hd hwt hK
theorem zL {x:Operand} {t:TypeId} {i:Nat} {cells:List AV} (hK:AOps q P g ops rest Q (δ.putd dst (.agg cells))) (hx:δ.ev x=.ptr i 0:=by exact rfl) (hb:δ.ob i=some (.box cells):=by exact rfl) (ht:aggT P t cells.length=true:=by exact rfl) (ho:okT x=true:=by exact rfl) (hd:okD δ.n dst=true:=by exact rfl):
  AOps q P g ops (⟨dst,.load t x,ty,pos,af,none⟩::rest) Q δ:=AOps.load_ball hx hb ht ho hd hK
theorem zj {x y:Operand} {t t':TypeId} {m n:Int} (hK:AOps q P g ops rest Q (δ.putd dst (litI (m+n)))) (hx:δ.ev x=litI m:=by exact rfl) (hy:δ.ev y=litI n:=by exact rfl) (ho:okT x=true:=by exact rfl) (ho':okT y=true:=by exact rfl) (hd:okD δ.n dst=true:=by exact rfl) (hb: -9223372036854775808≤m+n∧m+n≤9223372036854775807:=by omega):
  AOps q P g ops (⟨dst,.binOp .add t x y t',ty,pos,af,none⟩::rest) Q δ:=AOps.add hx hy ho ho' hd hb hK
theorem zF {x y z:Operand} {p:Prop} {_:Decidable p} {v:PV} (hK:AOps q P g ops rest Q (δ.putd dst (.pv v))) (hx:δ.ev x=litB (decide p):=by exact rfl) (hz:δ.ev z=.pv v:=by exact rfl) (hp:¬p:=by first|(with_reducible assumption)|omega|decide) (ho:okT x=true:=by exact rfl) (hoy:okT y=true:=by exact rfl) (hoz:okT z=true:=by exact rfl) (hd:okD δ.n dst=true:=by exact rfl):
  AOps q P g ops (⟨dst,.pick x y z,ty,pos,af,none⟩::rest) Q δ:=AOps.pickF_pv hx hz hp ho hoy hoz hd hK
theorem zT {x y z:Operand} {p:Prop} {_:Decidable p} {v:PV} (hK:AOps q P g ops rest Q (δ.putd dst (.pv v))) (hx:δ.ev x=litB (decide p):=by exact rfl) (hy:δ.ev y=.pv v:=by exact rfl) (hp:p:=by first|(with_reducible assumption)|omega|decide) (ho:okT x=true:=by exact rfl) (hoy:okT y=true:=by exact rfl) (hoz:okT z=true:=by exact rfl) (hd:okD δ.n dst=true:=by exact rfl):
  AOps q P g ops (⟨dst,.pick x y z,ty,pos,af,none⟩::rest) Q δ:=AOps.pickT_pv hx hy hp ho hoy hoz hd hK
end Go.Ab
/- Maps from whole numbers to slices:elder entries told whole,the last one over a row of the walk's own. -/
namespace Go.Ab
open Go Go.RowKit
variable {q:Md} {P:Program} {g:Ghost} {δ:DS} {κ:Kp} {a:Act} {w:World}
variable {gd:Option (Tmp×Bool)} {ops:Array Oper} {rest:List Oper} {Q:Exit→DS→Prop} {dst:Option Nat} {ty:TypeId} {pos:String} {af:Array Edge}
def rowsM (D:List (Int×List Int)):List (Int×AV):=D.map fun p=>(p.1,.pv (ints p.2))
theorem rows_ids (D:List (Int×List Int)) (A B:Nat→Bool):∀p∈mpI (rowsM D),p.2.ids A B=true:=by
 intro p hp
 simp only[mpI,rowsM,List.map_map,List.mem_map] at hp
 obtain⟨x,_,rfl⟩:=hp
 rfl
theorem WO.rows0 {δ δ':DS} {i:Nat} (h:δ.ob i=some (.mp (mpI []))):WO δ δ' i (.mp (mpI (rowsM []))):=.mp h (fun p hp=>by simp [mpI,rowsM] at hp)
theorem WO.rows {δ δ':DS} {i:Nat} {D:List (Int×List Int)} (h:δ.ob i=some (.mp (mpI (rowsM D)))):WO δ δ' i (.mp (mpI (rowsM D))):=.mp h (rows_ids D _ _)
theorem Weak.sw (i j:Nat) {δ δ':DS} (hwt:g.wt=none) (hi:Nat.blt i δ.nx=true) (hj:Nat.blt j δ.nx=true) (h:Weak g (δ.sw i j) δ'):Weak g δ δ':=
 fun _ a w r=>h _ a w (r.sw i j (by simpa using hi) (by simpa using hj) (fun k hk=>by rw[hwt] at hk;cases hk))
theorem AW.frzI (i:Nat) {c:Code} (hi:δ.ob i=some .row) (hK:AW P g c Q (frzD δ i)):AW P g c Q δ:=by
 intro κ a w r
 obtain⟨κ',r'⟩:=r.freeze hi
 exact hK κ' a w r'
section
variable {k:Wt} {late:List Nat} {l:List Oper} {dn:List Nat} {QD:Exit→DS→Prop}
end
end Go.Ab
/- v,is:=m[k] over a map whose entries are told one by one. -/
namespace Go.Ab
open Go Go.RowKit
variable {q:Md} {P:Program} {g:Ghost} {δ:DS} {ops:Array Oper} {rest:List Oper} {Q:Exit→DS→Prop} {dst:Option Nat} {ty:TypeId} {pos:String} {af:Array Edge}
abbrev fnV (f:Go.Fn):AV:=.pv (.lit (.func f #[] #[]))
theorem ra_fn {C:Cx} {w:World} {u:Value} {f:Go.Fn} (h:RA C w u (.clo f [] [])):u=.func f #[] #[]:=by
 cases h with
 |clo hs h ht h'=>
  rename_i vs us
  have e1:vs= #[]:=Array.eq_empty_of_size_eq_zero (by simpa using hs)
  have e2:us= #[]:=Array.eq_empty_of_size_eq_zero (by simpa using ht)
  rw[e1,e2]
theorem lookI_of_at:∀{l:List (Int×AV)} {j:Nat} {m:Int} {v:AV},l[j]? =some (m,v)→lookI l m≠none
 |[],j,m,v,h=>by simp at h
 |(k,u)::l,0,m,v,h=>by
  simp at h
  obtain⟨rfl,rfl⟩:=h
  simp [lookI]
 |(k,u)::l,j+1,m,v,h=>by
  unfold lookI
  split
  ·simp
  ·exact lookI_of_at (by simpa using h)
theorem ra_litv {C:Cx} {w:World} {u v:Value} (h:RA C w u (.pv (.lit v))):u=v:=by
 cases h with
 |pv h=>cases h;rfl
theorem Eff.insertF {gd:Option (Tmp×Bool)} {x y z:Operand} {t kt et:TypeId} {i:Nat} {l:List (Int×AV)} {m:Int} {f:Go.Fn} (hx:δ.ev x=.mapr i) (hob:δ.ob i=some (.mp (mpI l))) (hy:δ.ev y=litI m) (hz:δ.ev z=.clo f [] []) (ht:P.underlying t=some (.map kt et)) (hk:P.underlying kt=some (.int .i64))
  (ho:okT x=true) (ho':okT y=true) (hoz:okT z=true) (hd:okD δ.n dst=true) (hwk:g.wtOk i) (hn:lookI l m=none):
  Eff P g ⟨dst,.insert t x y z,ty,pos,af,gd⟩ δ ((δ.setOb i (some (.mp (mpI (l++ [(m,fnV f)]))))).putd dst .any):=by
 intro κ a w r
 obtain⟨b,es,clock,h1,h2,h3,h4,h5,hnoo⟩:=r.mpo (r.ra hx ho) hob
 obtain⟨h6,h7⟩:=h4.mpI
 have hzv:RA (δ.cx g κ) w (a.eval z) (fnV f):=by rw[ra_fn (r.ra hz hoz)];exact .pv (.lit _)
 have hik:MapKept.IsKey (.int .i64) (.int .i64 m):=by simp [MapKept.IsKey]
 have hck:∀e,(Instr.checkKey e (9999+1) kt (.int .i64 m)).run P w=.ok () w:=fun e=>MapKept.run_checkKey hk hik e 9999
 rcases findNow_first m es.toList l 0 h6 h7 with ⟨h8,h9⟩|⟨j,e,u,h9,h10,h11,h12,h13⟩
 ·have hrun:(execOp a.eval ⟨dst,.insert t x y z,ty,pos,af,gd⟩).run P w=.ok .skip {w with heap:=w.heap.setIfInBounds b (.map (es.push {key:=.int .i64 m,val:=a.eval z,born:=clock}) (clock+1))}:=by
   simp [execOp,r.lit hy ho',h1,Instr.mapUpdate,run_underlying ht,MapKept.run_getObj_map h3,hck,run_findMap hk h9,MapKept.run_setObj_map _ h3]
  obtain⟨r',G⟩:=r.modify (o':=.mp (mpI (l++ [(m,fnV f)]))) hob rfl rfl h2 hwk (Turns.setHeap w b (.map (es.push {key:=.int .i64 m,val:=a.eval z,born:=clock}) (clock+1))) (by simp) (fun C hC G=>by
   have h14:MapIs C {w with heap:=w.heap.setIfInBounds b (.map (es.push {key:=.int .i64 m,val:=a.eval z,born:=clock}) (clock+1))} es (mpI l):=h4.goes G
   obtain⟨h15,h16⟩:=h14.push h5 m (G.ra hzv)
   exact⟨b,_,_,by rw[hC];exact h2,setHeap_same h3,h15,h16,fun p hp=>by
    rw[mpI_append] at hp
    rcases List.mem_append.1 hp with hp|hp
    ·exact hnoo p hp
    ·simp [mpI] at hp;subst hp;rfl⟩)
  exact .inl ⟨_,_,_,_,hrun,.inr ⟨rfl,rfl⟩,r'.putd (okD_spec hd) (.any _)⟩
 ·exfalso
  exact lookI_of_at h11 hn
theorem AOps.insertF {x y z:Operand} {t kt et:TypeId} {i:Nat} {l:List (Int×AV)} {m:Int} {f:Go.Fn} (hx:δ.ev x=.mapr i) (hob:δ.ob i=some (.mp (mpI l))) (hy:δ.ev y=litI m) (hz:δ.ev z=.clo f [] []) (ht:P.underlying t=some (.map kt et)) (hk:P.underlying kt=some (.int .i64))
  (ho:okT x=true) (ho':okT y=true) (hoz:okT z=true) (hd:okD δ.n dst=true) (hwt:g.wt=none) (hn:lookI l m=none)
  (hK:AOps .plain P g ops rest Q ((δ.setOb i (some (.mp (mpI (l++ [(m,fnV f)]))))).putd dst .any)):
  AOps .plain P g ops (⟨dst,.insert t x y z,ty,pos,af,none⟩::rest) Q δ:=
 AOps.eff rfl rfl (Eff.insertF hx hob hy hz ht hk ho ho' hoz hd (wtOk_none hwt i) hn) hK
def fnL (l:List (Int×Go.Fn)):List (Int×AV):=l.map fun p=>(p.1,fnV p.2)
def fnP (l:List (Int×Go.Fn)):List (Value×PV):=l.map fun p=>(.int .i64 p.1,.lit (.func p.2 #[] #[]))
theorem WV.fns {δ':DS} {i:Nat} {l:List (Int×Go.Fn)} (hb:δ.ob i=some (.mp (mpI (fnL l)))) (hd:δ'.ob i=none):WV δ δ' (.mapr i) (.pv (.mp (fnP l))):=
 .fmap hb hd (by simp [mpI,fnL,fnP]) (fun j p p' h1 h2=>by
  simp only[mpI,fnL,fnP,List.getElem?_map,Option.map_eq_some_iff] at h1 h2
  obtain⟨a,⟨b,hb,rfl⟩,rfl⟩:=h1
  obtain⟨c,hc,rfl⟩:=h2
  obtain rfl:b=c:=Option.some.inj (hb.symm.trans hc)
  exact⟨rfl,.pv _⟩)
theorem told_fns {κ:Kp} {w:World} {v:Value} {l:List (Int×Go.Fn)} (h1:RA (δ.cx g κ) w v (.pv (.mp (fnP l)))):∃b es clock,v=.map (some b)∧(∀w',Held δ κ w w'→w'.heap[b]? =some (.map es clock))∧es.toList.length=(fnL l).length∧
  ∀(j:Nat) (e:MapEntry) (p:Int×AV),es.toList[j]? =some e→(fnL l)[j]? =some p→e.key=.int .i64 p.1∧RA (δ.cx g κ) w e.val p.2:=by
 cases h1 with
 |pv h=>
  cases h with
  |mp b clock es hN hb hh hs hst hk hr=>
   refine⟨b,es,clock,rfl,fun w' hw'=>(hw' b hb ⟨fun i hi=>hN.2 i (DS.lr_live hi),hN.1.2⟩).trans hh,by simpa [fnL,fnP] using hs,fun j e p h1 h2=>?_⟩
   have h1':es[j]? =some e:=by simpa using h1
   simp only[fnL,List.getElem?_map,Option.map_eq_some_iff] at h2
   obtain⟨a,ha,rfl⟩:=h2
   have h3:(fnP l)[j]? =some (.int .i64 a.1,.lit (.func a.2 #[] #[])):=by simp [fnP,ha]
   exact⟨hk j e _ h1' h3,.pv (hr j e _ h1' h3)⟩
theorem AOps.lookup_pfn {x y:Operand} {t kt et:TypeId} {l:List (Int×Go.Fn)} {m:Int} {z:Value} {f:Go.Fn} (hx:δ.ev x=.pv (.mp (fnP l))) (hy:δ.ev y=litI m) (ht:P.underlying t=some (.map kt et)) (hk:P.underlying kt=some (.int .i64)) (hz:(P.info? et).bind (·.zero)=some z)
  (ho:okT x=true) (ho':okT y=true) (hd:okD δ.n dst=true) (hv:lookI (fnL l) m=some (fnV f)) (hK:AOps q P g ops rest Q (δ.putd dst (.tup [.clo f [] [],litB true]))):AOps q P g ops (⟨dst,.lookup t x y true,ty,pos,af,none⟩::rest) Q δ:=
 AOps.valw _ hd (fun κ a w r=>by
  obtain⟨b,es,clock,h1,hb,h6,h7⟩:=told_fns (r.ra hx ho)
  rcases findNow_mp m es.toList (fnL l) 0 h6 h7 with ⟨h8,h9⟩|⟨j,e,v',h8,h9,h10,h11,h12⟩
  ·rw[hv] at h8;cases h8
  ·rw[hv] at h8;cases h8
   have he:e.val=.func f #[] #[]:=ra_litv h12
   refine⟨.tuple #[e.val,.bool true],fun w' hw'=>?_,.tup rfl (fun k u c h=>?_)⟩
   ·have:=run_lookup ht hk hz (hb w' hw') h9 true
    simp [execOp,r.lit hy ho',h1,this]
   ·intro hc
    match k with
    |0=>simp at h hc;subst h;subst hc;rw[he];exact .clo rfl (fun j u c h=>by simp at h) rfl (fun j u c h=>by simp at h)
    |1=>simp at h hc;subst h;subst hc;exact .pv (.lit _)
    |k+2=>simp at hc) hK
theorem AOps.lookup_pno {x y:Operand} {t kt et:TypeId} {l:List (Int×Go.Fn)} {m:Int} {z:Value} (hx:δ.ev x=.pv (.mp (fnP l))) (hy:δ.ev y=litI m) (ht:P.underlying t=some (.map kt et)) (hk:P.underlying kt=some (.int .i64)) (hz:(P.info? et).bind (·.zero)=some z)
  (ho:okT x=true) (ho':okT y=true) (hd:okD δ.n dst=true) (hv:lookI (fnL l) m=none) (hK:AOps q P g ops rest Q (δ.putd dst (.tup [.pv (.lit z),litB false]))):AOps q P g ops (⟨dst,.lookup t x y true,ty,pos,af,none⟩::rest) Q δ:=
 AOps.valw _ hd (fun κ a w r=>by
  obtain⟨b,es,clock,h1,hb,h6,h7⟩:=told_fns (r.ra hx ho)
  rcases findNow_mp m es.toList (fnL l) 0 h6 h7 with ⟨h8,h9⟩|⟨j,e,v',h8,h9,h10,h11,h12⟩
  ·refine⟨.tuple #[z,.bool false],fun w' hw'=>?_,.tup rfl (fun k u c h=>?_)⟩
   ·have:=run_lookup ht hk hz (hb w' hw') h9 true
    simp [execOp,r.lit hy ho',h1,this]
   ·intro hc
    match k with
    |0=>simp at h hc;subst h;subst hc;exact .pv (.lit _)
    |1=>simp at h hc;subst h;subst hc;exact .pv (.lit _)
    |k+2=>simp at hc
  ·rw[hv] at h8;cases h8) hK
theorem AW.condYb {c:Operand} {x y:Code} {b:Bool} (ho:okT c=true) (hc:δ.ev c=litB b) (hb:b=true) (h1:AW P g x Q δ):AW P g (.cond c x y) Q δ:=AW.condT hb ho hc h1
theorem AW.condNb {c:Operand} {x y:Code} {b:Bool} (ho:okT c=true) (hc:δ.ev c=litB b) (hb:b=false) (h1:AW P g y Q δ):AW P g (.cond c x y) Q δ:=AW.condF hb ho hc h1
theorem AOps.callF {f fn:FuncId} {x:Operand} {tys:Array TypeId} {v r:AV} (hf:Fn P f [v,.clo (.func fn) [] []] r) (hargs:Args true δ [x] [v]) (hdet:r.det=true) (hd:okD δ.n dst=true) (hq:q≠ .held)
  (hK:AOps q P g ops rest Q (δ.putd dst r)):AOps q P g ops (⟨dst,.call {callee:=.value (.func f),args:=[x,.func fn].toArray,argTypes:=tys},ty,pos,af,none⟩::rest) Q δ:=by
 intro κ a w r0
 have hc:∀w',Below w.heap.size w w'→Calls P f ([x,.func fn].toArray.map a.eval) w' fun e w''=>e=.returned r.out∧Below w'.heap.size w' w'':=fun w' hw'=>
  (hf.calls (fun _=>True) w' _ (fun _ _=>trivial) (by simp) (fun j u av h1 h2=>by
   match j with
   |0=>exact hargs.ras (r0.ext hw') (fun _ _ _=>trivial) (fun _ _ _ _ _=>trivial) 0 u av (by simpa using h1) (by simpa using h2)
   |1=>
    simp at h1 h2
    subst h1;subst h2
    exact .clo rfl (fun j u c h=>by simp at h) rfl (fun j u c h=>by simp at h)
   |j+2=>simp at h2)).mono (by
   rintro e w'' ⟨v,rfl,hv,hb⟩
   exact⟨by rw[hv.det (AV.out_ra (C:=pcx (fun _=>True)) (w:=w) hdet) hdet],hb⟩)
 have hK1:=hK κ _ _ (r0.putd (okD_spec hd) (AV.out_ra hdet))
 cases q with
 |quiet=>
  show wpQuiet P ops _ _ (_::rest) a
  unfold wpQuiet
  rw[if_pos (by simp [Region.wanted])]
  refine⟨r.out,fun w' hw'=>?_,hK1⟩
  unfold Oper.quietAt
  rw[run_call (f:=f) rfl hf.enters]
  exact⟨rfl,(hc w' hw').mono fun e w'' ⟨h1,h2⟩=>⟨h1,hw'.trans (h2.mono hw'.size)⟩⟩
 |held=>exact absurd rfl hq
 |plain=>
  show wpListIn _ _ P ops _ (_::rest) a w
  refine wpl_plain rfl rfl fun K hK'=>?_
  unfold Oper.wpF
  rw[run_call (f:=f) rfl hf.enters,Oper.uponIn_enter]
  refine⟨fun h=>by simp at h,(callsIn_any (hc w (Below.refl _ _))).mono ?_⟩
  rintro e w' ⟨rfl,hb⟩
  exact hK' _ _ (hK κ _ _ ((r0.ext hb).putd (okD_spec hd) (AV.out_ra hdet)))
end Go.Ab
/- Strings:joined,compared,measured,indexed,cut;numbers of any kind compared. -/
namespace Go.Ab
open Go Go.RowKit
variable {q:Md} {P:Program} {g:Ghost} {δ:DS} {κ:Kp} {a:Act} {w:World}
variable {ops:Array Oper} {rest:List Oper} {Q:Exit→DS→Prop} {dst:Option Nat} {ty:TypeId} {pos:String} {af:Array Edge}
abbrev litS (s:ByteArray):AV:=.pv (.lit (.string s))
section strs
variable {x y:Operand} {t t':TypeId} {s u:ByteArray} (hx:δ.ev x=litS s) (hy:δ.ev y=litS u) (ho:okT x=true) (ho':okT y=true) (hd:okD δ.n dst=true)
include hx hy ho ho' hd
end strs
end Go.Ab
/- A struct stored into a part of a box:an element of an array,a struct's field that is a struct. -/
namespace Go.Ab
open Go Go.RowKit
inductive PutP:Nat→List AV→List AV→List AV→Prop where
 |nil {l}:PutP 0 [] l l
 |take {a b cs l l'}:PutP 0 cs l l'→PutP 0 (b::cs) (a::l) (b::l')
 |skip {k a cs l l'}:PutP k cs l l'→PutP (k+1) cs (a::l) (a::l')
theorem PutP.spec {k:Nat} {cs l l':List AV} (h:PutP k cs l l'):k+cs.length≤l.length∧l'.length=l.length∧(∀j,j<k→l'[j]? =l[j]?)∧(∀j,k≤j→j<k+cs.length→l'[j]? =cs[j - k]?)∧(∀j,k+cs.length≤j→l'[j]? =l[j]?):=by
 induction h with
 |nil=>exact⟨by simp,rfl,fun j h=>rfl,fun j h1 h2=>by simp at h2,fun j h=>rfl⟩
 |take _ ih=>
  obtain⟨h1,h2,_,h4,h5⟩:=ih
  refine⟨by simp at h1 ⊢;omega,by simp [h2],fun j h=>by omega,fun j _ h=>?_,fun j h=>?_⟩
  ·cases j with
   |zero=>rfl
   |succ j=>exact h4 j (by omega) (by simp at h ⊢;omega)
  ·cases j with
   |zero=>simp at h
   |succ j=>exact h5 j (by simp at h ⊢;omega)
 |skip _ ih=>
  obtain⟨h1,h2,h3,h4,h5⟩:=ih
  refine⟨by simp at h1 ⊢;omega,by simp [h2],fun j h=>?_,fun j h0 h=>?_,fun j h=>?_⟩
  ·cases j with
   |zero=>rfl
   |succ j=>exact h3 j (by omega)
  ·cases j with
   |zero=>omega
   |succ j=>
    rw[Nat.add_sub_add_right]
    exact h4 j (by omega) (by omega)
  ·cases j with
   |zero=>omega
   |succ j=>exact h5 j (by omega)
variable {P:Program} {g:Ghost} {δ:DS} {ops:Array Oper} {rest:List Oper} {Q:Exit→DS→Prop} {dst:Option Nat} {ty:TypeId} {pos:String} {af:Array Edge} {gd:Option (Tmp×Bool)}
theorem row_get {c u:List Value} {k j:Nat} (hk:k+u.length≤c.length):(c.take k++u++c.drop (k+u.length))[j]? =if j<k then c[j]? else if j<k+u.length then u[j - k]? else c[j]?:=by
 have hl:(c.take k++u).length=k+u.length:=by simp;omega
 by_cases h1:j<k
 ·rw[if_pos h1,List.getElem?_append_left (by omega),List.getElem?_append_left (by simp;omega),List.getElem?_take,if_pos h1]
 ·rw[if_neg h1]
  by_cases h2:j<k+u.length
  ·rw[if_pos h2,List.getElem?_append_left (by omega),List.getElem?_append_right (by simp;omega)]
   congr 1;simp;omega
  ·rw[if_neg h2,List.getElem?_append_right (by omega),hl,List.getElem?_drop]
   congr 1;omega
theorem Eff.store_bp {x y:Operand} {t:TypeId} {i off:Nat} {cells cs out:List AV} (hx:δ.ev x=.ptr i off) (hy:δ.ev y=.agg cs) (hb:δ.ob i=some (.box cells)) (hp:PutP off cs cells out) (ht:(P.info? t).map (·.size)=some cs.length) (h1:AV.ones cs=true) (ho:okT x=true) (ho':okT y=true) (hd:okD δ.n dst=true) (hwk:g.wtOk i):
  Eff P g ⟨dst,.store t x y,ty,pos,af,gd⟩ δ ((δ.setOb i (some (.box out))).putd dst .any):=by
 intro κ a w r
 obtain⟨b,c,e,hv,hκ,h3,h4,h5⟩:=r.box (r.ra hx ho) hb
 obtain⟨hsz,hcs⟩:=(r.ra hy ho').cells h1
 simp only[AV.cellsOf] at hsz hcs
 obtain⟨p1,p2,p3,p4,p5⟩:=hp.spec
 have hall:∀u∈(a.eval y).cells.toList,u.oneCell'=true:=by
  intro u hu
  obtain⟨j,hj⟩:=List.getElem?_of_mem hu
  have hlt:j<cs.length:=by rw[← hsz];have:=(List.getElem?_eq_some_iff.1 hj).1;simpa using this
  exact(hcs j u _ (by simpa using hj) (List.getElem?_eq_getElem hlt)).2
 have hul:(a.eval y).cells.toList.length=cs.length:=by simpa using hsz
 have hst:=run_storeCells_at P b off e (a.eval y).cells.toList 0 c w h3 (by rw[hul];omega) hall
 simp only[Nat.add_zero] at hst
 obtain⟨R,hR⟩:∃R,R=(c.toList.take off++(a.eval y).cells.toList++c.toList.drop (off+(a.eval y).cells.toList.length)).toArray:=⟨_,rfl⟩
 rw[← hR] at hst
 have hRs:R.size=c.size:=by rw[hR];simp [hul];omega
 have hRg:∀j,R[j]? =if j<off then c[j]? else if j<off+cs.length then (a.eval y).cells[j - off]? else c[j]?:=fun j=>by
  rw[hR,List.getElem?_toArray,row_get (by rw[hul];simp;omega),hul]
  simp only[Array.getElem?_toList]
 have hrun:(execOp a.eval ⟨dst,.store t x y,ty,pos,af,gd⟩).run P w=.ok .skip (w.setRow b R):=by
  obtain⟨i0,hi0,hs0⟩:∃i0,P.info? t=some i0∧i0.size=cs.length:=by
   cases h:P.info? t with
   |none=>rw[h] at ht;simp at ht
   |some i0=>rw[h] at ht;exact⟨i0,rfl,by simpa using ht⟩
  simp [execOp,Instr.storeAt,Instr.sureAddr,storeVar,hv,hsz,sizeOf,typeInfo,hi0,hs0,hst]
 obtain⟨r',G⟩:=r.modify (o':=.box out) hb rfl rfl hκ hwk (Turns.setRow w b R) (by simp) (fun C hCκ G=>⟨b,_,e,by rw[hCκ];exact hκ,setRow_heap w b c _ e _ h3,by rw[hRs,p2];exact h4,fun j u av h6 h7=>by
  rw[hRg] at h6
  by_cases e1:j<off
  ·rw[if_pos e1] at h6
   rw[p3 j e1] at h7
   exact⟨G.ra (h5 j u av h6 h7).1,(h5 j u av h6 h7).2⟩
  ·rw[if_neg e1] at h6
   by_cases e2:j<off+cs.length
   ·rw[if_pos e2] at h6
    rw[p4 j (by omega) e2] at h7
    exact⟨G.ra (hcs (j - off) u av h6 h7).1,(hcs (j - off) u av h6 h7).2⟩
   ·rw[if_neg e2] at h6
    rw[p5 j (by omega)] at h7
    exact⟨G.ra (h5 j u av h6 h7).1,(h5 j u av h6 h7).2⟩⟩)
 exact .inl ⟨_,_,_,_,hrun,.inr ⟨rfl,rfl⟩,r'.putd (okD_spec hd) (.any _)⟩
theorem AOps.store_bp {x y:Operand} {t:TypeId} {i off:Nat} {cells cs out:List AV} (hx:δ.ev x=.ptr i off) (hy:δ.ev y=.agg cs) (hb:δ.ob i=some (.box cells)) (hp:PutP off cs cells out) (ht:(P.info? t).map (·.size)=some cs.length) (h1:AV.ones cs=true) (ho:okT x=true) (ho':okT y=true) (hd:okD δ.n dst=true) (hwt:g.wt=none)
  (hK:AOps .plain P g ops rest Q ((δ.setOb i (some (.box out))).putd dst .any)):AOps .plain P g ops (⟨dst,.store t x y,ty,pos,af,none⟩::rest) Q δ:=AOps.eff rfl rfl (Eff.store_bp hx hy hb hp ht h1 ho ho' hd (wtOk_none hwt i)) hK
end Go.Ab
/- A row's first part;append of made zeros to nothing;a capacity. -/
namespace Go.Ab
open Go Go.RowKit
variable {q:Md} {P:Program} {g:Ghost} {δ:DS} {κ:Kp} {a:Act} {w:World}
variable {ops:Array Oper} {rest:List Oper} {Q:Exit→DS→Prop} {dst:Option Nat} {ty:TypeId} {pos:String} {af:Array Edge} {gd:Option (Tmp×Bool)}
theorem AOps.slice_own {t e e':TypeId} {x y:Operand} {i k:Nat} {m:Int} {els:List (List PV)} (hx:δ.ev x=.own i e' k els) (hy:δ.ev y=litI m) (ht:P.underlying t=some (.slice e)) (hk:(P.info? e).map (·.size)=some k)
  (ho:okT x=true) (ho':okT y=true) (hd:okD δ.n dst=true) (h0:0≤m) (hm:m.toNat≤els.length) (hK:AOps q P g ops rest Q (δ.putd dst (.own i e' k (els.take m.toNat)))):AOps q P g ops (⟨dst,.slice t x none (some y) none,ty,pos,af,none⟩::rest) Q δ:=
 AOps.valw _ hd (fun κ a w r=>by
  have h1:=(r.ra hx ho).own_inv
  obtain⟨i0,hi0,hk0⟩:∃i0,P.info? e=some i0∧i0.size=k:=by
   cases h:P.info? e with
   |none=>rw[h] at hk;simp at hk
   |some i0=>rw[h] at hk;exact⟨i0,rfl,by simpa using hk⟩
  have hyv:a.eval y=.int .i64 m:=r.lit hy ho'
  obtain⟨h,rfl⟩:∃h:Nat,m=(h:Int):=⟨m.toNat,by omega⟩
  rw[Int.toNat_natCast] at hm ⊢
  obtain⟨a0,cap,hv,hcap,hb⟩:∃a0 cap,a.eval x=.slice a0 els.length cap∧els.length≤cap∧OwnV (δ.cx g κ) w (.slice a0 h cap) i e' k (els.take h):=by
   obtain⟨hl,hlim,hkk,hblk,xs,⟨hxl,hown⟩,h1x,hxx⟩:=h1
   have mk:∀a0 cap,(∀b,(Value.slice a0 h cap).ownBlock=some b→(δ.cx g κ).κ i=some b)→((Value.slice a0 h cap=.slice none 0 0∧h=0)∨∃g0 cap' cur,Value.slice a0 h cap=.slice (some ⟨g0,0,none⟩) h cap'∧(δ.cx g κ).B≤g0∧w.heap[g0]? =some (.cells cur e' (0,0))∧h≤cap'∧cap'≤maxLen∧cur.size=cap'*k∧cur.toList.take (h*k)=xs.take (h*k))→OwnV (δ.cx g κ) w (.slice a0 h cap) i e' k (els.take h):=by
    intro a0 cap hbk hor
    have hlen:(els.take h).length=h:=by rw[List.length_take];omega
    have hmul:h*k≤els.length*k:=Nat.mul_le_mul_right k hm
    refine⟨hl,by omega,fun c hc=>hkk c (List.mem_of_mem_take hc),hbk,xs.take (h*k),⟨by rw[hlen,List.length_take];omega,by rw[hlen];exact hor⟩,fun u hu=>h1x u (List.mem_of_mem_take hu),fun i' j p hp=>?_⟩
    unfold cellAt at hp
    rw[List.getElem?_take] at hp
    by_cases hih:i'<h
    ·rw[if_pos hih] at hp
     obtain⟨u,hu,hu2⟩:=hxx i' j p (by unfold cellAt;exact hp)
     refine⟨u,?_,hu2⟩
     have hjk:j<k:=by
      rw[Option.bind_eq_some_iff] at hp
      obtain⟨c,hc1,hc2⟩:=hp
      have:=hkk c (List.mem_of_getElem? hc1)
      have:=(List.getElem?_eq_some_iff.1 hc2).1
      omega
     have:(i'+1)*k≤h*k:=Nat.mul_le_mul_right k hih
     rw[Nat.add_mul,Nat.one_mul] at this
     rw[List.getElem?_take,if_pos (by omega)];exact hu
    ·rw[if_neg hih] at hp;simp at hp
   rcases hown with ⟨hn,hz⟩|⟨g0,cap,cur,hv,hg,h3,hle,hcm,hcs,htk⟩
   ·refine⟨none,0,by rw[hn,hz],by omega,mk none 0 (fun b hb=>by cases hb) (.inl ⟨?_,by omega⟩)⟩
    rw[show h=0 by omega]
   ·refine⟨_,cap,hv,hle,mk _ cap (fun b hb=>hblk b (by rw[hv];exact hb)) (.inr ⟨g0,cap,cur,rfl,hg,h3,by omega,hcm,hcs,?_⟩)⟩
    rw[← htk,List.take_take,Nat.min_eq_left (Nat.mul_le_mul_right k hm)]
  have hrun:∀w,(execOp a.eval ⟨dst,.slice t x none (some y) none,ty,pos,af,none⟩).run P w=.ok (.value (.slice a0 h cap)) w:=by
   intro w
   have hb1:∀w,(Instr.sliceBounds true els.length cap none (some (.int .i64 (h:Int))) none).run P w=.ok (0,h,cap) w:=by
    intro w
    have e1:(0:Int)≤(h:Int)∧(h:Int)≤(cap:Int):=by omega
    simp [Instr.sliceBounds,Instr.sliceBound,asIntOf,e1]
    intro h0;exfalso;omega
   simp only[execOp,Instr.sliceAt,Instr.slice,run_underlying ht,hv,hyv,Sem.run_bind,Result.andThen_ok,Option.map_none,Option.map_some,hb1,sizeOf,typeInfo,Sem.run_pure]
   cases a0 with
   |none=>simp [hi0,hk0]
   |some ad=>
    simp [hi0,hk0]
    intro _
    cases ad;simp [Addr.add]
  exact⟨_,fun w' _=>hrun w',.own hb⟩) hK
namespace Nf
variable {n x:Nat} {e:List (Nat×AV)} {o:List (Nat×Option Ob)}
theorem pum (d:Nat) (v:AV):DS.put ⟨n,e,o,x⟩ d v=⟨n,(d,v)::e,o,x⟩:=rfl
theorem pu0 (δ:DS) (v:AV):putAll δ v []=δ:=rfl
theorem pu1 (δ:DS) (v:AV) (t:Nat) (ts:List Nat):putAll δ v (t::ts)=(putAll δ v ts).put t v:=rfl
theorem rr0 (i:Nat) (e:TypeId) (zs os:List Int):rowRet i e zs os none=.tup []:=rfl
theorem rr1 (i:Nat) (e:TypeId) (zs os:List Int) (r:List Int→Nat):rowRet i e zs os (some r)=.own i e 1 ((os.take (r zs)).map nI):=rfl
set_option linter.defProp false in
def rwR:=And.intro @pum (And.intro @pu0 (And.intro @pu1 (And.intro @rr0 @rr1)))
end Nf
end Go.Ab
/- Contracts of callees that return a row of their own making;the caller owns it from then on. -/
namespace Go.Ab
open Go Go.RowKit
variable {P:Program} {g:Ghost} {δ:DS} {κ:Kp} {a:Act} {w:World}
variable {ops:Array Oper} {rest:List Oper} {Q:Exit→DS→Prop} {dst:Option Nat} {ty:TypeId} {pos:String} {af:Array Edge}
theorem Rel.adoptB (r:Rel g δ κ a w) {w':World} (hb:Below w.heap.size w w') (bo:Option Nat) (hbo:∀b,bo=some b→w.heap.size≤b∧b<w'.heap.size∧∃c e,w'.heap[b]? =some (.cells c e (0,0))):
  Rel g (δ.addOb .row) (upd κ δ.nx bo) a w'∧Goes (δ.cx g κ) w ((δ.addOb .row).cx g (upd κ δ.nx bo)) w':=by
 have hold:∀k,k<w.heap.size→w'.heap[k]? =w.heap[k]?:=hb.block
 have hnl:¬δ.live δ.nx:=fun h=>Nat.lt_irrefl _ (r.nx _ h)
 have hne:∀i,δ.live i→δ.nx≠i:=fun i h e=>hnl (e▸h)
 have hlive:∀i,(δ.addOb .row).live i→i=δ.nx∨δ.live i:=by
  intro i ⟨o',h⟩
  rw[ob_addOb] at h
  by_cases e:δ.nx=i
  ·exact .inl e.symm
  ·rw[if_neg e] at h;exact .inr ⟨o',h⟩
 have G:Goes (δ.cx g κ) w ((δ.addOb .row).cx g (upd κ δ.nx bo)) w':=
  {B:=rfl,size:=hb.size
   N:=fun b h1 h2=>⟨⟨h2.1,fun i hi=>by
    show upd κ δ.nx bo i≠some b
    rcases hlive i hi with rfl|hi
    ·simp only[upd,if_true];intro e;have:=(hbo b e).1;omega
    ·simp only[upd,hne i hi,if_false];exact h2.2 i hi⟩,hold b h1⟩
   Lr:=fun i hi=>by
    have hi':=hne i (DS.lr_live hi)
    refine⟨?_,by show upd _ _ _ i=κ i;simp [upd,hi'],fun b hκ=>hold b (r.lo i b (DS.lr_live hi) hκ).2⟩
    show(δ.addOb .row).ob i=_
    rw[ob_addOb,if_neg hi'];exact hi
   Lb:=fun i hi=>by
    have hi':=hne i (DS.lb_live hi)
    refine⟨?_,by show upd _ _ _ i=κ i;simp [upd,hi']⟩
    obtain⟨o',h1,h2⟩:=hi
    exact⟨o',by rw[ob_addOb,if_neg hi'];exact h1,h2⟩}
 refine⟨?_,G⟩
 exact
  {n:=r.n,dfr:=r.dfr.goes fun k _ hk=>hold k (heap_lt hk),env:=fun j=>G.ra (r.env j)
   obj:=fun i o' h=>by
    rw[ob_addOb] at h
    by_cases e:δ.nx=i
    ·rw[if_pos e] at h;cases h;subst e
     intro b hκ
     have hκ':bo=some b:=by
      have:upd κ δ.nx bo δ.nx=some b:=hκ
      simpa [upd] using this
     exact(hbo b hκ').2.2
    ·rw[if_neg e] at h
     exact(r.obj i o' h).goes G (by show upd _ _ _ i=κ i;simp [upd,e]) (fun b hκ=>hold b (r.lo i b ⟨o',h⟩ hκ).2) (fun b hF hlt=>⟨hF,hold b hlt⟩)
   inj:=fun i j b h1 h2 h3 h4=>by
    rcases hlive i h1 with rfl|h1
    ·rcases hlive j h2 with rfl|h2
     ·rfl
     ·simp only[upd,if_true] at h3
      simp only[upd,hne j h2,if_false] at h4
      exact absurd (r.lo j _ h2 h4).2 (by have:=(hbo b h3).1;omega)
    ·rcases hlive j h2 with rfl|h2
     ·simp only[upd,if_true] at h4
      simp only[upd,hne i h1,if_false] at h3
      exact absurd (r.lo i _ h1 h3).2 (by have:=(hbo b h4).1;omega)
     ·simp only[upd,hne i h1,hne j h2,if_false] at h3 h4
      exact r.inj i j b h1 h2 h3 h4
   lo:=fun i b h1 h2=>by
    rcases hlive i h1 with rfl|h1
    ·simp only[upd,if_true] at h2
     have:=hbo b h2
     have:=r.hB
     omega
    ·simp only[upd,hne i h1,if_false] at h2
     have:=r.lo i b h1 h2
     have:=hb.size
     omega
   nx:=fun i h=>by
    show i<δ.nx+1
    rcases hlive i h with rfl|h
    ·omega
    ·have:=r.nx i h;omega
   wt:=fun k hk=>⟨fun b hkb=>⟨((r.wt k hk).1 b hkb).1,(hold b (wt_lt ((r.wt k hk).1 b hkb))).trans ((r.wt k hk).1 b hkb).2⟩,fun i b hl hi hκ hkb=>by
    rcases hlive i hl with rfl|hi'
    ·simp only[upd,if_true] at hκ
     have:=(hbo b hκ).1
     exact absurd (wt_lt ((r.wt k hk).1 _ hkb)) (by omega)
    ·simp only[upd,hne i hi',if_false] at hκ
     refine(r.wt k hk).2 i b hi' ?_ hκ hkb
     refine hi.imp (fun hi=>?_) id
     have hi2:(δ.addOb .row).ob i=some .row:=hi
     rw[ob_addOb,if_neg (hne i hi')] at hi2
     exact hi2⟩
   below:=r.below.trans (hb.mono r.hB)
   hB:=Nat.le_trans r.hB hb.size
   N0:=r.N0
   mkf:=r.mkf
   fr:=r.fr.of hb.size (fun b _ h1 _=>hold b h1) fun i b h1 h2=>by
    rcases hlive i h1 with rfl|h1
    ·simp only[upd,if_true] at h2;exact .inr (hbo b h2).1
    ·simp only[upd,hne i h1,if_false] at h2;exact .inl ⟨i,h1,h2⟩}
structure Fresh (N:Nat→Prop) (w:World) (B:Nat) (v:Value) (e:TypeId) (k:Nat) (els:List (List PV)):Prop where
 lim:els.length≤140737488355328
 hk:∀c∈els,c.length=k
 row:∃xs,w.ownsRow B e k v els.length xs∧(∀u∈xs,u.oneCell'=true)∧∀i' j p,cellAt els i' j=some p→∃u,xs[i'*k+j]? =some u∧RP (fun b=>N b∧v.ownBlock≠some b) w u p
structure FnO (P:Program) (f:FuncId) (args:List AV) (e:TypeId) (k:Nat) (els:List (List PV)):Prop where
 enters:∀vals w,(callFunc f vals).run P w=.ok (.enter f vals) w
 calls:∀(N:Nat→Prop) (w:World) (vals:Array Value),(∀b,w.heap.size≤b→N b)→vals.size=args.length→
  (∀(j:Nat) (v:Value) (av:AV),vals[j]? =some v→args[j]? =some av→RA (pcx N) w v av)→
  Calls P f vals w fun en w'=>∃v,en=.returned v∧Below w.heap.size w w'∧Fresh N w' w.heap.size v e k els
theorem AOps.callo {f:FuncId} {xs:List Operand} {tys:Array TypeId} {args:List AV} {e:TypeId} {k:Nat} {els:List (List PV)} (hf:FnO P f args e k els) (hargs:Args false δ xs args) (hd:okD δ.n dst=true)
  (hK:AOps .plain P g ops rest Q ((δ.addOb .row).putd dst (.own δ.nx e k els))):AOps .plain P g ops (⟨dst,.call {callee:=.value (.func f),args:=xs.toArray,argTypes:=tys},ty,pos,af,none⟩::rest) Q δ:=by
 intro κ a w r0
 show wpListIn _ _ P ops _ (_::rest) a w
 refine wpl_plain rfl rfl fun K hK'=>?_
 unfold Oper.wpF
 rw[run_call (f:=f) rfl hf.enters,Oper.uponIn_enter]
 refine⟨fun h=>by simp at h,(callsIn_any (hf.calls (fun b=>(δ.cx g κ).N b∨w.heap.size≤b) w _ (fun _ h=> .inr h) (by simp [hargs.len]) (hargs.ras r0 (fun _ _ h=> .inl h) (fun h=>by simp at h)))).mono ?_⟩
 rintro en w' ⟨v,rfl,hb,hv⟩
 have hbo:∀b,v.ownBlock=some b→w.heap.size≤b∧b<w'.heap.size∧∃c e,w'.heap[b]? =some (.cells c e (0,0)):=by
  intro b hbv
  obtain⟨xs,⟨_,hown⟩,_⟩:=hv.row
  rcases hown with ⟨rfl,_⟩|⟨b0,cap,cur,rfl,h1,h2,_⟩
  ·cases hbv
  ·cases hbv
   exact⟨h1,(Array.getElem?_eq_some_iff.1 h2).1,cur,e,h2⟩
 obtain⟨r1,G⟩:=r0.adoptB hb v.ownBlock hbo
 refine hK' _ _ (hK _ _ _ (r1.putd (okD_spec hd) (.own ?_)))
 obtain⟨xs,⟨hxl,hown⟩,h1,hx⟩:=hv.row
 refine⟨by show(δ.addOb .row).ob _=_;rw[ob_addOb,if_pos rfl],hv.lim,hv.hk,fun b hbv=>by show upd _ _ _ _=_;simp [upd,hbv],xs,⟨hxl,?_⟩,h1,fun i' j p hp=>?_⟩
 ·rcases hown with h|⟨b0,cap,cur,h2,h3,h4⟩
  ·exact .inl h
  ·exact .inr ⟨b0,cap,cur,h2,Nat.le_trans r0.hB h3,h4⟩
 ·obtain⟨u,hu,hr⟩:=hx i' j p hp
  refine⟨u,hu,hr.mono (Nat.le_refl _) fun b _ hN=>⟨?_,rfl⟩⟩
  have hlive:∀i,(δ.addOb .row).live i→i=δ.nx∨δ.live i:=by
   intro i ⟨o',h⟩
   rw[ob_addOb] at h
   by_cases e:δ.nx=i
   ·exact .inl e.symm
   ·rw[if_neg e] at h;exact .inr ⟨o',h⟩
  have hnl:∀i,δ.live i→δ.nx≠i:=fun i h e=>Nat.lt_irrefl _ (r0.nx _ (e▸h))
  refine⟨?_,fun i hi=>?_⟩
  ·rcases hN.1 with h|h
   ·exact h.1
   ·exact r0.N0new h
  ·show upd κ δ.nx v.ownBlock i≠some b
   rcases hlive i hi with rfl|hi
   ·simp only[upd,if_true];exact hN.2
   ·simp only[upd,hnl i hi,if_false]
    rcases hN.1 with h|h
    ·exact h.2 i hi
    ·intro e
     have:=(r0.lo i b hi e).2
     omega
def EndsO (P:Program) (rs:List ResultVar) (e:TypeId) (k:Nat) (els:List (List PV)):Exit→DS→Prop
 |.normal,δ|.ret,δ=>(∃i,Res P δ rs (.own i e k els))∨(els=[]∧Res P δ rs (.pv (.lit (.slice none 0 0))))
 |_,_=>False
theorem FnO.enter {f:FuncId} {fn:Func} {c:Code} {rs:List ResultVar} {n:Nat} {args:List AV} {e:TypeId} {k:Nat} {els:List (List PV)} (hf:P.funcs[f]? =some fn) (hb:fn.body=some c) (hrs:fn.results=rs.toArray) (hn:fn.ntmps=n) (hna:Nat.ble args.length n=true)
  (hna':Nat.ble n HS=true) (he:(fn.name== "runtime.NumGoroutine")=false) (h:∀g:Ghost,g.ro=none→g.wt=none→AW P g c (EndsO P rs e k els) (start n args)):FnO P f args e k els:=by
 refine⟨fun vals w=>by simp [callFunc,hf,hb];simpa using he,fun N w vals hN hs hargs=>?_⟩
 have hle:args.length≤n:=by simpa using hna
 have hnH:n≤HS:=by simpa using hna'
 let g:Ghost:={B:=w.heap.size,w0:=w,N0:=N,held:=fun _=>undef,ro:=none,mks:=[],wt:=none,fr:=fun _=>False,w1:=w}
 have hnl:∀i,¬(start n args).live i:=fun i ⟨o,h⟩=>by cases h
 refine callsIn_wide.1 (callsIn_of_wp_marks (n:=0) hf hb trivial (wpIn_mono (h g rfl rfl ⟨fun _=>none,fun _ _=>False⟩ _ w ?_) ?_))
 ·exact
  {n:=by simp [hn,start];omega
   dfr:=⟨[],rfl,by simp [g],by simp [g]⟩
   env:=fun j=>by
    by_cases hj:j<args.length
    ·have h1:(start n args).get j=args[j]:=look_enum args 0 j _ (Nat.zero_le _) (by simp [hj])
     have h2:g.val {tmps:=vals++Array.replicate (fn.ntmps - vals.size) undef,defers:=[]} j=vals[j]'(by omega):=by
      unfold Ghost.val
      rw[if_pos (by omega)]
      simp [Array.getD_eq_getD_getElem?,Array.getElem?_append,hs,hj]
     rw[h1,h2]
     exact(hargs j _ _ (Array.getElem?_eq_getElem (by omega)) (List.getElem?_eq_getElem hj)).of_pcx _ fun b _ h=>⟨⟨h,fun⟨_,h⟩=>h⟩,fun i hi=>absurd hi (hnl i)⟩
    ·have h1:(start n args).get j=.any:=look_enum_out args 0 j (by omega)
     rw[h1];exact .any _
   obj:=fun i o h=>by cases h
   inj:=fun i j b h=>absurd h (hnl i)
   lo:=fun i b h=>absurd h (hnl i)
   nx:=fun i h=>absurd h (hnl i)
   wt:=fun k hk=>by cases hk
   below:=Below.refl _ _
   hB:=Nat.le_refl _
   N0:=fun b h _=>hN b h
   fr:=⟨fun b hb=>hb.elim,fun i b hb=>hb.elim⟩
   mkf:=fun d hd=>by cases hd}
 ·rintro ex a' w' ⟨δ',κ',hq,r'⟩
  have fin:∀i,Res P δ' rs (.own i e k els)→LeavesInM Fence.wide 0 P fn a'.tmps (fun en w'=>∃v,en=.returned v∧Below w.heap.size w w'∧Fresh N w' w.heap.size v e k els) a'.defers .returning w':=by
   intro i h1
   exact leaves (g:=g) rfl rfl hrs h1 r' (fun w2 r2 u hu=>by
    have ho:=hu.own_inv
    refine⟨u,rfl,r2.below,ho.lim,ho.hk,?_⟩
    obtain⟨xs,h3,h4,h5⟩:=ho.row
    refine⟨xs,h3,h4,fun i' j p hp=>?_⟩
    obtain⟨v,hv,hr⟩:=h5 i' j p hp
    refine⟨v,hv,hr.mono (Nat.le_refl _) fun b _ hN=>⟨⟨hN.1.1,fun hb=>?_⟩,rfl⟩⟩
    exact hN.2 i (DS.lr_live ho.live) (ho.blk b hb))
  have finN:els=[]→Res P δ' rs (.pv (.lit (.slice none 0 0)))→LeavesInM Fence.wide 0 P fn a'.tmps (fun en w'=>∃v,en=.returned v∧Below w.heap.size w w'∧Fresh N w' w.heap.size v e k els) a'.defers .returning w':=by
   intro h0 h1
   exact leaves (g:=g) rfl rfl hrs h1 r' (fun w2 r2 u hu=>by
    have hu:=hu.lit
    subst hu
    subst h0
    exact⟨_,rfl,r2.below,by simp,fun c hc=>by simp at hc,[],World.ownsRow_nil _ _ _ _,fun u hu=>by simp at hu,fun i' j p hp=>by simp [cellAt] at hp⟩)
  cases ex with
  |normal=>
   rcases hq with ⟨i,h1⟩|⟨h0,h1⟩
   ·exact fin i h1
   ·exact finN h0 h1
  |ret=>
   rcases hq with ⟨i,h1⟩|⟨h0,h1⟩
   ·exact fin i h1
   ·exact finN h0 h1
  |_=>exact hq.elim
theorem endsO_ret {rs:List ResultVar} {i:Nat} {e:TypeId} {k:Nat} {els els':List (List PV)} (h:Res P δ rs (.own i e k els')) (he:els'=els):EndsO P rs e k els .ret δ:=.inl ⟨i,he▸h⟩
theorem endsO_nil {rs:List ResultVar} {e:TypeId} {k:Nat} {els:List (List PV)} (h:Res P δ rs (.pv (.lit (.slice none 0 0)))) (he:els=[]):EndsO P rs e k els .ret δ:=.inr ⟨he,h⟩
theorem WV.nilpvE {δ δ':DS} {k:Nat} {els:List (List PV)} (h:els=[]):WV δ δ' (.pv (.lit (.slice none 0 0))) (.pv (.slice k els)):=by rw[h];exact .nilpv k
end Go.Ab
/- A callee that takes one value out of a row of one-cell values in place:Go's slices.Delete. -/
namespace Go.Ab
open Go Go.RowKit
variable {P:Program} {g:Ghost} {δ:DS} {κ:Kp} {a:Act} {w:World}
structure DelC (P:Program) (f:FuncId) (z:Value):Prop where
 enters:∀vals w,(callFunc f vals).run P w=.ok (.enter f vals) w
 calls:∀(b cap i:Nat) (us:List Value) (w:World),Sort.Holds (fun u:Value=>u) w b 0 us.toArray→(∀u∈us,u.oneCell'=true)→us.length≤cap→cap≤maxLen→i<us.length→
  Calls P f #[.slice (some ⟨b,0,none⟩) us.length cap,.int .i64 i,.int .i64 (i+1)] w fun e w'=>e=.returned (.slice (some ⟨b,0,none⟩) (us.length - 1) cap)∧
   ∃n,w'=Sort.putRow (fun u:Value=>u) (Sort.ahead w n) b 0 (us.take i++us.drop (i+1)++ [z]).toArray
theorem putRowV_heap {w:World} {b n:Nat} {c:Array Value} {e:TypeId} {d:Array Value} (h:w.heap[b]? =some (.cells c e (0,0))):
  (Sort.putRow (fun u:Value=>u) (Sort.ahead w n) b 0 d).heap[b]? =some (.cells (Sort.putCells (fun u:Value=>u) 0 d c) e (0,0)):=by
 unfold Sort.putRow Sort.mapBlock Sort.ahead
 simp only
 rw[Array.getElem?_modify,if_pos rfl,h]
 rfl
theorem putRowV_turns (w:World) (b n:Nat) (d:Array Value):Turns w (Sort.putRow (fun u:Value=>u) (Sort.ahead w n) b 0 d) (some b):=
 ⟨rfl,rfl,rfl,by simp [Sort.putRow,Sort.mapBlock,Sort.ahead],fun k hk hne=>by
  unfold Sort.putRow Sort.mapBlock Sort.ahead
  simp only
  rw[Array.getElem?_modify,if_neg (fun e=>hne (by rw[e]))]⟩
theorem putCellsV_take {c:Array Value} {d:List Value} {m:Nat} (hc:d.length≤c.size) (hm:m≤d.length):(Sort.putCells (fun u:Value=>u) 0 d.toArray c).toList.take m=d.take m:=by
 apply List.ext_getElem
 ·simp [Sort.putCells];omega
 ·intro j h1 h2
  have hj:j<d.length:=by simp at h2;omega
  simp [Sort.putCells,hj]
theorem erase_get {α:Type} {l:List α} {i j:Nat}:(l.take i++l.drop (i+1))[j]? =if j<i then l[j]? else l[j+1]?:=by
 by_cases h:i≤l.length
 ·by_cases hj:j<i
  ·rw[if_pos hj,List.getElem?_append_left (by rw[List.length_take];omega),List.getElem?_take,if_pos hj]
  ·rw[if_neg hj,List.getElem?_append_right (by rw[List.length_take];omega),List.length_take,Nat.min_eq_left h,List.getElem?_drop]
   congr 1;omega
 ·have h1:l.take i=l:=List.take_of_length_le (by omega)
  have h2:l.drop (i+1)=[]:=List.drop_eq_nil_of_le (by omega)
  rw[h1,h2,List.append_nil]
  by_cases hj:j<i
  ·rw[if_pos hj]
  ·rw[if_neg hj,List.getElem?_eq_none (by omega),List.getElem?_eq_none (by omega)]
variable {ops:Array Oper} {rest:List Oper} {Q:Exit→DS→Prop} {dst:Option Nat} {ty:TypeId} {pos:String} {af:Array Edge} {gd:Option (Tmp×Bool)}
theorem Eff.delC {f:FuncId} {zv:Value} {x y z:Operand} {tys:Array TypeId} (hf:DelC P f zv) {r i:Nat} {e:TypeId} {els:List (List PV)} {m:Int} (hx:δ.ev x=.own r e 1 els) (hy:δ.ev y=litI (i:Nat)) (hz:δ.ev z=litI m) (hr:δ.ob r=some .row)
  (ho:okT x=true) (ho':okT y=true) (hoz:okT z=true) (hd:okD δ.n dst=true) (hm:m=(i:Int)+1) (hi:i<els.length):
  Eff P g ⟨dst,.call {callee:=.value (.func f),args:= #[x,y,z],argTypes:=tys},ty,pos,af,none⟩ δ ((δ.mapV (AV.kill r)).putd dst (.own r e 1 (els.take i++els.drop (i+1)))):=by
 subst hm
 intro κ a w rl
 right
 have hxv:=(rl.ra hx ho).own_inv
 have hyv:a.eval y=.int .i64 (i:Nat):=rl.lit hy ho'
 have hzv:a.eval z=.int .i64 ((i:Int)+1):=rl.lit hz hoz
 have hrun:=run_call (dst:=dst) (ty:=ty) (pos:=pos) (af:=af) (xs:= #[x,y,z]) (tys:=tys) (ρ:=a.eval) (x:=.func f) (f:=f) rfl hf.enters w
 have hlim:els.length≤140737488355328:=hxv.lim
 refine⟨f, #[a.eval x,a.eval y,a.eval z],by simpa using hrun,?_⟩
 obtain⟨xs,⟨hl,hown⟩,hone,hcell⟩:=hxv.row
 rw[Nat.mul_one] at hl
 rcases hown with ⟨_,h0⟩|⟨b,cap,c,hv,hB,hb,hcap,hmax,hcs,htk⟩
 ·exfalso;omega
 ·have hκ:κ r=some b:=hxv.blk b (by rw[hv];rfl)
  rw[hv,hyv,hzv]
  have hblt:b<w.heap.size:=(Array.getElem?_eq_some_iff.1 hb).1
  rw[Nat.mul_one] at hcs htk
  have hold:Sort.Holds (fun u:Value=>u) w b 0 xs.toArray:=by
   intro j hj
   have hj':j<xs.length:=by simpa using hj
   refine⟨?_,by rw[Nat.zero_add];exact frozen_of hb _⟩
   rw[Nat.zero_add,cell_of hb]
   have h1:(c.toList.take els.length)[j]? =xs[j]?:=by rw[htk]
   rw[List.getElem?_take,if_pos (by omega),Array.getElem?_toList,List.getElem?_eq_getElem hj'] at h1
   rw[h1]
   simp [hj']
  rw[← hl]
  refine(hf.calls b cap i xs w hold hone (by omega) hmax (by omega)).mono fun e' w' ⟨he,n,hw'⟩=>?_
  obtain⟨d,hd'⟩:∃d,d=xs.take i++xs.drop (i+1):=⟨_,rfl⟩
  have hdl:d.length=xs.length - 1:=by rw[hd'];simp;omega
  rw[← hd'] at hw'
  have hh:w'.heap[b]? =some (.cells (Sort.putCells (fun u:Value=>u) 0 (d++ [zv]).toArray c) e (0,0)):=by rw[hw'];exact putRowV_heap hb
  have hsz:(Sort.putCells (fun u:Value=>u) 0 (d++ [zv]).toArray c).size=c.size:=by simp [Sort.putCells]
  have htk2:=putCellsV_take (c:=c) (d:=d++ [zv]) (m:=d.length) (by simp;omega) (by simp)
  rw[List.take_left] at htk2
  obtain⟨rk,G⟩:=rl.row hr (κ':=κ) (w':=w') (fun _ _=>rfl) (by rw[hκ,hw'];exact putRowV_turns _ _ _ _) (fun b' hb'=>by
   obtain rfl:b=b':=Option.some.inj (hκ.symm.trans hb')
   exact⟨.inl hκ,(Array.getElem?_eq_some_iff.1 hh).1,_,_,hh⟩) (AV.kill r) rfl (fun G v av h=>h.kill G)
  have hel:(els.take i++els.drop (i+1)).length=d.length:=by rw[hdl];simp;omega
  refine⟨_,κ,he,rk.putd (okD_spec hd) (.own ⟨?_,by omega,fun c hc=>?_,fun b' hb'=>?_,d,⟨by rw[Nat.mul_one];exact hel.symm,.inr ⟨b,cap,_,?_,hB,hh,?_,hmax,?_,?_⟩⟩,fun u hu=>?_,fun i' j p hp=>?_⟩)⟩
  ·show(δ.mapV (AV.kill r)).ob r=some .row
   rw[ob_mapV,hr];rfl
  ·rcases List.mem_append.1 hc with hc|hc
   ·exact hxv.hk c (List.mem_of_mem_take hc)
   ·exact hxv.hk c (List.mem_of_mem_drop hc)
  ·cases hb';exact hκ
  ·rw[hel,hdl]
  ·rw[hel];omega
  ·rw[hsz,Nat.mul_one];exact hcs
  ·rw[hel,Nat.mul_one];exact htk2
  ·rw[hd'] at hu
   rcases List.mem_append.1 hu with hu|hu
   ·exact hone u (List.mem_of_mem_take hu)
   ·exact hone u (List.mem_of_mem_drop hu)
  ·have hp':cellAt els (if i'<i then i' else i'+1) j=some p:=by
    unfold cellAt at hp ⊢
    rw[erase_get] at hp
    split at hp
    ·rename_i h;rw[if_pos h];exact hp
    ·rename_i h;rw[if_neg h];exact hp
   obtain⟨u,hu,hrp⟩:=hcell _ j p hp'
   have hj:j=0:=by
    unfold cellAt at hp'
    rw[Option.bind_eq_some_iff] at hp'
    obtain⟨c,hc1,hc2⟩:=hp'
    have:=hxv.hk c (List.mem_of_getElem? hc1)
    have:=(List.getElem?_eq_some_iff.1 hc2).1
    omega
   subst hj
   refine⟨u,?_,G.rp (C:=(δ.cx g κ).less r) hrp⟩
   rw[Nat.mul_one,Nat.add_zero] at hu ⊢
   rw[hd',erase_get]
   split at hu
   ·rename_i h;rw[if_pos h];exact hu
   ·rename_i h;rw[if_neg h];exact hu
theorem AOps.delC {f:FuncId} {zv:Value} {x y z:Operand} {tys:Array TypeId} (hf:DelC P f zv) {α:Type} {h:α→List PV} {l:List α} {r i:Nat} {e:TypeId} {m:Int} (hx:δ.ev x=.own r e 1 (l.map h)) (hy:δ.ev y=litI (i:Nat)) (hz:δ.ev z=litI m) (hr:δ.ob r=some .row)
  (ho:okT x=true) (ho':okT y=true) (hoz:okT z=true) (hd:okD δ.n dst=true) (hm:m=(i:Int)+1) (hi:i<l.length) (hK:AOps .plain P g ops rest Q ((δ.mapV (AV.kill r)).putd dst (.own r e 1 ((l.eraseIdx i).map h)))):
  AOps .plain P g ops (⟨dst,.call {callee:=.value (.func f),args:= #[x,y,z],argTypes:=tys},ty,pos,af,none⟩::rest) Q δ:=
 AOps.eff rfl rfl (Eff.delC hf hx hy hz hr ho ho' hoz hd hm (by simpa using hi)) (by
  have e1:(l.map h).take i++(l.map h).drop (i+1)=(l.eraseIdx i).map h:=by rw[List.eraseIdx_eq_take_drop_succ,List.map_append,List.map_take,List.map_drop]
  rw[e1];exact hK)
end Go.Ab
/- Eight values laid out. -/
namespace Go.Ab
open Go Go.RowKit
variable {q:Md} {P:Program} {g:Ghost} {δ:DS} {κ:Kp} {a:Act} {w:World}
variable {ops:Array Oper} {rest:List Oper} {Q:Exit→DS→Prop} {dst:Option Nat} {ty:TypeId} {pos:String} {af:Array Edge}
end Go.Ab
/- Values of interface type,type switches;a string appended to a row of bytes. -/
namespace Go.Ab
open Go Go.RowKit
variable {q:Md} {P:Program} {g:Ghost} {δ:DS} {κ:Kp} {a:Act} {w:World}
variable {ops:Array Oper} {rest:List Oper} {Q:Exit→DS→Prop} {dst:Option Nat} {ty:TypeId} {pos:String} {af:Array Edge}
section ints
variable {x y:Operand} {t t':TypeId} {m n:Int} {k:IntKind} (hx:δ.ev x=.pv (.lit (.int k m))) (hy:δ.ev y=.pv (.lit (.int k n))) (ho:okT x=true) (ho':okT y=true) (hd:okD δ.n dst=true)
include hx hy ho ho' hd
end ints
end Go.Ab
/- The last bit of a number turned;objects renumbered ahead of a region. -/
namespace Go.Ab
open Go Go.RowKit
variable {P:Program} {g:Ghost} {δ:DS} {q:Md}
variable {ops:Array Oper} {rest:List Oper} {Q:Exit→DS→Prop} {dst:Option Nat} {ty:TypeId} {pos:String} {af:Array Edge}
end Go.Ab
/- Any number of values of one cell laid out. -/
namespace Go.Ab
open Go Go.RowKit
variable {q:Md} {P:Program} {g:Ghost} {δ:DS} {κ:Kp} {a:Act} {w:World}
variable {ops:Array Oper} {rest:List Oper} {Q:Exit→DS→Prop} {dst:Option Nat} {ty:TypeId} {pos:String} {af:Array Edge}
inductive PvS (δ:DS):Nat→List (Nat×Operand)→List PV→Prop
 |nil {i:Nat}:PvS δ i [] []
 |cons {i:Nat} {x:Operand} {p:PV} {ps:List PV} {r:List (Nat×Operand)} (h:δ.ev x=.pv p) (h1:AV.one (.pv p)=true) (ho:okT x=true) (hr:PvS δ (i+1) r ps):PvS δ i ((i,x)::r) (p::ps)
theorem PvS.ok {δ:DS} {i:Nat} {parts:List (Nat×Operand)} {ps:List PV} (h:PvS δ i parts ps):parts.all (fun p=>okT p.2)=true:=by
 induction h with
 |nil=>rfl
 |cons h h1 ho hr ih=>simp [ho,ih]
end Go.Ab
/- Pools:rows of one-cell values,reached by slices that are told whole. -/
namespace Go.Ab
open Go Go.RowKit
variable {q:Md} {P:Program} {g:Ghost} {δ:DS} {κ:Kp} {a:Act} {w:World}
variable {ops:Array Oper} {rest:List Oper} {Q:Exit→DS→Prop} {dst:Option Nat} {ty:TypeId} {pos:String} {af:Array Edge} {gd:Option (Tmp×Bool)}
abbrev PRows:=Nat→Value×List Value
def rset (rows:PRows) (k:Nat) (p:Value×List Value):PRows:=fun j=>if j=k then p else rows j
def hdLen (m:Nat):Value→Value
 |.slice a _ c=> .slice a m c
 |v=>v
def hdPtr (n:Nat):Value→Value
 |.slice (some ⟨b,o,x⟩) _ _=> .pointer (some ⟨b,o+n,x⟩)
 |v=>v
theorem ownsRow_block {w:World} {B:Nat} {e:TypeId} {v:Value} {n:Nat} {xs:List Value} (h:w.ownsRow B e 1 v n xs) {b:Nat} (hb:v.ownBlock=some b):∃cur,w.heap[b]? =some (.cells cur e (0,0))∧B≤b:=by
 rcases h.2 with ⟨rfl,_⟩|⟨b',cap,cur,rfl,h1,h2,_⟩
 ·cases hb
 ·cases hb;exact⟨cur,h2,h1⟩
theorem DS.live_set {δ:DS} {i:Nat} {o o':Ob} (ho:δ.ob i=some o) (j:Nat):(δ.setOb i (some o')).live j↔δ.live j:=by
 unfold DS.live
 rw[ob_setOb]
 by_cases e:i=j
 ·subst e;simp [ho]
 ·simp [e]
theorem Rel.pool_turn (r:Rel g δ κ a w) {i:Nat} {e:TypeId} {rows:PRows} (ho:δ.ob i=some (.pool e rows)) {k:Nat} {w':World} (t:Turns w w' (rows k).1.ownBlock) {v':Value} {ys:List Value}
  (hown:w'.ownsRow g.B e 1 v' ys.length ys) (hl:ys.length≤140737488355328) (h1:∀u∈ys,u.oneCell'=true) (hnew:∀b,v'.ownBlock=some b→(rows k).1.ownBlock=some b∨w.heap.size≤b):
  ∃κ',Rel g (δ.setOb i (some (.pool e (rset rows k (v',ys))))) κ' a w'∧Goes (δ.cx g κ) w ((δ.setOb i (some (.pool e (rset rows k (v',ys))))).cx g κ') w':=by
 obtain⟨hκi,hrows,hdis⟩:=r.obj i _ ho
 have hi:δ.live i:=⟨_,ho⟩
 have hF:∀kk b,(rows kk).1.ownBlock=some b→κ.F i b:=fun kk b hb=>(hrows kk).2.2.1 b hb
 have hFl:∀b,κ.Fs b→b<w.heap.size:=fun b hb=>r.fr.Fs_lt hb
 have hlive:=fun j=>DS.live_set (o':=.pool e (rset rows k (v',ys))) ho j
 have hlr:∀j,(δ.setOb i (some (.pool e (rset rows k (v',ys))))).lr j↔δ.lr j:=by
  intro j
  unfold DS.lr
  rw[ob_setOb]
  by_cases e':i=j
  ·subst e';rw[if_pos rfl,ho];simp
  ·simp [e']
 have hlb:∀j,δ.lb j→(δ.setOb i (some (.pool e (rset rows k (v',ys))))).lb j:=by
  rintro j ⟨o,h2,h3⟩
  unfold DS.lb
  rw[ob_setOb]
  by_cases e':i=j
  ·subst e';rw[if_pos rfl];exact⟨_,rfl,rfl⟩
  ·rw[if_neg e'];exact⟨o,h2,h3⟩
 have hblk:∀b,b<w.heap.size→¬(rows k).1.ownBlock=some b→w'.heap[b]? =w.heap[b]?:=fun b h2 h3=>t.block b h2 h3
 have hnF:∀b,b<w.heap.size→¬κ.Fs b→w'.heap[b]? =w.heap[b]?:=fun b h2 h3=>hblk b h2 fun h4=>h3 ⟨i,hF k b h4⟩
 have hv'lt:∀b,v'.ownBlock=some b→b<w'.heap.size∧g.B≤b:=fun b hb=>let ⟨_,h2,h3⟩:=ownsRow_block hown hb;⟨heap_lt h2,h3⟩
 let κ':Kp:=⟨κ.f,fun j b=>κ.F j b∨(j=i∧v'.ownBlock=some b)⟩
 have hold:∀j b,κ'.F j b→b<w.heap.size→κ.F j b:=by
  rintro j b (h2|⟨rfl,h2⟩) h3
  ·exact h2
  ·rcases hnew b h2 with h4|h4
   ·exact hF k b h4
   ·omega
 have G:Goes (δ.cx g κ) w ((δ.setOb i (some (.pool e (rset rows k (v',ys))))).cx g κ') w':=
  {B:=rfl,size:=t.size
   N:=fun b h2 h3=>⟨⟨⟨h3.1.1,fun⟨j,hj⟩=>h3.1.2 ⟨j,hold j b hj h2⟩⟩,fun j hj=>h3.2 j ((hlive j).1 hj)⟩,hnF b h2 h3.1.2⟩
   Lr:=fun j hj=>⟨(hlr j).2 hj,rfl,fun b hb=>hnF b (r.lo j b (DS.lr_live hj) hb).2 (r.fr.Fs_own (DS.lr_live hj) hb)⟩
   Lb:=fun j hj=>⟨hlb j hj,rfl⟩}
 refine⟨κ',?_,G⟩
 exact
  {n:=r.n
   dfr:=r.dfr.goes fun b _ hb=>hblk b (heap_lt hb) fun h2=>by
    obtain⟨cur,h3,_⟩:=ownsRow_block (hrows k).1 h2
    rw[hb] at h3;cases h3
   env:=fun j=>G.ra (r.env j)
   obj:=fun j x h=>by
    rw[ob_setOb] at h
    by_cases e':i=j
    ·subst e'
     rw[if_pos rfl] at h
     cases h
     refine⟨hκi,fun kk=>?_,fun k1 k2 b h2 h3=>?_⟩
     ·unfold rset
      by_cases hk:kk=k
      ·rw[if_pos hk];exact⟨hown,hl,fun b hb=> .inr ⟨rfl,hb⟩,h1⟩
      ·rw[if_neg hk]
       exact(hrows kk).goes rfl fun b hb h2 h3=>⟨.inl h2,hblk b h3 fun h4=>hk (hdis kk k b hb h4)⟩
     ·unfold rset at h2 h3
      by_cases hk1:k1=k
      ·by_cases hk2:k2=k
       ·rw[hk1,hk2]
       ·rw[if_pos hk1] at h2
        rw[if_neg hk2] at h3
        rcases hnew b h2 with h4|h4
        ·exact hk1.trans (hdis k k2 b h4 h3)
        ·exact absurd (hFl b ⟨i,hF k2 b h3⟩) (by omega)
      ·by_cases hk2:k2=k
       ·rw[if_neg hk1] at h2
        rw[if_pos hk2] at h3
        rcases hnew b h3 with h4|h4
        ·exact(hdis k1 k b h2 h4).trans hk2.symm
        ·exact absurd (hFl b ⟨i,hF k1 b h2⟩) (by omega)
       ·rw[if_neg hk1] at h2
        rw[if_neg hk2] at h3
        exact hdis k1 k2 b h2 h3
    ·rw[if_neg e'] at h
     exact(r.obj j x h).goes G rfl (fun b hb=>hnF b (r.lo j b ⟨x,h⟩ hb).2 (r.fr.Fs_own ⟨x,h⟩ hb)) fun b h2 h3=>⟨.inl h2,hblk b h3 fun h4=>e' ((r.fr.2 j b h2).2.2.2.2 i (hF k b h4))⟩
   inj:=fun i' j b h2 h3=>r.inj i' j b ((hlive i').1 h2) ((hlive j).1 h3)
   lo:=fun j b h2 h3=>by have:=r.lo j b ((hlive j).1 h2) h3;exact⟨this.1,Nat.lt_of_lt_of_le this.2 t.size⟩
   nx:=fun j h=>r.nx j ((hlive j).1 h)
   wt:=fun kk hk=>⟨fun b hb=>⟨((r.wt kk hk).1 b hb).1,(hblk b (wt_lt ((r.wt kk hk).1 b hb)) (fun h4=>(r.fr.2 i b (hF k b h4)).1.2 kk hk hb)).trans ((r.wt kk hk).1 b hb).2⟩,fun j b hj hor=>(r.wt kk hk).2 j b ((hlive j).1 hj) (hor.imp (hlr j).1 id)⟩
   below:=r.below_turn t (fun b hb=>(r.fr.2 i b (hF k b hb)).1.1)
   hB:=Nat.le_trans r.hB t.size
   N0:=r.N0
   mkf:=r.mkf
   fr:=by
    refine⟨fun b hb=>?_,fun j b hb=>?_⟩
    ·obtain⟨h2,h3,h4⟩:=r.fr.1 b hb
     refine⟨h2,(hnF b (r.fr.old hb) fun⟨j,hj⟩=>(r.fr.2 j b hj).2.2.1 hb).trans h3,fun j hj=>h4 j ((hlive j).1 hj)⟩
    ·have hcase:κ.F j b∨(j=i∧v'.ownBlock=some b∧w.heap.size≤b):=by
      rcases hb with h2|⟨rfl,h2⟩
      ·exact .inl h2
      ·rcases hnew b h2 with h3|h3
       ·exact .inl (hF k b h3)
       ·exact .inr ⟨rfl,h2,h3⟩
     rcases hcase with h2|⟨rfl,h2,h3⟩
     ·obtain⟨h4,h5,h6,h7,h8⟩:=r.fr.2 j b h2
      exact⟨h4,Nat.lt_of_lt_of_le h5 t.size,h6,fun j' hj'=>h7 j' ((hlive j').1 hj'),fun j' hj'=>h8 j' (hold j' b hj' h5)⟩
     ·refine⟨⟨(hv'lt b h2).2,fun kk hk hb=>by have:=wt_lt ((r.wt kk hk).1 b hb);omega⟩,(hv'lt b h2).1,fun h4=>?_,fun j' hj' h4=>?_,fun j' hj'=>?_⟩
      ·have:=r.fr.old h4;omega
      ·have:=r.lo j' b ((hlive j').1 hj') h4;omega
      ·rcases hj' with h4|⟨rfl,_⟩
       ·have:=hFl b ⟨j',h4⟩;omega
       ·rfl}
theorem pool_hdr (r:Rel g δ κ a w) {i:Nat} {e:TypeId} {rows:PRows} (ho:δ.ob i=some (.pool e rows)) (k:Nat):w.ownsRow g.B e 1 (rows k).1 (rows k).2.length (rows k).2:=((r.obj i _ ho).2.1 k).1
theorem pool_lt (r:Rel g δ κ a w) {i:Nat} {e:TypeId} {rows:PRows} (ho:δ.ob i=some (.pool e rows)) {k b:Nat} (hb:(rows k).1.ownBlock=some b):b<w.heap.size∧∀j,δ.lr j→κ j≠some b:=by
 have hF:=((r.obj i _ ho).2.1 k).2.2.1 b hb
 exact⟨r.fr.Fs_lt ⟨i,hF⟩,fun j hj e=>r.fr.Fs_own (DS.lr_live hj) e ⟨i,hF⟩⟩
theorem AOps.pool_len {x:Operand} {t e':TypeId} (i k:Nat) {e:TypeId} {rows:PRows} {H:Value} {ys:List Value} (ho:δ.ob i=some (.pool e rows)) (hk:rows k=(H,ys)) (hx:δ.ev x=.pv (.lit H)) (ht:P.underlying t=some (.slice e')) (hox:okT x=true) (hd:okD δ.n dst=true)
  (hK:AOps q P g ops rest Q (δ.putd dst (litI (ys.length:Nat)))):AOps q P g ops (⟨dst,.call {callee:=.builtin .len,args:= #[x],argTypes:= #[t]},ty,pos,af,none⟩::rest) Q δ:=
 AOps.valw _ hd (fun κ a w r=>by
  have h0:=pool_hdr r ho k
  rw[hk] at h0
  simp only at h0
  have hv:a.eval x=H:=r.lit hx hox
  rcases h0.2 with ⟨h1,h2⟩|⟨b,cap,cur,h1,_⟩
  ·exact⟨_,fun w' _=>run_len_slice ht x a.eval none _ 0 (hv.trans (by rw[h1,h2])) w',.pv (.lit _)⟩
  ·exact⟨_,fun w' _=>run_len_slice ht x a.eval _ _ cap (hv.trans h1) w',.pv (.lit _)⟩) hK
theorem AOps.pool_index {x y:Operand} {t e':TypeId} (i k:Nat) {n:Nat} {ik:IntKind} {e:TypeId} {rows:PRows} {H:Value} {ys:List Value} (ho:δ.ob i=some (.pool e rows)) (hk:rows k=(H,ys)) (hx:δ.ev x=.pv (.lit H)) (hy:δ.ev y=.pv (.lit (.int ik (n:Int)))) (hn:n<ys.length)
  (ht:P.underlying t=some (.slice e')) (hs:(P.info? e').map (·.size)=some 1) (hox:okT x=true) (hoy:okT y=true) (hd:okD δ.n dst=true)
  (hK:AOps q P g ops rest Q (δ.putd dst (.pv (.lit (hdPtr n H))))):AOps q P g ops (⟨dst,.indexAddr t x y,ty,pos,af,none⟩::rest) Q δ:=
 AOps.valw _ hd (fun κ a w r=>by
  have h0:=pool_hdr r ho k
  rw[hk] at h0
  simp only at h0
  have hv:a.eval x=H:=r.lit hx hox
  rcases h0.2 with ⟨h1,h2⟩|⟨b,cap,cur,h1,_⟩
  ·exfalso;omega
  ·subst h1
   refine⟨_,fun w' _=>?_,.pv (.lit _)⟩
   have:=run_indexAddr_slice (dst:=dst) (ty:=ty) (pos:=pos) (af:=af) ht hs hv (r.lit hy hoy) hn w'
   rw[Nat.mul_one] at this
   exact this) hK
theorem AOps.pool_load {x:Operand} {t:TypeId} (i k:Nat) {n:Nat} {e:TypeId} {rows:PRows} {H u:Value} {ys:List Value} (ho:δ.ob i=some (.pool e rows)) (hk:rows k=(H,ys)) (hx:δ.ev x=.pv (.lit (hdPtr n H))) (hu:ys[n]? =some u)
  (ht:scalarT P t=true) (hox:okT x=true) (hd:okD δ.n dst=true) (hq:q≠ .held) (hK:AOps q P g ops rest Q (δ.putd dst (.pv (.lit u)))):AOps q P g ops (⟨dst,.load t x,ty,pos,af,none⟩::rest) Q δ:=
 AOps.valB _ hq rfl rfl hd (fun κ a w r=>by
  have h0:=pool_hdr r ho k
  have hlt:=fun b hb=>pool_lt r ho (k:=k) (b:=b) hb
  rw[hk] at h0 hlt
  simp only at h0 hlt
  have hv:a.eval x=hdPtr n H:=r.lit hx hox
  have hnl:n<ys.length:=(List.getElem?_eq_some_iff.1 hu).1
  have h0':=h0
  rcases h0.2 with ⟨h1,h2⟩|⟨b,cap,cur,h1,_⟩
  ·exfalso;omega
  ·subst h1
   have h3:=h0'.cellAt (n*1) (by omega)
   rw[Nat.mul_one] at h3
   have hv2:a.eval x=.pointer (some ⟨b,n,none⟩):=hv.trans (by simp [hdPtr])
   obtain⟨h4,h5⟩:=hlt b rfl
   exact⟨u,fun w' hw'=>run_load_scalar ht hv2 ((hw'.cell (p:=⟨b,n,none⟩) h4).trans (h3.trans hu)),.pv (.lit _)⟩) hK
theorem Eff.pool_store {x y:Operand} {t:TypeId} (i k:Nat) {n:Nat} {e:TypeId} {rows:PRows} {H u:Value} {ys:List Value} (ho:δ.ob i=some (.pool e rows)) (hk:rows k=(H,ys)) (hx:δ.ev x=.pv (.lit (hdPtr n H))) (hn:n<ys.length) (hy:δ.ev y=.pv (.lit u))
  (hu:u.oneCell'=true) (ht:(P.info? t).map (·.size)=some 1) (hox:okT x=true) (hoy:okT y=true) (hd:okD δ.n dst=true):
  Eff P g ⟨dst,.store t x y,ty,pos,af,gd⟩ δ ((δ.setOb i (some (.pool e (rset rows k (H,ys.set n u))))).putd dst .any):=by
 intro κ a w r
 have h0:=pool_hdr r ho k
 have hl:=((r.obj i _ ho).2.1 k).2.1
 have h1c:=((r.obj i _ ho).2.1 k).2.2.2
 rw[hk] at h0 hl h1c
 simp only at h0 hl h1c
 have hv:a.eval x=hdPtr n H:=r.lit hx hox
 have hyv:a.eval y=u:=r.lit hy hoy
 rcases h0.2 with ⟨h1,h2⟩|⟨b,cap,cur,h1,hB,h3,hle,hcm,hcs,htk⟩
 ·exfalso;omega
 ·subst h1
  have hv2:a.eval x=.pointer (some ⟨b,n,none⟩):=hv.trans (by simp [hdPtr])
  have hrun:(execOp a.eval ⟨dst,.store t x y,ty,pos,af,gd⟩).run P w=.ok .skip (w.setCell ⟨b,n,none⟩ u):=by
   obtain⟨i0,hi0,hs0⟩:∃i0,P.info? t=some i0∧i0.size=1:=by
    cases h:P.info? t with
    |none=>rw[h] at ht;simp at ht
    |some i0=>rw[h] at ht;exact⟨i0,rfl,by simpa using ht⟩
   have hc:w.cell? ⟨b,n,none⟩=some (cur[n]'(by omega)):=by rw[cell_of h3,Array.getElem?_eq_getElem (by omega)]
   have hst:(store ⟨b,n,none⟩ u).run P w=.ok () (w.setCell ⟨b,n,none⟩ u):=by
    rw[run_store P w _ _ _ hu,hc];simp [frozen_of h3]
   simp [execOp,Instr.storeAt,Instr.sureAddr,storeVar,hv2,hyv,cells_one hu,sizeOf,typeInfo,hi0,hs0,storeCells,addr_add,hst]
  have hob:(rows k).1.ownBlock=some b:=by rw[hk];rfl
  obtain⟨κ',r',_⟩:=r.pool_turn ho (k:=k) (w':=w.setCell ⟨b,n,none⟩ u) (by rw[hob];exact Turns.setCell w ⟨b,n,none⟩ u) (v':=.slice (some ⟨b,0,none⟩) ys.length cap) (ys:=ys.set n u)
   (by
    rw[List.length_set]
    refine⟨by simp,.inr ⟨b,cap,_,rfl,hB,setCell_heap h3 _,hle,hcm,by simpa using hcs,?_⟩⟩
    rw[Nat.mul_one] at htk ⊢
    rw[Array.toList_setIfInBounds,List.take_set,htk])
   (by rw[List.length_set];exact hl)
   (fun v hv=>by
    rcases List.mem_or_eq_of_mem_set hv with hv|rfl
    ·exact h1c v hv
    ·exact hu)
   (fun b' hb'=> .inl (by rw[hob];exact hb'))
  exact .inl ⟨_,_,_,κ',hrun,.inr ⟨rfl,rfl⟩,r'.putd (okD_spec hd) (.any _)⟩
theorem AOps.pool_store {x y:Operand} {t:TypeId} (i k:Nat) {n:Nat} {e:TypeId} {rows:PRows} {H u:Value} {ys:List Value} (ho:δ.ob i=some (.pool e rows)) (hk:rows k=(H,ys)) (hx:δ.ev x=.pv (.lit (hdPtr n H))) (hn:n<ys.length) (hy:δ.ev y=.pv (.lit u))
  (hu:u.oneCell'=true) (ht:(P.info? t).map (·.size)=some 1) (hox:okT x=true) (hoy:okT y=true) (hd:okD δ.n dst=true) (hK:AOps .plain P g ops rest Q ((δ.setOb i (some (.pool e (rset rows k (H,ys.set n u))))).putd dst .any)):
  AOps .plain P g ops (⟨dst,.store t x y,ty,pos,af,none⟩::rest) Q δ:=AOps.eff rfl rfl (Eff.pool_store i k ho hk hx hn hy hu ht hox hoy hd) hK
end Go.Ab
