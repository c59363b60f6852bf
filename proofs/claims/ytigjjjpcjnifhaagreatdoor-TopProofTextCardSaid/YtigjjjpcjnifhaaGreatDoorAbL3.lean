/- In the midst of a region that draws its order: operations that only read are taken in one order; the watch over memory begins anew. -/
import Derived.Test.YtigjjjpcjnifhaaGreatDoorAbL2
import Derived.Sort.Row
import Derived.Sort.Grow
import Derived.Lib.AppendZeros
import Derived.Lib.AppendStr
set_option linter.unusedSimpArgs false
set_option linter.unusedVariables false
namespace Go.Ab
open Go Go.RowKit
variable {P:Program} {g:e6} {δ:DS} {k:Wt} {late:List Nat} {l:List Oper} {dn:List Nat} {QD:Exit→DS→Prop} {ro:Option Nat}
def sS (ops:Array Oper) (i j:Nat):Bool:=match ops[j]? with
 |some o=>o.after.any fun e=>Region.binds .any e && e.on==i
 |none=>false
theorem xU {ops:Array Oper} {i j n:Nat} (h:sS ops i j=true):oR ops i (n+1) j=true:=by
 unfold sS at h
 unfold oR
 cases ho:ops[j]? with
 |none=>rw[ho] at h;cases h
 |some o=>
  rw[ho] at h
  simp only at h ⊢
  obtain⟨e,he,hb⟩:=Array.any_eq_true'.1 h
  refine Array.any_eq_true'.2 ⟨e,he,?_⟩
  simp only[Bool.and_eq_true,Bool.or_eq_true] at hb ⊢
  exact⟨hb.1,.inl hb.2⟩
def t_ (l:List Oper) (late:List Nat):List Nat→List Nat→Bool
 |[],_=>true
 |i::r,dn=>wc l late dn i && late.all (fun j=>sS l.toArray i j||oR l.toArray i l.length j) && t_ l late r (i::dn)
theorem oK:∀(l2 dn:List Nat),t_ l late l2 dn=true→tW l late l2 dn=true
 |[],_,_=>rfl
 |i::r,dn,h=>by
  unfold t_ at h
  unfold tW
  simp only[Bool.and_eq_true] at h ⊢
  refine⟨⟨h.1.1,List.all_eq_true.2 fun j hj=>?_⟩,oK r _ h.2⟩
  have h1:=(List.all_eq_true.1 h.1.2) j hj
  rcases Bool.or_eq_true _ _▸h1 with h2|h2
  ·cases hl:l.length with
   |zero=>simp only[List.length_eq_zero_iff] at hl;subst hl;simp [sS] at h2
   |succ n=>exact xU h2
  ·exact h2
theorem AR.reads (l2:List Nat) (hB:t_ l late l2 dn=true) (hL:gW late (gG l.length dn)=false) (hle:Nat.ble (l2.length+dn.length) l.length=true)
  (h:∀g':e6,Gs g' g→a_ .held P g' l.toArray (pick l l2) (jY fun δ'=>∀k':Wt,k'.2.2=δ.nx→AR P g k' late l QD (l2.reverse++dn) δ') δ):AR P g k late l QD dn δ:=by
 intro uV κ a w r
 have GZ:l2.length+dn.length≤l.length:=by simpa using hle
 have h1:=h (A3 g k late (gG l.length dn)) ⟨rfl,rfl,rfl⟩ κ a w r
 have je:=r.wt k (show(if gW late (gG l.length dn)=true then none else some k)=some k by rw[hL];rfl)
 obtain⟨k',hk⟩:∃k':Wt,k'=(w,(fun b=>b<w.heap.size∧((∀i,δ.lr i→κ i≠some b)∧¬κ.Fs b)),δ.nx):=⟨_,rfl⟩
 have kB:∀listed w',A6 k' late listed w'→A6 k late listed w':=by
  intro listed w' h3 hl b hb
  obtain⟨h4,h5⟩:=je.1 b hb
  have h6:b<w.heap.size:=by
   rw[Array.getElem?_eq_getElem h4] at h5
   exact(Array.getElem?_eq_some_iff.1 h5).1
  have h7:k'.2.1 b:=by
   rw[hk]
   exact⟨h6,fun i hi hκ=>je.2 i b ⟨_,hi⟩ (.inl hi) hκ hb,fun⟨j,hj⟩=>(r.fr.2 j b hj).1.2 k (show(if gW late (gG l.length dn)=true then none else some k)=some k by rw[hL];rfl) hb⟩
  have h8:=(h3 hl b h7).2
  rw[hk] at h8
  exact⟨h4,h8.trans h5⟩
 have Tc:∀(fuel:Nat) (listed:Array Bool) (a:Act) (w':World),nT g.ro P l.toArray (qW g QD) (A6 k' late) fuel listed a w'→nT g.ro P l.toArray (qW g QD) (A6 k late) fuel listed a w':=by
  intro fuel
  induction fuel with
  |zero=>intro _ _ _ h;exact h
  |succ fuel ih=>intro listed a w' h;exact⟨h.1,fun i hi=>wpOpIn_mono (fun a' w'' h'=>⟨kB _ _ h'.1,ih _ _ _ h'.2⟩) (h.2 i hi)⟩
 have Wu:l.length - dn.length=l2.length+(l.length - (l2.reverse++dn).length):=by simp;omega
 rw[Wu]
 have nU:A6 k' late (gG l.length dn) w:=fun _ b hb=>by subst hk;exact⟨hb.1,rfl⟩
 refine Tc _ _ _ _ (K_ (ro:=g.ro) (g:=g) (QD:=QD) (late:=late) (l:=l) (P:=P) (δ0:=δ) (κ1:=κ) (w1:=w) (k:=k') (by rw[hk]) (by rw[hk]) (N:=l.length - (l2.reverse++dn).length) l2 dn a (oK _ _ hB) uV nU h1 (fun a' LS uT=>?_))
 obtain⟨δ',hq,Gb,r2⟩:=LS
 refine hq k' (by rw[hk]) uT κ a' w ?_
 have js:∀i,δ'.ob i=δ.ob i:=fun i=>by unfold DS.ob;rw[Gb]
 refine Rel.NZ (g:=A3 g k late (gG l.length dn)) r2 (wt':=if gW late (gG l.length (l2.reverse++dn))=true then none else some k') (fun k'' lO=>?_) (fun k'' lO b hb xT=>?_)
 rotate_left
 ·split at lO
  ·cases lO
  ·cases lO
   subst hk
   exact xT.2.2 hb
 split at lO
 ·cases lO
 ·cases lO
  subst hk
  refine⟨fun b hb=>⟨hb.1,rfl⟩,fun i b yz v7 hκ hb=>?_⟩
  rcases v7 with v7|v7
  ·exact hb.2.1 i (by have:δ'.ob i=some .row:=v7;rw[js] at this;exact this) hκ
  ·obtain⟨o,yz⟩:=yz
   rw[js] at yz
   exact absurd (r.nx i ⟨o,yz⟩) (Nat.not_lt.2 v7)
end Go.Ab
/- A part of a box,loaded as a whole. -/
namespace Go.Ab
open Go Go.RowKit
inductive Sub:Nat→Nat→List AV→List AV→Prop where
 |nil {l}:Sub 0 0 l []
 |take {n a l vs}:Sub 0 n l vs→Sub 0 (n+1) (a::l) (a::vs)
 |skip {k n a l vs}:Sub k n l vs→Sub (k+1) n (a::l) vs
theorem Sub.spec {k n:Nat} {l vs:List AV} (h:Sub k n l vs):(l.drop k).take n=vs∧k+n≤l.length:=by
 induction h with
 |nil=>simp
 |take _ ih=>simp at ih ⊢;exact⟨ih.1,ih.2⟩
 |skip _ ih=>simp at ih ⊢;exact⟨ih.1,by omega⟩
variable {q:Md} {P:Program} {g:e6} {δ:DS} {ops:Array Oper} {rest:List Oper} {Q:Exit→DS→Prop} {dst:Option Nat} {ty:TypeId} {pos:String} {af:Array Edge}
theorem a_.zZ {x:Operand} {t:TypeId} {i off n:Nat} {cells vs:List AV} (hx:δ.ev x=.ptr i off) (hb:δ.ob i=some (.box cells)) (hn:(P.info? t).map (·.size)=some n) (hs:Sub off n cells vs) (ht:zU P t n=true) (ho:fq x=true) (hd:fR δ.n dst=true)
  (hK:a_ q P g ops rest Q (δ.eY dst (.agg vs))):a_ q P g ops (⟨dst,.load t x,ty,pos,af,none⟩::rest) Q δ:=
 a_.E1 (n:=n) hx hb ht (by simpa using hs.spec.2) ho hd (by rw[hs.spec.1];exact hK)
theorem a_.QA {x y z:Operand} {b:Bool} {v:PV} (hx:δ.ev x=fu b) (hy:δ.ev y=.pv v) (hb:b=true) (ho:fq x=true) (kW:fq y=true) (rZ:fq z=true) (hd:fR δ.n dst=true)
  (hK:a_ q P g ops rest Q (δ.eY dst (.pv v))):a_ q P g ops (⟨dst,.pick x y z,ty,pos,af,none⟩::rest) Q δ:=a_.iM (hb▸hx) hy ho kW rZ hd hK
theorem a_.ER {x y z:Operand} {b:Bool} {v:PV} (hx:δ.ev x=fu b) (hz:δ.ev z=.pv v) (hb:b=false) (ho:fq x=true) (kW:fq y=true) (rZ:fq z=true) (hd:fR δ.n dst=true)
  (hK:a_ q P g ops rest Q (δ.eY dst (.pv v))):a_ q P g ops (⟨dst,.pick x y z,ty,pos,af,none⟩::rest) Q δ:=a_.iy (hb▸hx) hz ho kW rZ hd hK
variable {gd:Option (Tmp×Bool)}
theorem iQ.Bn {t e:TypeId} {x0:Operand} {p0 p1 p2:PV} {z:Value} (ht:P.underlying t=some (.slice e)) (h0:δ.ev x0=.agg [.pv p0,.pv p1,.pv p2]) (hi:(P.info? e).map (fun i=>(i.size,i.zero))=some (3,some z)) (hz:z.cells.toList.all (·.oneCell')=true) (mh:Nat.beq z.cells.size 3=true)
  (k0:AV.one (.pv p0)=true) (k1:AV.one (.pv p1)=true) (k2:AV.one (.pv p2)=true) (o0:fq x0=true) (hd:fR δ.n dst=true):iQ P g ⟨dst,.buildSlice t 1 [(0,x0)].toArray,ty,pos,af,gd⟩ δ ((δ.fN .row).eY dst (.own δ.nx e 3 [[p0,p1,p2]])):=by
 have hf:jz (fun i=>some (i*3,3)) (j7 z (1*3)) (([(0,x0)]:List (Nat×Operand)).map fun p=>(p.1,δ.ev p.2))=some [.pv p0,.pv p1,.pv p2]:=by
  simp [jz,nM,AV.cellsOf,AV.nB,j7,h0,k0,k1,k2]<;>rfl
 exact iQ.buildSlice (len:=1) (k:=3) (parts:=[(0,x0)]) (cells:=[.pv p0,.pv p1,.pv p2]) ht hi mh rfl rfl hz (by simp [o0]) hf (by simp [AV.Ak]) hd
theorem a_.Bn {t e:TypeId} {x0:Operand} {p0 p1 p2:PV} {z:Value} (ht:P.underlying t=some (.slice e)) (h0:δ.ev x0=.agg [.pv p0,.pv p1,.pv p2]) (hi:(P.info? e).map (fun i=>(i.size,i.zero))=some (3,some z)) (hz:z.cells.toList.all (·.oneCell')=true) (mh:Nat.beq z.cells.size 3=true)
  (k0:AV.one (.pv p0)=true) (k1:AV.one (.pv p1)=true) (k2:AV.one (.pv p2)=true) (o0:fq x0=true) (hd:fR δ.n dst=true) (hK:a_ .plain P g ops rest Q ((δ.fN .row).eY dst (.own δ.nx e 3 [[p0,p1,p2]]))):
  a_ .plain P g ops (⟨dst,.buildSlice t 1 [(0,x0)].toArray,ty,pos,af,none⟩::rest) Q δ:=a_.qA rfl rfl (iQ.Bn ht h0 hi hz mh k0 k1 k2 o0 hd) hK
end Go.Ab
/- The checks over a region's orders,quick for the kernel:what is listed lies as the bits of one number. -/
namespace Go.Ab
open Go Go.RowKit
variable {P:Program} {g:e6} {δ:DS} {k:Wt} {late:List Nat} {l:List Oper} {dn:List Nat} {QD:Exit→DS→Prop}
def jx (n:Nat):List Nat→Nat
 |[]=>0
 |i::d=>bif Nat.blt i n then jx n d|||(1<<<i) else jx n d
theorem kj {n:Nat}:∀{d:List Nat} {j:Nat},(jx n d).testBit j=(gG n d).getD j false
 |[],j=>by
  show Nat.testBit 0 j=(Array.replicate n false).getD j false
  rw[Nat.zero_testBit]
  simp [Array.getD_eq_getD_getElem?,Array.getElem?_replicate]
  split<;>rfl
 |i::d,j=>by
  show(bif Nat.blt i n then jx n d|||(1<<<i) else jx n d).testBit j=((gG n d).setIfInBounds i true).getD j false
  rw[Ks]
  have ny:(gG n d).size=n:=by
   clear j
   induction d with
   |nil=>simp [gG]
   |cons i d ih=>simp [gG,ih]
  by_cases hi:i<n
  ·have hb:Nat.blt i n=true:=by simpa using hi
   rw[hb,cond_true,Nat.testBit_or,kj,Nat.one_shiftLeft,Nat.testBit_two_pow]
   by_cases r9:i=j
   ·subst r9;simp [ny,hi]
   ·simp [r9]
  ·have hb:Nat.blt i n=false:=by
    cases h:Nat.blt i n with
    |false=>rfl
    |true=>exact absurd (by simpa using h) hi
   rw[hb,cond_false,kj]
   by_cases r9:i=j
   ·subst r9
    rw[if_pos rfl,if_neg aJ]
    simp [Array.getD_eq_getD_getElem?,Array.getElem?_eq_none (by omega:(gG n d).size≤i)]
   ·rw[if_neg r9]
def pY (m:Nat) (o:Oper):Bool:=o.after.toList.all fun e=>!Region.binds .any e||m.testBit e.on
def lJ (m:Nat):Nat→List Oper→List Nat
 |_,[]=>[]
 |j,o::r=>bif !m.testBit j && pY m o then j::lJ m (j+1) r else lJ m (j+1) r
theorem qR (m:Nat):∀(l:List Oper) (j:Nat),lJ m j l=((List.range l.length).filter fun i=>!m.testBit (j+i) && ((l[i]?).map (pY m)).getD false).map (j+·)
 |[],_=>rfl
 |o::r,j=>by
  rw[List.length_cons,List.range_succ_eq_map,List.filter_cons,lJ,qR m r (j+1)]
  simp only[Nat.add_zero,List.getElem?_cons_zero,Option.map_some,Option.getD_some,List.filter_map]
  have e:(List.map (fun x=>j+x) (List.map Nat.succ (List.filter ((fun i=>!m.testBit (j+i) && (Option.map (pY m) (o::r)[i]?).getD false)∘Nat.succ) (List.range r.length))))=List.map (fun x=>j+1+x) (List.filter (fun i=>!m.testBit (j+1+i) && (Option.map (pY m) r[i]?).getD false) (List.range r.length)):=by
   rw[List.map_map]
   have e2:((fun i=>!m.testBit (j+i) && (Option.map (pY m) (o::r)[i]?).getD false)∘Nat.succ)=(fun i=>!m.testBit (j+1+i) && (Option.map (pY m) r[i]?).getD false):=by
    funext i
    simp only[Function.comp,Nat.succ_eq_add_one,List.getElem?_cons_succ]
    rw[show j+(i+1)=j+1+i by omega]
   rw[e2]
   apply List.map_congr_left
   intro i _
   simp only[Function.comp,Nat.succ_eq_add_one]
   omega
  cases (!m.testBit j && pY m o) with
  |true=>simp only[cond_true,if_true,List.map_cons,Nat.add_zero];rw[e]
  |false=>simp only[cond_false,Bool.false_eq_true,if_false];rw[e]
theorem yE:Region.ready .any l.toArray (gG l.length dn)=lJ (jx l.length dn) 0 l:=by
 rw[qR]
 unfold Region.ready
 simp only[Nat.zero_add,List.size_toArray]
 rw[show(fun x:Nat=>x)=id from rfl,List.map_id]
 apply List.filter_congr
 intro i hi
 have uq:i<l.length:=List.mem_range.1 hi
 have e1:(gG l.length dn).getD i true=(jx l.length dn).testBit i:=by
  rw[kj]
  have ny:(gG l.length dn).size=l.length:=by
   clear hi uq
   generalize l.length=n
   induction dn with
   |nil=>simp [gG]
   |cons i d ih=>simp [gG,ih]
  rw[Array.getD_eq_getD_getElem?,Array.getD_eq_getD_getElem?,Array.getElem?_eq_getElem aJ];rfl
 rw[e1]
 congr 1
 rw[List.getElem?_toArray]
 congr 2
 funext o
 unfold pY
 rw[← Array.all_toList]
 congr 1
 funext e
 rw[kj]
theorem mS {rs:List Nat} (h:(lJ (jx l.length dn) 0 l==rs)=true):lV l dn rs=true:=by
 unfold lV;rw[yE];exact h
def BP (late:List Nat) (m:Nat):Bool:=late.any m.testBit
theorem wA:gW late (gG l.length dn)=BP late (jx l.length dn):=by
 unfold gW BP
 congr 1
 funext j
 rw[kj]
def FD (ops:Array Oper) (m i:Nat) (oi:Oper):Nat→List Oper→Bool
 |_,[]=>true
 |j,o::r=>(Nat.beq j i||m.testBit j||o.after.toList.any (fun e=>Region.binds .any e && Nat.beq e.on i)||oi.apart ops o) && FD ops m i oi (j+1) r
theorem vS {ops:Array Oper} {m i:Nat} {oi:Oper}:∀{l:List Oper} {j:Nat},FD ops m i oi j l=true→∀(x:Nat) (o:Oper),l[x]? =some o→(j+x==i||m.testBit (j+x)||(o.after.any (fun e=>Region.binds .any e && e.on==i)||oi.apart ops o))=true
 |[],_,_,x,o,h=>by simp at h
 |o'::r,j,h,x,o,hx=>by
  unfold FD at h
  rw[Bool.and_eq_true] at h
  cases x with
  |zero=>
   simp only[List.getElem?_cons_zero,Option.some.injEq] at hx
   subst hx
   have h1:=h.1
   simp only[Nat.add_zero]
   rw[← Array.any_toList]
   simpa [Bool.or_assoc] using h1
  |succ x=>
   rw[List.getElem?_cons_succ] at hx
   have:=vS h.2 x o hx
   rwa [show j+1+x=j+(x+1) by omega] at this
def Kc (l:List Oper) (late:List Nat) (m:Nat) (i:Nat):Bool:=
 (lJ m 0 l).contains i && (match l[i]? with|some oi=>FD l.toArray m i oi 0 l|none=>false) && !late.contains i
def firstM (l:List Oper) (late:List Nat):List Nat→List Nat→Bool
 |[],_=>true
 |i::r,dn=>Kc l late (jx l.length dn) i && late.all (fun j=>sS l.toArray i j||oR l.toArray i l.length j) && firstM l late r (i::dn)
def Bh (l:List Oper):Bool:=Region.noSelect l.toArray && l.all jP
theorem EC {i:Nat} (hf:Bh l=true) (hl:Nat.blt dn.length l.length=true) (h:Kc l late (jx l.length dn) i=true):wc l late dn i=true:=by
 unfold Bh at hf
 unfold Kc at h
 unfold wc
 simp only[Bool.and_eq_true] at hf h ⊢
 refine⟨⟨⟨⟨hf,by rw[yE];exact h.1.1⟩,?_⟩,h.2⟩,hl⟩
 have h2:=h.1.2
 unfold Region.free
 rw[List.getElem?_toArray]
 cases ho:l[i]? with
 |none=>rw[ho] at h2;cases h2
 |some oi=>
  rw[ho] at h2
  simp only at h2 ⊢
  rw[List.all_eq_true]
  intro j hj
  have n8:j<l.length:=by simpa using hj
  have h3:=vS h2 j _ (List.getElem?_eq_getElem n8)
  rw[Nat.zero_add,kj] at h3
  have ny:(gG l.length dn).size=l.length:=by
   clear hf h h2 h3 hl
   generalize l.length=n
   induction dn with
   |nil=>simp [gG]
   |cons i d ih=>simp [gG,ih]
  have e1:(gG l.length dn).getD j true=(gG l.length dn).getD j false:=by
   rw[Array.getD_eq_getD_getElem?,Array.getD_eq_getD_getElem?,Array.getElem?_eq_getElem aJ];rfl
  rw[e1,List.getElem?_toArray,List.getElem?_eq_getElem n8]
  exact h3
theorem oL (hf:Bh l=true):∀(l2 dn:List Nat),Nat.ble (l2.length+dn.length) l.length=true→firstM l late l2 dn=true→t_ l late l2 dn=true
 |[],_,_,_=>rfl
 |i::r,dn,hle,h=>by
  unfold firstM at h
  unfold t_
  simp only[Bool.and_eq_true] at h ⊢
  have GZ:(i::r).length+dn.length≤l.length:=by simpa using hle
  simp only[List.length_cons] at GZ
  exact⟨⟨EC hf (by simp;omega) h.1.1,h.1.2⟩,oL hf r _ (by simp;omega) h.2⟩
theorem AR.iI (l2:List Nat) (hf:Bh l=true) (hB:firstM l late l2 dn=true) (hL:BP late (jx l.length dn)=false) (hle:Nat.ble (l2.length+dn.length) l.length=true)
  (h:∀g':e6,Gs g' g→a_ .held P g' l.toArray (pick l l2) (jY fun δ'=>∀k':Wt,k'.2.2=δ.nx→AR P g k' late l QD (l2.reverse++dn) δ') δ):AR P g k late l QD dn δ:=
 AR.reads l2 (oL hf _ _ hle hB) (by rw[wA];exact hL) hle h
theorem AR.JE (je:g.wt=none) (hr:(lJ (jx l.length dn) 0 l==[])=true) (h:QD .normal δ):AR P g k late l QD dn δ:=AR.done je (mS hr) h
theorem AR.fM {i:Nat} {o:Oper} (hl:Nat.blt dn.length l.length=true) (hr:(lJ (jx l.length dn) 0 l==[i])=true) (ho:l[i]? =some o)
  (h:∀g':e6,Gs g' g→(∀j,k.2.2≤j→g'.nF j)→a_ .plain P g' l.toArray [o] (jY (AR P g k late l QD (i::dn))) δ):AR P g k late l QD dn δ:=AR.step1 hl (mS hr) ho h
theorem AR.gY {i:Nat} {o:Oper} (hl:Nat.blt dn.length l.length=true) (hr:(lJ (jx l.length dn) 0 l==[i])=true) (ho:l[i]? =some o) (fx:BP late (jx l.length (i::dn))=true)
  (h:∀g':e6,Gs g' g→g'.wt=none→a_ .plain P g' l.toArray [o] (jY (AR P g k late l QD (i::dn))) δ):AR P g k late l QD dn δ:=AR.vW hl (mS hr) ho (by rw[wA];exact fx) h
theorem AR.gX {i j:Nat} {o p:Oper} (hl:Nat.blt dn.length l.length=true) (hr:(lJ (jx l.length dn) 0 l==[i,j])=true) (ho:l[i]? =some o) (hp:l[j]? =some p)
  (h:∀g':e6,Gs g' g→(∀j,k.2.2≤j→g'.nF j)→a_ .plain P g' l.toArray [o] (jY (AR P g k late l QD (i::dn))) δ)
  (h':∀g':e6,Gs g' g→(∀j,k.2.2≤j→g'.nF j)→a_ .plain P g' l.toArray [p] (jY (AR P g k late l QD (j::dn))) δ):AR P g k late l QD dn δ:=AR.step2 hl (mS hr) ho hp h h'
theorem AW.gB {id:Nat} (l1:List Nat) (late:List Nat) {l:List Oper} (hm:P.follows .mixedOrders=true) (je:g.wt=none) (hf:Bh l=true) (hB:firstM l late l1 []=true) (hle:Nat.ble l1.length l.length=true)
  (h:a_ .held P g l.toArray (pick l l1) (jY fun δ'=>∀k:Wt,k.2.2=δ.nx→AR P g k late l QD l1.reverse δ') δ):AW P g (.region id l.toArray true) QD δ:=
 AW.zM l1 late hm je (oK _ _ (oL hf _ _ (by simpa using hle) hB)) hle h
end Go.Ab
/- A loop's state told by what stays of the state before it and what changes. -/
namespace Go.Ab
open Go Go.RowKit
variable {P:Program} {g:e6} {δ:DS}
def IM (e:List (Nat×AV)):List Nat→List (Nat×AV)
 |[]=>[]
 |k::ks=>(k,look e k)::IM e ks
def II (o:List (Nat×Option Ob)):List Nat→List (Nat×Option Ob)
 |[]=>[]
 |k::ks=>(k,fg o k)::II o ks
def Ed:List (Nat×Option Ob)→Nat→Nat
 |[],n=>n
 |(k,_)::r,n=>Ed r (bif Nat.ble n k then k+1 else n)
namespace Nf
theorem nx0 (n:Nat):Ed [] n=n:=rfl
theorem ZN (k n:Nat) (v:Option Ob) (r:List (Nat×Option Ob)):Ed ((k,v)::r) n=Ed r (bif Nat.ble n k then k+1 else n):=rfl
def ao:List (Nat×Option Ob)→List (Nat×Option Ob)→List (Nat×Option Ob)
 |[],m=>m
 |v::r,m=>v::ao r m
theorem Z5 (m:List (Nat×Option Ob)):ao [] m=m:=rfl
theorem ao1 (v:Nat×Option Ob) (r m:List (Nat×Option Ob)):ao (v::r) m=v::ao r m:=rfl
theorem se0 (e:List (Nat×AV)):IM e []=[]:=rfl
theorem ZT (e:List (Nat×AV)) (k:Nat) (ks:List Nat):IM e (k::ks)=(k,look e k)::IM e ks:=rfl
theorem so0 (e:List (Nat×Option Ob)):II e []=[]:=rfl
theorem so1 (e:List (Nat×Option Ob)) (k:Nat) (ks:List Nat):II e (k::ks)=(k,fg e k)::II e ks:=rfl
set_option linter.defProp false in
def n7:=And.intro @nx0 (And.intro @ZN (And.intro @Z5 (And.intro @ao1 (And.intro @se0 (And.intro @ZT (And.intro @so0 @so1))))))
end Nf
theorem AW.gP {S:Type} {c:Code} {Q:Exit→DS→Prop} (ks os:List Nat) (u:S→List (Nat×AV)) (ou:S→List (Nat×Option Ob)) (I:S→Prop) (μ:S→Nat) (s0:S) {D:S→DS}
  (hD:(fun s=>(⟨δ.n,Nf.ae (u s) (IM δ.env ks),Nf.ao (ou s) (II δ.gq os),Ed (ou s) δ.nx⟩:DS))=D) (hs:I s0) (hw:nV g δ (D s0))
  (round:∀s,I s→AW P g c (ga (fun δ'=>∃s',I s'∧μ s'<μ s∧nV g δ' (D s')) Q) (D s)):AW P g (.loop c) Q δ:=AW.loop D I μ s0 hs hw round
end Go.Ab
/- Quotient and remainder of numbers that are not below zero. -/
namespace Go.Ab
open Go Go.RowKit
variable {q:Md} {P:Program} {g:e6} {δ:DS} {ops:Array Oper} {rest:List Oper} {Q:Exit→DS→Prop} {dst:Option Nat} {ty:TypeId} {pos:String} {af:Array Edge} {x y:Operand} {m n:Int} {t t':TypeId}
end Go.Ab
/- Two objects' names exchanged;the orders of a drawn region brought together again. -/
namespace Go.Ab
open Go Go.RowKit
variable {P:Program} {g:e6} {δ:DS} {κ:Kp} {a:Act} {w:World}
def lx (i j x:Nat):Nat:=bif Nat.beq i x then j else bif Nat.beq j x then i else x
theorem Et (i j x:Nat):lx i j x=if i=x then j else if j=x then i else x:=by
 unfold lx
 by_cases h1:i=x
 ·subst h1;simp
 ·rw[mo h1,if_neg h1]
  by_cases h2:j=x
  ·subst h2;simp
  ·rw[mo h2,if_neg h2];rfl
theorem ju (i j x:Nat):lx i j (lx i j x)=x:=by
 simp only[Et]
 split<;>split<;>(try split)<;>omega
mutual
def AV.sw (i j:Nat):AV→AV
 |.any=> .any
 |.pv p=> .pv p
 |.own x e k fc=> .own (lx i j x) e k fc
 |.ptr x o=> .ptr (lx i j x) o
 |.gp c=> .gp c
 |.gN x e k fc n=> .gN (lx i j x) e k fc n
 |.agg cs=> .agg (AV.xO i j cs)
 |.gM cs=> .gM (AV.xO i j cs)
 |.jJ fn cs ds=> .jJ fn (AV.xO i j cs) (AV.xO i j ds)
 |.gz x=> .gz (lx i j x)
 |.kZ x=> .kZ (lx i j x)
def AV.xO (i j:Nat):List AV→List AV
 |[]=>[]
 |c::cs=>AV.sw i j c::AV.xO i j cs
end
theorem AV.tF (i j:Nat):∀l,AV.xO i j l=l.map (AV.sw i j)
 |[]=>rfl
 |c::cs=>by simp [AV.xO,AV.tF i j cs]
def Ob.sw (i j:Nat):Ob→Ob
 |.row=> .row
 |.box cs=> .box (AV.xO i j cs)
 |.mp l=> .mp (l.map fun p=>(p.1,p.2.sw i j))
 |.mpl l k v=> .mpl (l.map fun p=>(p.1,p.2.sw i j)) k (v.sw i j)
 |.it l seen=> .it l seen
 |.lit T vals=> .lit T vals
 |.ff e rows=> .ff e rows
 |.loop l tm ps jf body st=> .loop l tm ps jf body st
theorem Ob.QP (i j:Nat) (o:Ob):(o.sw i j).isRow=o.isRow:=by cases o<;>rfl
def N9 (i j:Nat):List (Nat×AV)→List (Nat×AV)
 |[]=>[]
 |(x,v)::r=>(x,v.sw i j)::N9 i j r
def ya (i j:Nat):List (Nat×Option Ob)→List (Nat×Option Ob)
 |[]=>[]
 |(x,none)::r=>(lx i j x,none)::ya i j r
 |(x,some o)::r=>(lx i j x,some (o.sw i j))::ya i j r
def DS.sw (δ:DS) (i j:Nat):DS:=⟨δ.n,N9 i j δ.env,ya i j δ.gq,δ.nx⟩
theorem FM (i j:Nat) (k:Nat):∀e,look (N9 i j e) k=(look e k).sw i j
 |[]=>rfl
 |(x,v)::r=>by
  unfold N9
  simp only[fH,FM i j k r]
  split<;>rfl
theorem um (i j:Nat) (k:Nat):∀e,fg (ya i j e) (lx i j k)=(fg e k).map (Ob.sw i j)
 |[]=>rfl
 |(x,o)::r=>by
  have hx:(lx i j x=lx i j k)=(x=k):=by
   apply propext
   constructor
   ·intro h;rw[← ju i j x,h,ju]
   ·intro h;rw[h]
  cases o with
  |none=>
   unfold ya
   simp only[fl,um i j k r,hx]
   split<;>rfl
  |some o=>
   unfold ya
   simp only[fl,um i j k r,hx]
   split<;>rfl
theorem FJ (i j k:Nat):(δ.sw i j).ob k=(δ.ob (lx i j k)).map (Ob.sw i j):=by
 have:=um i j (lx i j k) δ.gq
 rw[ju] at this
 exact this
theorem mP (i j k:Nat):(δ.sw i j).live k↔δ.live (lx i j k):=by
 unfold DS.live
 rw[FJ]
 cases δ.ob (lx i j k)<;>simp
theorem Ov (i j k:Nat):(δ.sw i j).lr k↔δ.lr (lx i j k):=by
 unfold DS.lr
 rw[FJ]
 cases h:δ.ob (lx i j k) with
 |none=>simp
 |some o=>cases o<;>simp [Ob.sw]
theorem JK (i j k:Nat):(δ.sw i j).lb k↔δ.lb (lx i j k):=by
 unfold DS.lb
 rw[FJ]
 cases h:δ.ob (lx i j k) with
 |none=>simp
 |some o=>simp [Ob.QP]
def OE (i j:Nat) (κ:Kp):Kp:=⟨fun x=>κ (lx i j x),fun x b=>κ.F (lx i j x) b⟩
theorem OS (i j b:Nat):(OE i j κ).Fs b↔κ.Fs b:=by
 constructor
 ·rintro⟨x,h⟩;exact⟨_,h⟩
 ·rintro⟨x,h⟩;exact⟨lx i j x,by show κ.F (lx i j (lx i j x)) b;rw[ju];exact h⟩
theorem Q9 (i j b:Nat):((δ.sw i j).cx g (OE i j κ)).N b↔(δ.cx g κ).N b:=by
 show((g.N0 b∧_)∧_)↔((g.N0 b∧_)∧_)
 constructor
 ·rintro⟨h1,h2⟩
  refine⟨⟨h1.1,fun h=>h1.2 ((OS i j b).2 h)⟩,fun x hx=>?_⟩
  have:=h2 (lx i j x) ((mP i j _).2 (by rw[ju];exact hx))
  have this:κ (lx i j (lx i j x))≠some b:=this
  rwa [ju] at this
 ·rintro⟨h1,h2⟩
  exact⟨⟨h1.1,fun h=>h1.2 ((OS i j b).1 h)⟩,fun x hx=>h2 _ ((mP i j _).1 hx)⟩
theorem JR (i j:Nat) {v:Value} {p:PV} (h:RP (δ.cx g κ).N w v p):RP ((δ.sw i j).cx g (OE i j κ)).N w v p:=
 h.mono (Nat.le_refl _) fun b _ hb=>⟨(Q9 i j b).2 hb,rfl⟩
theorem K4 (i j:Nat) {v:Value} {x:Nat} {e:TypeId} {k:Nat} {fc:List (List PV)} (h:jv (δ.cx g κ) w v x e k fc):jv ((δ.sw i j).cx g (OE i j κ)) w v (lx i j x) e k fc:=by
 obtain⟨hl,lG,hk,hb,xs,ho,h1,hx⟩:=h
 refine⟨(Ov i j _).2 (by rw[ju];exact hl),lG,hk,fun b hv=>?_,xs,ho,h1,fun i' j' p hp=>let ⟨u,h1,h2⟩:=hx i' j' p hp;⟨u,h1,JR i j h2⟩⟩
 show κ (lx i j (lx i j x))=some b
 rw[ju];exact hb b hv
theorem FP (i j:Nat) {v:Value} {av:AV} (h:RA (δ.cx g κ) w v av):RA ((δ.sw i j).cx g (OE i j κ)) w v (av.sw i j):=by
 induction h with
 |any v=>exact .any v
 |pv h=>exact .pv (JR i j h)
 |own h=>exact .own (K4 i j h)
 |ptr hl hκ=>exact .ptr ((JK i j _).2 (by rw[ju];exact hl)) (by show κ (lx i j (lx i j _))=_;rw[ju];exact hκ)
 |gp b off vs hN hb hc hr=>exact .gp b off vs ((Q9 i j b).2 hN) hb hc fun k p hp=>JR i j (hr k p hp)
 |gN hi h=>exact .gN hi (K4 i j h)
 |agg hs h ih=>
  show RA _ _ _ (.agg (AV.xO i j _))
  rw[AV.tF]
  refine .agg (by simp [hs]) fun k u c hu hc=>?_
  rw[List.getElem?_map] at hc
  obtain⟨c',yb,rfl⟩:=Option.map_eq_some_iff.1 hc
  exact ih k u c' hu yb
 |gM hs h ih=>
  show RA _ _ _ (.gM (AV.xO i j _))
  rw[AV.tF]
  refine .gM (by simp [hs]) fun k u c hu hc=>?_
  rw[List.getElem?_map] at hc
  obtain⟨c',yb,rfl⟩:=Option.map_eq_some_iff.1 hc
  exact ih k u c' hu yb
 |jJ hs h ht h' ih ih'=>
  show RA _ _ _ (.jJ _ (AV.xO i j _) (AV.xO i j _))
  rw[AV.tF,AV.tF]
  refine .jJ (by simp [hs]) (fun k u c hu hc=>?_) (by simp [ht]) (fun k u c hu hc=>?_)
  ·rw[List.getElem?_map] at hc
   obtain⟨c',yb,rfl⟩:=Option.map_eq_some_iff.1 hc
   exact ih k u c' hu yb
  ·rw[List.getElem?_map] at hc
   obtain⟨c',yb,rfl⟩:=Option.map_eq_some_iff.1 hc
   exact ih' k u c' hu yb
 |gz hl hκ=>exact .gz ((JK i j _).2 (by rw[ju];exact hl)) (by show κ (lx i j (lx i j _))=_;rw[ju];exact hκ)
 |kZ hl hκ=>exact .kZ ((JK i j _).2 (by rw[ju];exact hl)) (by show κ (lx i j (lx i j _))=_;rw[ju];exact hκ)
theorem Cn (i j:Nat) (v:AV):(v.sw i j).kD=v.kD:=by cases v<;>rfl
theorem nY.sw (i j:Nat) {x:Nat} {o:Ob} (h:nY (δ.cx g κ) w x o):nY ((δ.sw i j).cx g (OE i j κ)) w (lx i j x) (o.sw i j):=by
 have hκ:∀y,((δ.sw i j).cx g (OE i j κ)).κ (lx i j y)=κ y:=fun y=>by show κ (lx i j (lx i j y))=_;rw[ju]
 cases o with
 |row=>
  intro b hb
  rw[hκ] at hb
  exact h b hb
 |box cs=>
  obtain⟨b,c,e,h1,h2,h3,h4⟩:=h
  show nY _ _ _ (.box (AV.xO i j cs))
  rw[AV.tF]
  refine⟨b,c,e,(hκ x).trans h1,h2,by simp [h3],fun k u av h5 h6=>?_⟩
  rw[List.getElem?_map] at h6
  obtain⟨c',yb,rfl⟩:=Option.map_eq_some_iff.1 h6
  exact⟨FP i j (h4 k u c' h5 yb).1,(h4 k u c' h5 yb).2⟩
 |mp l=>
  obtain⟨b,es,clock,h1,h2,h3,h4,h5⟩:=h
  refine⟨b,es,clock,(hκ x).trans h1,h2,⟨by simp [h3.1],fun k e p h6 h7=>?_⟩,h4,fun p hp=>?_⟩
  ·rw[List.getElem?_map] at h7
   obtain⟨p',mq,rfl⟩:=Option.map_eq_some_iff.1 h7
   exact⟨(h3.2 k e p' h6 mq).1,FP i j (h3.2 k e p' h6 mq).2⟩
  ·obtain⟨p',mq,rfl⟩:=List.mem_map.1 hp
   show(p'.2.sw i j).kD=true
   rw[Cn];exact h5 p' mq
 |mpl l kk v=>
  obtain⟨b,es,clock,h1,h2,h3,h4,h5⟩:=h
  refine⟨b,es,clock,(hκ x).trans h1,h2,⟨by simpa using h3.1,fun k e p h6 h7=>?_⟩,h4,fun p hp=>?_⟩
  ·have h8:((l++ [(kk,v)]).map fun p=>(p.1,p.2.sw i j))[k]? =some p:=by simpa using h7
   rw[List.getElem?_map] at h8
   obtain⟨p',mq,rfl⟩:=Option.map_eq_some_iff.1 h8
   exact⟨(h3.2 k e p' h6 mq).1,FP i j (h3.2 k e p' h6 mq).2⟩
  ·obtain⟨p',mq,rfl⟩:=List.mem_map.1 hp
   show(p'.2.sw i j).kD=true
   rw[Cn];exact h5 p' mq
 |it l seen=>
  obtain⟨b,h1,h2⟩:=h
  exact⟨b,(hκ x).trans h1,h2.mono (Nat.le_refl _) (fun b _ hb=>⟨(Q9 i j b).2 hb,rfl⟩) rfl⟩
 |lit T vals=>obtain⟨b,h1,h2⟩:=h;exact⟨b,(hκ x).trans h1,h2⟩
 |ff e rows=>exact⟨(hκ x).trans h.1,fun k=>let ⟨h1,h2,h3,h4⟩:=h.2.1 k;⟨h1,h2,fun b hb=>(by show κ.F (lx i j (lx i j x)) b;rw[ju];exact h3 b hb),h4⟩,h.2.2⟩
 |loop l tm ps jf body st=>
  obtain⟨b,r,h1,h2⟩:=h
  exact⟨b,r,(hκ x).trans h1,h2⟩
theorem Rel.sw (i j:Nat) (hi:i<δ.nx) (hj:j<δ.nx) (hw:∀k,g.wt=some k→k.2.2≤i∧k.2.2≤j) (r:Rel g δ κ a w):Rel g (δ.sw i j) (OE i j κ) a w where
 n:=r.n
 dfr:=r.dfr
 env:=fun k=>by
  have e:(δ.sw i j).get k=(δ.get k).sw i j:=FM i j k δ.env
  rw[e];exact FP i j (r.env k)
 obj:=fun x o h=>by
  rw[FJ] at h
  obtain⟨o',f_,rfl⟩:=Option.map_eq_some_iff.1 h
  have:=(r.obj _ o' f_).sw i j
  rwa [ju] at this
 inj:=fun x y b hx hy h1 h2=>by
  have:=r.inj _ _ b ((mP i j x).1 hx) ((mP i j y).1 hy) h1 h2
  rw[← ju i j x,this,ju]
 lo:=fun x b hx h1=>r.lo _ b ((mP i j x).1 hx) h1
 nx:=fun x hx=>by
  have:=r.nx _ ((mP i j x).1 hx)
  show x<δ.nx
  rw[Et] at this
  split at this
  ·omega
  ·split at this<;>omega
 wt:=fun k hk=>by
  obtain⟨h1,h2⟩:=hw k hk
  refine⟨(r.wt k hk).1,fun x b hx v7 hκ=>(r.wt k hk).2 (lx i j x) b ((mP i j x).1 hx) ?_ hκ⟩
  rcases v7 with v7|v7
  ·exact .inl ((Ov i j x).1 v7)
  ·right
   rw[Et]
   split
   ·exact h2
   ·split
    ·exact h1
    ·exact v7
 below:=r.below
 hB:=r.hB
 N0:=r.N0
 km:=r.km
 fr:=by
  refine⟨fun b hb=>?_,fun x b hb=>?_⟩
  ·obtain⟨h1,h2,h3⟩:=r.fr.1 b hb
   exact⟨h1,h2,fun x hx=>h3 _ ((mP i j x).1 hx)⟩
  ·obtain⟨h1,h2,h3,h4,h5⟩:=r.fr.2 _ b hb
   refine⟨h1,h2,h3,fun y hy=>h4 _ ((mP i j y).1 hy),fun y hy=>?_⟩
   rw[← ju i j y,h5 _ hy,ju]
namespace Nf
variable {n x:Nat} {e:List (Nat×AV)} {o:List (Nat×Option Ob)} {i j k:Nat}
theorem sw:DS.sw ⟨n,e,o,x⟩ i j=⟨n,N9 i j e,ya i j o,x⟩:=rfl
theorem Vu:N9 i j []=[]:=rfl
theorem Wy (v:AV) (r:List (Nat×AV)):N9 i j ((k,v)::r)=(k,v.sw i j)::N9 i j r:=rfl
theorem XI:ya i j []=[]:=rfl
theorem Vs (r:List (Nat×Option Ob)):ya i j ((k,none)::r)=(lx i j k,none)::ya i j r:=rfl
theorem XV (r:List (Nat×Option Ob)):ya i j ((k,some .row)::r)=(lx i j k,some .row)::ya i j r:=rfl
theorem UF (e:TypeId) (p:Nat→Value×List Value) (r:List (Nat×Option Ob)):ya i j ((k,some (.ff e p))::r)=(lx i j k,some (.ff e p))::ya i j r:=rfl
theorem Wg (cs:List AV) (r:List (Nat×Option Ob)):ya i j ((k,some (.box cs))::r)=(lx i j k,some (.box (AV.xO i j cs)))::ya i j r:=rfl
theorem VI (l:List (Value×PV)) (s:List Nat) (r:List (Nat×Option Ob)):ya i j ((k,some (.it l s))::r)=(lx i j k,some (.it l s))::ya i j r:=rfl
theorem Xm (l tm ps jf body st) (r:List (Nat×Option Ob)):ya i j ((k,some (.loop l tm ps jf body st))::r)=(lx i j k,some (.loop l tm ps jf body st))::ya i j r:=rfl
theorem WE:AV.xO i j []=[]:=rfl
theorem Xu (v:AV) (r:List AV):AV.xO i j (v::r)=v.sw i j::AV.xO i j r:=rfl
theorem X4:AV.sw i j .any=.any:=rfl
theorem VL (p:PV):AV.sw i j (.pv p)=.pv p:=rfl
theorem VG (e m fc):AV.sw i j (.own k e m fc)=.own (lx i j k) e m fc:=rfl
theorem X3 (m:Nat):AV.sw i j (.ptr k m)=.ptr (lx i j k) m:=rfl
theorem Xx (c:List PV):AV.sw i j (.gp c)=.gp c:=rfl
theorem Vw (e m fc m'):AV.sw i j (.gN k e m fc m')=.gN (lx i j k) e m fc m':=rfl
theorem XE (c:List AV):AV.sw i j (.agg c)=.agg (AV.xO i j c):=rfl
theorem VE (c:List AV):AV.sw i j (.gM c)=.gM (AV.xO i j c):=rfl
theorem Vq (f) (c d:List AV):AV.sw i j (.jJ f c d)=.jJ f (AV.xO i j c) (AV.xO i j d):=rfl
theorem Wb:AV.sw i j (.gz k)=.gz (lx i j k):=rfl
theorem Xr:AV.sw i j (.kZ k)=.kZ (lx i j k):=rfl
theorem XJ:lx i j k=bif Nat.beq i k then j else bif Nat.beq j k then i else k:=rfl
set_option linter.defProp false in
def swR:=And.intro @sw (And.intro @Vu (And.intro @Wy (And.intro @XI (And.intro @Vs (And.intro @XV (And.intro @UF (And.intro @Wg (And.intro @VI (And.intro @Xm (And.intro @WE (And.intro @Xu (And.intro @X4 (And.intro @VL (And.intro @VG (And.intro @X3 (And.intro @Xx (And.intro @Vw (And.intro @XE (And.intro @VE (And.intro @Vq (And.intro @Wb (And.intro @Xr @XJ))))))))))))))))))))))
end Nf
variable {k:Wt} {late:List Nat} {l:List Oper} {dn:List Nat} {QD:Exit→DS→Prop}
theorem AR.Fq {δ':DS} (hw:∀g':e6,(∀k',g'.wt=some k'→k'=k)→nV g' δ δ') (h:AR P g k late l QD dn δ'):AR P g k late l QD dn δ:=by
 intro uV κ a w r
 obtain⟨κ',r'⟩:=hw _ (fun k' lO=>by
  have:(if gW late (gG l.length dn)=true then none else some k)=some k':=lO
  split at this
  ·cases this
  ·cases this;rfl) κ a w r
 exact h uV κ' a w r'
theorem AR.sw (i j:Nat) {m:Nat} (hk:k.2.2=m) (hi:(Nat.ble m i && Nat.blt i δ.nx)=true) (hj:(Nat.ble m j && Nat.blt j δ.nx)=true) (h:AR P g k late l QD dn (δ.sw i j)):AR P g k late l QD dn δ:=by
 simp only[Bool.and_eq_true,Nat.ble_eq,Nat.blt_eq] at hi hj
 exact AR.Fq (fun g' hg κ a w r=>⟨_,r.sw i j hi.2 hj.2 fun k' lO=>by rw[hg k' lO,hk];exact⟨hi.1,hj.1⟩⟩) h
theorem yC (n:Nat) (d:List Nat):(gG n d).size=n:=by
 induction d with
 |nil=>simp [gG]
 |cons i d ih=>simp [gG,ih]
theorem HO {n:Nat} {d d':List Nat} (h:jx n d=jx n d'):gG n d=gG n d':=by
 apply Array.ext
 ·rw[yC,yC]
 ·intro i h1 h2
  have e1:=kj (n:=n) (d:=d) (j:=i)
  have e2:=kj (n:=n) (d:=d') (j:=i)
  rw[h] at e1
  rw[e1] at e2
  rw[Array.getD_eq_getD_getElem?,Array.getD_eq_getD_getElem?,Array.getElem?_eq_getElem h1,Array.getElem?_eq_getElem h2] at e2
  exact e2
theorem AR.perm {J:List Nat} (hm:(jx l.length dn==jx l.length J && Nat.beq dn.length J.length)=true) (h:AR P g k late l QD J δ):AR P g k late l QD dn δ:=by
 simp only[Bool.and_eq_true,beq_iff_eq] at hm
 have hm:jx l.length dn=jx l.length J∧dn.length=J.length:=⟨hm.1,Nat.eq_of_beq_eq_true hm.2⟩
 have e:=HO hm.1
 intro uV κ a w r
 rw[hm.2]
 have h1:=h (by rw[← e];exact uV) κ a w (by rw[← e];exact r)
 rw[e];exact h1
theorem AR.cut (J:List Nat) {δc:DS} (h1:AR P g k late l QD J δc→AR P g k late l QD dn δ) (h2:AR P g k late l QD J δc):AR P g k late l QD dn δ:=h1 h2
theorem AR.meet {J:List Nat} {δc:DS} (hJ:AR P g k late l QD J δc) (hm:(jx l.length dn==jx l.length J && Nat.beq dn.length J.length)=true) (hw:∀g':e6,nV g' δ δc):AR P g k late l QD dn δ:=
 AR.Fq (fun g' _=>hw g') (AR.perm hm hJ)
theorem AR.ua {i j m:Nat} {o p q:Oper} (hl:Nat.blt dn.length l.length=true) (hr:(lJ (jx l.length dn) 0 l==[i,j,m])=true) (ho:l[i]? =some o) (hp:l[j]? =some p) (hq:l[m]? =some q)
  (h:∀g':e6,Gs g' g→(∀j,k.2.2≤j→g'.nF j)→a_ .plain P g' l.toArray [o] (jY (AR P g k late l QD (i::dn))) δ)
  (h':∀g':e6,Gs g' g→(∀j,k.2.2≤j→g'.nF j)→a_ .plain P g' l.toArray [p] (jY (AR P g k late l QD (j::dn))) δ)
  (h'':∀g':e6,Gs g' g→(∀j,k.2.2≤j→g'.nF j)→a_ .plain P g' l.toArray [q] (jY (AR P g k late l QD (m::dn))) δ):AR P g k late l QD dn δ:=
 AR.all hl (mS hr) (by simp) fun i' kq=>by
  have hw:∀i',∀j,k.2.2≤j→(A3 g k late (gG l.length (i'::dn))).nF j:=by
   intro i' j hj k' lO
   have:(if gW late (gG l.length (i'::dn))=true then none else some k)=some k':=lO
   split at this
   ·cases this
   ·cases this;exact hj
  simp only[List.mem_cons,List.not_mem_nil,or_false] at kq
  rcases kq with rfl|rfl|rfl
  ·exact⟨o,ho,h _ ⟨rfl,rfl,rfl⟩ (hw _)⟩
  ·exact⟨p,hp,h' _ ⟨rfl,rfl,rfl⟩ (hw _)⟩
  ·exact⟨q,hq,h'' _ ⟨rfl,rfl,rfl⟩ (hw _)⟩
theorem AR.zw {i j:Nat} {o p:Oper} (hl:Nat.blt dn.length l.length=true) (hr:(lJ (jx l.length dn) 0 l==[i,j])=true) (ho:l[i]? =some o) (hp:l[j]? =some p) (fx:BP late (jx l.length dn)=true)
  (h:∀g':e6,Gs g' g→g'.wt=none→a_ .plain P g' l.toArray [o] (jY (AR P g k late l QD (i::dn))) δ)
  (h':∀g':e6,Gs g' g→g'.wt=none→a_ .plain P g' l.toArray [p] (jY (AR P g k late l QD (j::dn))) δ):AR P g k late l QD dn δ:=
 AR.all hl (mS hr) (by simp) fun i' kq=>by
  have Kx:gW late (gG l.length dn)=true:=by rw[wA];exact fx
  have hw:∀i',(A3 g k late (gG l.length (i'::dn))).wt=none:=fun i'=>if_pos (uN Kx)
  simp only[List.mem_cons,List.not_mem_nil,or_false] at kq
  rcases kq with rfl|rfl
  ·exact⟨o,ho,h _ ⟨rfl,rfl,rfl⟩ (hw _)⟩
  ·exact⟨p,hp,h' _ ⟨rfl,rfl,rfl⟩ (hw _)⟩
def tK (k:Nat):List Nat→Bool
 |[]=>false
 |x::r=>bif Nat.beq x k then true else tK k r
def H9 (s:List Nat):List (Nat×AV)→List (Nat×AV)
 |[]=>[]
 |(k,v)::r=>bif tK k s then H9 s r else (k,v)::H9 (k::s) r
def HV (s:List Nat):List (Nat×Option Ob)→List (Nat×Option Ob)
 |[]=>[]
 |(k,v)::r=>bif tK k s then HV s r else (k,v)::HV (k::s) r
theorem w8 {k:Nat}:∀{s:List Nat},tK k s=true↔k∈s
 |[]=>by simp [tK]
 |x::r=>by
  unfold tK
  by_cases h:x=k
  ·subst h;simp
  ·rw[mo h,cond_false,w8,List.mem_cons]
   constructor
   ·exact .inr
   ·rintro(h'|h')
    ·exact absurd h'.symm h
    ·exact h'
theorem vO {j:Nat}:∀{e:List (Nat×AV)} {s:List Nat},j∉s→look (H9 s e) j=look e j
 |[],_,_=>rfl
 |(k,v)::r,s,h=>by
  unfold H9
  cases hm:tK k s with
  |true=>
   have:k≠j:=by rintro rfl;exact h (w8.1 hm)
   rw[cond_true,fH,if_neg this,vO h]
  |false=>
   rw[cond_false,fH,fH]
   by_cases e:k=j
   ·rw[if_pos e,if_pos e]
   ·rw[if_neg e,if_neg e,vO (by simp only[List.mem_cons,not_or];exact⟨fun h'=>e h'.symm,h⟩)]
theorem rE {j:Nat}:∀{e:List (Nat×Option Ob)} {s:List Nat},j∉s→fg (HV s e) j=fg e j
 |[],_,_=>rfl
 |(k,v)::r,s,h=>by
  unfold HV
  cases hm:tK k s with
  |true=>
   have:k≠j:=by rintro rfl;exact h (w8.1 hm)
   rw[cond_true,fl,if_neg this,rE h]
  |false=>
   rw[cond_false,fl,fl]
   by_cases e:k=j
   ·rw[if_pos e,if_pos e]
   ·rw[if_neg e,if_neg e,rE (by simp only[List.mem_cons,not_or];exact⟨fun h'=>e h'.symm,h⟩)]
def DS.dd (δ:DS):DS:=⟨δ.n,H9 [] δ.env,HV [] δ.gq,δ.nx⟩
theorem Rel.congr {δ':DS} (hn:δ'.n=δ.n) (hx:δ'.nx=δ.nx) (he:∀j,δ'.get j=δ.get j) (ho:∀j,δ'.ob j=δ.ob j) (r:Rel g δ κ a w):Rel g δ' κ a w:=by
 have js:δ'.ob=δ.ob:=funext ho
 have hl:δ'.live=δ.live:=by unfold DS.live;rw[js]
 have nq:δ'.lr=δ.lr:=by unfold DS.lr;rw[js]
 have vy:δ'.lb=δ.lb:=by unfold DS.lb;rw[js]
 have C8:δ'.cx g κ=δ.cx g κ:=by unfold DS.cx;rw[hl,nq,vy]
 exact
  {n:=r.n.trans hn.symm,dfr:=r.dfr
   env:=fun j=>by rw[C8,he];exact r.env j
   obj:=fun i o h=>by rw[C8];rw[ho] at h;exact r.obj i o h
   inj:=by rw[hl];exact r.inj
   lo:=by rw[hl];exact r.lo
   nx:=by rw[hl,hx];exact r.nx
   wt:=by rw[hl,nq];exact r.wt
   below:=r.below,hB:=r.hB,N0:=r.N0,km:=r.km,fr:=by rw[hl];exact r.fr}
theorem nV.dd:nV g δ δ.dd:=fun κ _ _ r=>⟨κ,Rel.congr (δ:=δ) (δ':=δ.dd) rfl rfl (fun j=>vO (s:=[]) (by simp)) (fun j=>rE (s:=[]) (by simp)) r⟩
theorem AR.dd (h:AR P g k late l QD dn δ.dd):AR P g k late l QD dn δ:=AR.Fq (fun _ _=>nV.dd) h
def Qy (b:Bool) (s:List Nat) (k:Nat) (v:AV) (r:List (Nat×AV)):List (Nat×AV):=bif b then H9 s r else (k,v)::H9 (k::s) r
def OY (b:Bool) (s:List Nat) (k:Nat) (v:Option Ob) (r:List (Nat×Option Ob)):List (Nat×Option Ob):=bif b then HV s r else (k,v)::HV (k::s) r
namespace Nf
variable {n x:Nat} {e:List (Nat×AV)} {o:List (Nat×Option Ob)} {i j m:Nat}
theorem dd:DS.dd ⟨n,e,o,x⟩=⟨n,H9 [] e,HV [] o,x⟩:=rfl
theorem Wq (s:List Nat):H9 s []=[]:=rfl
theorem Wd (s:List Nat) (v:AV) (r:List (Nat×AV)):H9 s ((m,v)::r)=Qy (tK m s) s m v r:=rfl
theorem VW (s:List Nat) (v:AV) (r:List (Nat×AV)):Qy true s m v r=H9 s r:=rfl
theorem Vp (s:List Nat) (v:AV) (r:List (Nat×AV)):Qy false s m v r=(m,v)::H9 (m::s) r:=rfl
theorem V8 (s:List Nat):HV s []=[]:=rfl
theorem VZ (s:List Nat) (v:Option Ob) (r:List (Nat×Option Ob)):HV s ((m,v)::r)=OY (tK m s) s m v r:=rfl
theorem Xv (s:List Nat) (v:Option Ob) (r:List (Nat×Option Ob)):OY true s m v r=HV s r:=rfl
theorem W8 (s:List Nat) (v:Option Ob) (r:List (Nat×Option Ob)):OY false s m v r=(m,v)::HV (m::s) r:=rfl
theorem me0:tK m []=false:=rfl
theorem ZR (y:Nat) (r:List Nat):tK m (y::r)=bif Nat.beq y m then true else tK m r:=rfl
set_option linter.defProp false in
def ddR:=And.intro @dd (And.intro @Wq (And.intro @Wd (And.intro @VW (And.intro @Vp (And.intro @V8 (And.intro @VZ (And.intro @Xv (And.intro @W8 (And.intro @me0 @ZR)))))))))
end Nf
end Go.Ab
/- Contracts under a premise on the world at the call that no own memory touches (a table laid,a function value's ways);calls of told closures;functions that take functions. -/
namespace Go.Ab
open Go Go.RowKit
variable {P:Program} {g:e6} {δ:DS} {κ:Kp} {a:Act} {w:World}
variable {ops:Array Oper} {rest:List Oper} {Q:Exit→DS→Prop} {dst:Option Nat} {ty:TypeId} {pos:String} {af:Array Edge}
def To (T:World→Prop):Prop:=∀w w',T w→Below w.heap.size w w'→T w'
structure xX (T:World→Prop) (P:Program) (f:FuncId) (args:List AV) (r:AV):Prop where
 enters:∀vals w,(callFunc f vals).run P w=.ok (.enter f vals) w
 calls:∀(N:Nat→Prop) (w:World) (vals:Array Value),T w→(∀b,w.heap.size≤b→N b)→vals.size=args.length→
  (∀(j:Nat) (v:Value) (av:AV),vals[j]? =some v→args[j]? =some av→RA (A_ N) w v av)→
  Calls P f vals w fun e w'=>∃v,e=.returned v∧RA (A_ N) w' v r∧Below w.heap.size w w'
theorem xX.sub {T T':World→Prop} {f:FuncId} {args:List AV} {r:AV} (h:xX T P f args r) (hT:∀w,T' w→T w):xX T' P f args r:=⟨h.enters,fun N w vals ht=>h.calls N w vals (hT w ht)⟩
def TB (T:World→Prop) (g:e6):Prop:=∀w',Below g.B g.w0 w'→T w'
theorem TB.gs {T:World→Prop} {g g':e6} (h:TB T g) (hg:Gs g' g):TB T g':=fun w' hb=>h w' (by rw[← hg.2.1,← hg.2.2];exact hb)
theorem TB.sub {T T':World→Prop} {g:e6} (h:TB T g) (hT:∀w,T w→T' w):TB T' g:=fun w' hb=>hT w' (h w' hb)
theorem xX.enter {T:World→Prop} (jc:To T) {f:FuncId} {fn:Func} {c:Code} {rs:List ResultVar} {n:Nat} {args:List AV} {r:AV} (hf:P.funcs[f]? =some fn) (hb:fn.body=some c) (s6:fn.results=rs.toArray) (hn:fn.ntmps=n) (Cy:Nat.ble args.length n=true)
  (p6:Nat.ble n HS=true) (he:(fn.name== "runtime.NumGoroutine")=false) (h:∀g:e6,g.ro=none→g.wt=none→TB T g→AW P g c (Ends P rs r) (start n args)):xX T P f args r:=by
 refine⟨fun vals w=>by simp [callFunc,hf,hb];simpa using he,fun N w vals hTw hN hs fX=>?_⟩
 have hle:args.length≤n:=by simpa using Cy
 have LR:n≤HS:=by simpa using p6
 let g:e6:={B:=w.heap.size,w0:=w,N0:=N,held:=fun _=>undef,ro:=none,mks:=[],wt:=none,fr:=fun _=>False,w1:=w}
 have nG:∀i,¬(start n args).live i:=fun i ⟨o,h⟩=>by cases h
 refine callsIn_wide.1 (callsIn_of_wp_marks (n:=0) hf hb trivial (wpIn_mono (h g rfl rfl (fun w' hb=>jc w w' hTw hb) ⟨fun _=>none,fun _ _=>False⟩ _ w ?_) ?_))
 ·exact
  {n:=by simp [hn,start];omega
   dfr:=⟨[],rfl,by simp [g],by simp [g]⟩
   env:=fun j=>by
    by_cases hj:j<args.length
    ·have h1:(start n args).get j=args[j]:=mZ args 0 j _ (Nat.zero_le _) (by simp [hj])
     have h2:g.val {tmps:=vals++Array.replicate (fn.ntmps - vals.size) undef,defers:=[]} j=vals[j]'(by omega):=by
      unfold e6.val
      rw[if_pos aJ]
      simp [Array.getD_eq_getD_getElem?,Array.getElem?_append,hs,hj]
     rw[h1,h2]
     exact(fX j _ _ (Array.getElem?_eq_getElem aJ) (List.getElem?_eq_getElem hj)).ui _ fun b _ h=>⟨⟨h,fun⟨_,h⟩=>h⟩,fun i hi=>absurd hi (nG i)⟩
    ·have h1:(start n args).get j=.any:=jt args 0 j (by omega)
     rw[h1];exact .any _
   obj:=fun i o h=>by cases h
   inj:=fun i j b h=>absurd h (nG i)
   lo:=fun i b h=>absurd h (nG i)
   nx:=fun i h=>absurd h (nG i)
   wt:=fun k hk=>by cases hk
   below:=Below.refl _ _
   hB:=Nat.le_refl _
   N0:=fun b h _=>hN b h
   fr:=⟨fun b hb=>hb.elim,fun i b hb=>hb.elim⟩
   km:=fun d hd=>by cases hd}
 ·rintro e a' w' ⟨δ',κ',hq,r'⟩
  have fin:∀v,gn P δ' rs v→Le true v r→LeavesInM Fence.wide 0 P fn a'.tmps (fun e w'=>∃v,e=.returned v∧RA (A_ N) w' v r∧Below w.heap.size w w') a'.defers .returning w':=by
   intro v h1 h2
   exact leaves (g:=g) rfl rfl s6 h1 r' (fun w2 r2 u hu=>by
    exact⟨u,rfl,hu.le h2 (fun b _ h=>h.1.1) (fun _ i b hi hκ=>hN b (r2.lo i b (DS.gI hi) hκ).1),r2.below⟩)
  cases e with
  |normal=>obtain⟨v,h1,h2⟩:=hq;exact fin v h1 h2
  |ret=>obtain⟨v,h1,h2⟩:=hq;exact fin v h1 h2
  |_=>exact hq.elim
theorem TB.at {T:World→Prop} (h:TB T g) (r:Rel g δ κ a w) {w':World} (hb:Below w.heap.size w w'):T w':=h w' (r.below.trans (hb.mono r.hB))
theorem a_.yI {q:Md} {T:World→Prop} {f:FuncId} {xs:List Operand} {tys:Array TypeId} {args:List AV} {r:AV} (hT:TB T g) (hf:xX T P f args r) (fX:pF true δ xs args) (qL:r.xw=true) (hd:fR δ.n dst=true) (hq:q≠ .held)
  (hK:a_ q P g ops rest Q (δ.eY dst r)):a_ q P g ops (⟨dst,.call {callee:=.value (.func f),args:=xs.toArray,argTypes:=tys},ty,pos,af,none⟩::rest) Q δ:=by
 intro κ a w r0
 have hc:∀w',Below w.heap.size w w'→Calls P f (xs.toArray.map a.eval) w' fun e w''=>e=.returned r.out∧Below w'.heap.size w' w'':=fun w' j5=>
  (hf.calls (fun _=>True) w' _ (hT.at r0 j5) (fun _ _=>trivial) (by simp [fX.len]) (fX.P3 (r0.ext j5) (fun _ _ _=>trivial) (fun _ _ _ _ _=>trivial))).mono (by
   rintro e w'' ⟨v,rfl,hv,hb⟩
   exact⟨by rw[hv.xw (AV.nh (C:=A_ (fun _=>True)) (w:=w) qL) qL],hb⟩)
 have yN:=hK κ _ _ (r0.eY (fv hd) (AV.nh qL))
 cases q with
 |quiet=>
  show wpQuiet P ops _ _ (_::rest) a
  unfold wpQuiet
  rw[if_pos (by simp [Region.wanted])]
  refine⟨r.out,fun w' j5=>?_,yN⟩
  unfold Oper.quietAt
  rw[j3 (f:=f) rfl hf.enters]
  exact⟨rfl,(hc w' j5).mono fun e w'' ⟨h1,h2⟩=>⟨h1,j5.trans (h2.mono j5.size)⟩⟩
 |held=>exact absurd rfl hq
 |plain=>
  show wpListIn _ _ P ops _ (_::rest) a w
  refine gV rfl rfl fun K oS=>?_
  unfold Oper.Ac
  rw[j3 (f:=f) rfl hf.enters,Oper.uponIn_enter]
  refine⟨fun h=>by simp at h,(jK (hc w (Below.refl _ _))).mono ?_⟩
  rintro e w' ⟨rfl,hb⟩
  exact oS _ _ (hK κ _ _ ((r0.ext hb).eY (fv hd) (AV.nh qL)))
theorem a_.tc {T:World→Prop} {f:FuncId} {xs:List Operand} {tys:Array TypeId} {args:List AV} {r:AV} (hT:TB T g) (hf:xX T P f args r) (fX:pF false δ xs args) (hd:fR δ.n dst=true)
  (hK:a_ .plain P g ops rest Q (δ.eY dst r)):a_ .plain P g ops (⟨dst,.call {callee:=.value (.func f),args:=xs.toArray,argTypes:=tys},ty,pos,af,none⟩::rest) Q δ:=by
 intro κ a w r0
 show wpListIn _ _ P ops _ (_::rest) a w
 refine gV rfl rfl fun K oS=>?_
 unfold Oper.Ac
 rw[j3 (f:=f) rfl hf.enters,Oper.uponIn_enter]
 refine⟨fun h=>by simp at h,(jK (hf.calls (fun b=>(δ.cx g κ).N b∨w.heap.size≤b) w _ (hT.at r0 (Below.refl _ _)) (fun _ h=> .inr h) (by simp [fX.len]) (fX.P3 r0 (fun _ _ h=> .inl h) (fun h=>by simp at h)))).mono ?_⟩
 rintro e w' ⟨v,rfl,hv,hb⟩
 have r1:=r0.ext hb
 refine oS _ _ (hK κ _ _ (r1.eY (fv hd) (hv.ui _ fun b _ h=>?_)))
 rcases h with h|h
 ·exact h
 ·refine⟨r0.BG h,fun i hi e=>?_⟩
  have:=(r0.lo i b hi e).2
  omega
def AV.seen:AV→PV
 |.pv p=>p
 |.own _ _ k fc=> .slice k fc
 |_=> .any
inductive Rb (δ:DS):AV→AV→Prop
 |le {v r:AV} (h:Le true v r):Rb δ v r
 |box {i off:Nat} {cells:List AV} {ps:List PV} (h:δ.ob i=some (.box cells)) (hc:(cells.drop off).map AV.seen=ps):Rb δ (.ptr i off) (.gp ps)
inductive EH (δ:DS):List AV→List AV→Prop
 |nil:EH δ [] []
 |cons {c d:AV} {cs ds:List AV} (h:Rb δ c d) (hs:EH δ cs ds):EH δ (c::cs) (d::ds)
theorem EH.len {cs ds:List AV} (h:EH δ cs ds):cs.length=ds.length:=by induction h with|nil=>rfl|cons h hs ih=>simp [ih]
theorem EH.at {cs ds:List AV} (h:EH δ cs ds):∀(j:Nat) (c d:AV),cs[j]? =some c→ds[j]? =some d→Rb δ c d:=by
 induction h with
 |nil=>intro j c d h1;simp at h1
 |cons h hs ih=>
  intro j c d h1 h2
  cases j with
  |zero=>simp at h1 h2;subst h1;subst h2;exact h
  |succ j=>exact ih j c d (by simpa using h1) (by simpa using h2)
theorem RA.seen {C:Cx} {u:Value} {av:AV} (h:RA C w u av):RP (fun _=>True) w u av.seen:=by
 cases h with
 |pv h=>exact h.mono (Nat.le_refl _) fun _ _ _=>⟨trivial,rfl⟩
 |own h=>exact h.pv (fun _ _ _=>trivial) (fun _ _ _ _=>trivial)
 |_=>exact .any _
theorem Rb.ra {v r:AV} (h:Rb δ v r) (rl:Rel g δ κ a w) {u:Value} (hu:RA (δ.cx g κ) w u v):RA (A_ fun _=>True) w u r:=by
 cases h with
 |le h=>exact hu.le h (fun _ _ _=>trivial) (fun _ _ _ _ _=>trivial)
 | @box i off cells ps hb hc=>
  obtain⟨b,c,e,rfl,hκ,h3,h4,h5⟩:=rl.box hu hb
  have mw:∀j,w.cell? ⟨b,off+j,none⟩=c[off+j]?:=fun j=>cell_of h3 _
  have s7:∀(j:Nat) (p:PV),ps[j]? =some p→∃av,cells[off+j]? =some av∧p=av.seen:=by
   intro j p hp
   rw[← hc,List.getElem?_map,List.getElem?_drop] at hp
   obtain⟨av,h1,h2⟩:=Option.map_eq_some_iff.1 hp
   exact⟨av,h1,h2.symm⟩
  refine .gp b off (fun j=>(c[off+j]?).getD undef) trivial (iJ h3) (fun j p hp=>?_) (fun j p hp=>?_)
  ·obtain⟨av,h1,rfl⟩:=s7 j p hp
   have fx:=(List.getElem?_eq_some_iff.1 h1).1
   have Ol:c[off+j]? =some c[off+j]:=Array.getElem?_eq_getElem (by omega)
   rw[mw,Ol]
   exact⟨rfl,(h5 _ _ _ Ol h1).2⟩
  ·obtain⟨av,h1,rfl⟩:=s7 j p hp
   have fx:=(List.getElem?_eq_some_iff.1 h1).1
   have Ol:c[off+j]? =some c[off+j]:=Array.getElem?_eq_getElem (by omega)
   simp only[Ol,Option.getD_some]
   exact(h5 _ _ _ Ol h1).1.seen
theorem TB.none (g:e6):TB (fun _=>True) g:=fun _ _=>trivial
def R7 (P:Program) (v:Value) (w:World) (arg r:AV):Prop:=∃(f:FuncId) (vs us:Array Value),v=.func (.func f) vs us∧(∀vals w,(callFunc f vals).run P w=.ok (.enter f vals) w)∧
 ∀w',Below w.heap.size w w'→∀u,RA (A_ fun _=>True) w' u arg→Calls P f (vs++ #[u]++us) w' fun e w''=>e=.returned r.out∧Below w'.heap.size w' w''
def WK (P:Program) {α:Type} (v:Value) (A R:α→AV) (l:List α) (w:World):Prop:=∀x∈l,R7 P v w (A x) (R x)
theorem TB.way {α:Type} {v:Value} {A R:α→AV} {l:List α} (h:TB (WK P v A R l) g) {x:α} (hx:x∈l):TB (fun w=>R7 P v w (A x) (R x)) g:=h.sub fun w hw=>hw x hx
inductive wi (δ:DS) (z:Operand) (v:Value):List Operand→List AV→Prop
 |nil:wi δ z v [] []
 |here {xs:List Operand} {vs:List AV} (hs:wi δ z v xs vs):wi δ z v (z::xs) (.pv (.lit v)::vs)
 |cons {x:Operand} {u:AV} {xs:List Operand} {vs:List AV} (ho:fq x=true) (h:Rb δ (δ.ev x) u) (hs:wi δ z v xs vs):wi δ z v (x::xs) (u::vs)
theorem wi.len {z:Operand} {v:Value} {xs:List Operand} {vs:List AV} (h:wi δ z v xs vs):xs.length=vs.length:=by induction h with|nil=>rfl|here hs ih=>simp [ih]|cons ho h hs ih=>simp [ih]
end Go.Ab
/- Objects that nothing names any more are given up. -/
namespace Go.Ab
open Go Go.RowKit
variable {P:Program} {g:e6} {δ:DS} {κ:Kp} {a:Act} {w:World}
def q9 (ks:List Nat):List (Nat×Option Ob)→List (Nat×Option Ob)
 |[]=>[]
 |(i,o)::r=>bif mn i ks then (i,o)::q9 ks r else q9 ks r
theorem kO0 (ks:List Nat):q9 ks []=[]:=rfl
theorem YB (ks:List Nat) (i:Nat) (o:Option Ob) (r:List (Nat×Option Ob)):q9 ks ((i,o)::r)=bif mn i ks then (i,o)::q9 ks r else q9 ks r:=rfl
def DS.gc (δ:DS) (ks:List Nat):DS:={δ with gq:=q9 ks δ.gq}
theorem ZL (ks:List Nat) (n x:Nat) (e:List (Nat×AV)) (o:List (Nat×Option Ob)):DS.gc ⟨n,e,o,x⟩ ks=⟨n,e,q9 ks o,x⟩:=rfl
theorem OD {ks:List Nat} {i:Nat}:(δ.gc ks).ob i=if mn i ks=true then δ.ob i else none:=by
 show fg (q9 ks δ.gq) i=if mn i ks=true then fg δ.gq i else none
 generalize δ.gq=l
 induction l with
 |nil=>simp [q9,fg]
 |cons p r ih=>
  obtain⟨j,o⟩:=p
  rw[YB]
  cases hm:mn j ks with
  |true=>
   rw[cond_true,fl,fl,ih]
   by_cases e:j=i
   ·subst e;rw[if_pos rfl,if_pos rfl,if_pos hm]
   ·rw[if_neg e,if_neg e]
  |false=>
   rw[cond_false,ih,fl]
   by_cases e:j=i
   ·subst e;rw[hm];simp
   ·rw[if_neg e]
def q8 (lr lb:Nat→Bool):Ob→Bool
 |.row|.it _ _|.loop _ _ _ _ _ _|.lit _ _|.ff _ _=>true
 |.box cs=>AV.xZ lr lb cs
 |.mp l=>l.all fun p=>p.2.ids lr lb
 |.mpl l _ v=>(l.all fun p=>p.2.ids lr lb) && v.ids lr lb
def XO (ks:List Nat) (δ:DS):Bool:=
 (δ.env.all fun p=>p.2.ids (δ.gc ks).qg (δ.gc ks).pJ) && ((δ.gc ks).gq.all fun p=>match p.2 with|some o=>q8 (δ.gc ks).qg (δ.gc ks).pJ o|none=>true)
theorem CD {lr lb:Nat→Bool}:∀{l:List (Nat×AV)},(l.all fun p=>p.2.ids lr lb)=true→∀j,(look l j).ids lr lb=true
 |[],_,j=>rfl
 |(i,v)::r,h,j=>by
  simp only[List.all_cons,Bool.and_eq_true] at h
  rw[fH]
  by_cases e:i=j
  ·rw[if_pos e];exact h.1
  ·rw[if_neg e];exact CD h.2 j
theorem wm {lr lb:Nat→Bool}:∀{l:List (Nat×Option Ob)},(l.all fun p=>match p.2 with|some o=>q8 lr lb o|none=>true)=true→∀i o,fg l i=some o→q8 lr lb o=true
 |[],_,i,o,h=>by simp [fg] at h
 |(j,x)::r,h,i,o,ho=>by
  simp only[List.all_cons,Bool.and_eq_true] at h
  rw[fl] at ho
  by_cases e:j=i
  ·rw[if_pos e] at ho;subst ho;exact h.1
  ·rw[if_neg e] at ho;exact wm h.2 i o ho
theorem C_.refl {δ δ':DS}:∀{cs:List AV},AV.xZ δ'.qg δ'.pJ cs=true→C_ δ δ' cs cs
 |[],_=>trivial
 |c::cs,h=>by
  simp only[AV.xZ,Bool.and_eq_true] at h
  exact⟨.eq rfl h.1,C_.refl h.2⟩
theorem nV.gc (ks:List Nat) (hb:XO ks δ=true):nV g δ (δ.gc ks):=by
 intro κ a w r
 unfold XO at hb
 rw[Bool.and_eq_true] at hb
 refine OQ (g:=g) (δ:=δ) (δ':=δ.gc ks) rfl (fun j=> .eq rfl (CD hb.1 j)) (fun i o h=>?_) (fun i o h=>?_) κ a w r
 ·have h1:=wm hb.2 i o h
  have h2:δ.ob i=some o:=by
   rw[OD] at h
   split at h
   ·exact h
   ·cases h
  cases o with
  |row=>exact .row h2
  |box cs=>exact .box cs h2 (C_.refl h1)
  |mp l=>exact .mp h2 fun p hp=>List.all_eq_true.1 h1 p hp
  |mpl l k v=>
   simp only[q8,Bool.and_eq_true] at h1
   exact .mpl h2 rfl rfl (fun p hp=>List.all_eq_true.1 h1.1 p hp) (.eq rfl h1.2)
  |it l seen=>exact .it h2
  |lit T vals=>exact .lit h2
  |ff e rows=>exact .ff h2 rfl
  |loop=>exact .loop h2
 ·rw[OD] at h
  split at h
  ·exact r.nx i ⟨o,h⟩
  ·cases h
variable {k:Wt} {late:List Nat} {l:List Oper} {dn:List Nat} {QD:Exit→DS→Prop}
theorem AR.gc (ks:List Nat) (hb:XO ks δ=true) (h:AR P g k late l QD dn (δ.gc ks)):AR P g k late l QD dn δ:=AR.Fq (fun _ _=>nV.gc ks hb) h
end Go.Ab
/- Contracts of functions that change objects of their caller's. -/
namespace Go.Ab
open Go Go.RowKit
variable {P:Program} {g:e6} {δ:DS} {κ:Kp} {a:Act} {w:World}
variable {ops:Array Oper} {rest:List Oper} {Q:Exit→DS→Prop} {dst:Option Nat} {ty:TypeId} {pos:String} {af:Array Edge}
abbrev XS (gq:List (Nat×Option Ob)) (n:Nat):DS:=⟨0,[],gq,n⟩
abbrev O4:Act:={tmps:= #[],defers:=[]}
def gL:List (Nat×Option Ob)→List AV
 |[]=>[]
 |(i,some (.box _))::r=> .ptr i 0::gL r
 |(i,some (.lit _ _))::r=> .ptr i 0::gL r
 |(i,some (.mp _))::r=> .gz i::gL r
 |_::r=>gL r
structure sq {α:Type} (T:World→Prop) (P:Program) (E:α→Cx→World→Ending→Prop) (f:FuncId) (n0:Nat) (d_:List (Nat×Option Ob)) (args:List AV) (eZ:α→List (Nat×Option Ob)):Prop where
 enters:∀vals w,(callFunc f vals).run P w=.ok (.enter f vals) w
 calls:∀(g:e6) (κ:Kp) (w:World) (vals:Array Value),g.ro=none→g.wt=none→TB T g→Rel g (XS d_ n0) κ O4 w→vals.size=args.length→
  (∀(j:Nat) (v:Value) (av:AV),vals[j]? =some v→args[j]? =some av→RA ((XS d_ n0).cx g κ) w v av)→
  Calls P f vals w fun e w'=>∃x κ',E x ((XS (eZ x) n0).cx g κ') w' e∧Rel g (XS (eZ x) n0) κ' O4 w'∧∀i b,(AV.ptr i 0∈gL d_∨AV.gz i∈gL d_)→κ i=some b→κ' i=some b
def Q3 (r:AV) (C:Cx) (w:World) (e:Ending):Prop:=∃v,e=.returned v∧RA C w v r
def YQ (t:TypeId) (ch:List PanicEntry):Prop:=∃u:Value,ch=[{v:=.iface t (.agg #[u]),recovered:=false}]∧u.oneCell'=true
def W4 (t:TypeId) (_:Cx) (_:World) (e:Ending):Prop:=∃ch,e=.panicked ch∧YQ t ch
abbrev G2 (T:World→Prop) (P:Program) (f:FuncId) (n0:Nat) (d_:List (Nat×Option Ob)) (args:List AV) (eZ:List (Nat×Option Ob)) (r:AV):Prop:=sq (α:=Unit) T P (fun _=>Q3 r) f n0 d_ args (fun _=>eZ)
abbrev mg (P:Program) (f:FuncId) (n0:Nat) (d_:List (Nat×Option Ob)) (args:List AV) (eZ:List (Nat×Option Ob)) (r:AV):Prop:=sq (α:=Unit) (fun _=>True) P (fun _=>Q3 r) f n0 d_ args (fun _=>eZ)
abbrev ZA (T:World→Prop) (P:Program) (t:TypeId) (f:FuncId) (n0:Nat) (d_:List (Nat×Option Ob)) (args:List AV) (eZ:List (Nat×Option Ob)):Prop:=sq (α:=Unit) T P (fun _=>W4 t) f n0 d_ args (fun _=>eZ)
theorem sq.sub {α:Type} {T T':World→Prop} {P:Program} {E:α→Cx→World→Ending→Prop} {f:FuncId} {n0:Nat} {d_:List (Nat×Option Ob)} {args:List AV} {eZ:α→List (Nat×Option Ob)} (h:sq T P E f n0 d_ args eZ) (hT:∀w,T' w→T w):sq T' P E f n0 d_ args eZ:=⟨h.enters,fun g κ w vals h1 h2 h3=>h.calls g κ w vals h1 h2 (h3.sub hT)⟩
def sJ (gq:List (Nat×Option Ob)):List (Nat×Option Ob)→Bool
 |[]=>true
 |(i,some (.box _))::r=>(XS gq 0).pJ i && sJ gq r
 |(i,some (.lit _ _))::r=>(XS gq 0).pJ i && sJ gq r
 |(i,some (.mp _))::r=>(XS gq 0).pJ i && sJ gq r
 |_::r=>sJ gq r
theorem D3 {δ:DS} {i:Nat} (h:δ.pJ i=true) {C:Cx} {w:World} (ho:∀i o,δ.ob i=some o→nY C w i o):∃b,C.κ i=some b:=by
 obtain⟨o,h1,h2⟩:=lu h
 have h3:=ho i o h1
 cases o with
 |row=>simp [Ob.isRow] at h2
 |box cs=>obtain⟨b,_,_,h4,_⟩:=h3;exact⟨b,h4⟩
 |lit T vals=>obtain⟨b,h4,_⟩:=h3;exact⟨b,h4⟩
 |ff e rows=>unfold DS.pJ at h;rw[h1] at h;cases h
 |mp l=>obtain⟨b,_,_,h4,_⟩:=h3;exact⟨b,h4⟩
 |mpl l k v=>obtain⟨b,_,_,h4,_⟩:=h3;exact⟨b,h4⟩
 |it l seen=>obtain⟨b,h4,_⟩:=h3;exact⟨b,h4⟩
 |loop l tm ps jf body st=>obtain⟨b,_,h4,_⟩:=h3;exact⟨b,h4⟩
theorem kG {gq:List (Nat×Option Ob)} {n:Nat} (ho:∀i o,(XS gq n).ob i=some o→nY ((XS gq n).cx g κ) w i o):∀{l:List (Nat×Option Ob)},sJ gq l=true→∃vs:List Value,vs.length=(gL l).length∧∀(j:Nat) (u:Value) (c:AV),vs[j]? =some u→(gL l)[j]? =some c→RA ((XS gq n).cx g κ) w u c
 |[],_=>⟨[],rfl,fun j u c h=>by simp at h⟩
 |(i,none)::r,h=>kG ho (l:=r) h
 |(i,some .row)::r,h=>kG ho (l:=r) h
 |(i,some (.mpl _ _ _))::r,h=>kG ho (l:=r) h
 |(i,some (.it _ _))::r,h=>kG ho (l:=r) h
 |(i,some (.ff _ _))::r,h=>kG ho (l:=r) h
 |(i,some (.loop _ _ _ _ _ _))::r,h=>kG ho (l:=r) h
 |(i,some (.box cs))::r,h=>by
  simp only[sJ,Bool.and_eq_true] at h
  obtain⟨vs,h1,h2⟩:=kG ho h.2
  obtain⟨b,hb⟩:=D3 (δ:=XS gq n) h.1 ho
  refine⟨.pointer (some ⟨b,0,none⟩)::vs,by simp [gL,h1],fun j u c h3 h4=>?_⟩
  cases j with
  |zero=>simp [gL] at h3 h4;subst h3;subst h4;exact .ptr (lu (δ:=XS gq n) h.1) hb
  |succ j=>exact h2 j u c (by simpa using h3) (by simpa [gL] using h4)
 |(i,some (.lit _ _))::r,h=>by
  simp only[sJ,Bool.and_eq_true] at h
  obtain⟨vs,h1,h2⟩:=kG ho h.2
  obtain⟨b,hb⟩:=D3 (δ:=XS gq n) h.1 ho
  refine⟨.pointer (some ⟨b,0,none⟩)::vs,by simp [gL,h1],fun j u c h3 h4=>?_⟩
  cases j with
  |zero=>simp [gL] at h3 h4;subst h3;subst h4;exact .ptr (lu (δ:=XS gq n) h.1) hb
  |succ j=>exact h2 j u c (by simpa using h3) (by simpa [gL] using h4)
 |(i,some (.mp m))::r,h=>by
  simp only[sJ,Bool.and_eq_true] at h
  obtain⟨vs,h1,h2⟩:=kG ho h.2
  obtain⟨b,hb⟩:=D3 (δ:=XS gq n) h.1 ho
  refine⟨.map (some b)::vs,by simp [gL,h1],fun j u c h3 h4=>?_⟩
  cases j with
  |zero=>simp [gL] at h3 h4;subst h3;subst h4;exact .gz (lu (δ:=XS gq n) h.1) hb
  |succ j=>exact h2 j u c (by simpa using h3) (by simpa [gL] using h4)
abbrev XF (δ:DS) (d_ eZ:List (Nat×Option Ob)):DS:=⟨δ.n,[(1000,.agg (gL d_))],eZ,δ.nx⟩
def jw (P:Program) (rs:List ResultVar) (d_ eZ:List (Nat×Option Ob)) (r:AV):Exit→DS→Prop
 |.normal,δ|.ret,δ=>∃v,gn P δ rs v∧WV δ (XF δ d_ eZ) v r∧WV δ (XF δ d_ eZ) (δ.get 1000) (.agg (gL d_))∧oC δ (XF δ d_ eZ) eZ∧s5 δ.nx eZ=true
 |_,_=>False
def Oo (t:TypeId) (d_ eZ:List (Nat×Option Ob)):Exit→DS→Prop
 |.panic ch,δ=>YQ t ch∧WV δ (XF δ d_ eZ) (δ.get 1000) (.agg (gL d_))∧oC δ (XF δ d_ eZ) eZ∧s5 δ.nx eZ=true
 |_,_=>False
theorem RA.FO {C:Cx} {w:World} {u:Value} {i off:Nat} (h:RA C w u (.ptr i off)):∃b,u=.pointer (some ⟨b,off,none⟩)∧C.κ i=some b:=by
 cases h with
 |ptr hl hκ=>exact⟨_,rfl,hκ⟩
theorem RA.BU {C:Cx} {w:World} {u:Value} {i:Nat} (h:RA C w u (.gz i)):∃b,u=.map (some b)∧C.κ i=some b:=by
 cases h with
 |gz hl hκ=>exact⟨_,rfl,hκ⟩
theorem KL {C C':Cx} {w w':World} {vs:Array Value} {ps:List AV} (h:RA C w (.agg vs) (.agg ps)) (h':RA C' w' (.agg vs) (.agg ps)) {i b:Nat} (hp:AV.ptr i 0∈ps∨AV.gz i∈ps) (hb:C.κ i=some b):C'.κ i=some b:=by
 cases h with
 |agg hs h=>
  cases h' with
  |agg Ns h'=>
   rcases hp with hp|hp
   ·obtain⟨j,hj⟩:=List.getElem?_of_mem hp
    have fx:j<vs.size:=by rw[hs];exact(List.getElem?_eq_some_iff.1 hj).1
    have h1:=h j _ _ (Array.getElem?_eq_getElem fx) hj
    have h2:=h' j _ _ (Array.getElem?_eq_getElem fx) hj
    obtain⟨b1,e1,k1⟩:=h1.FO
    obtain⟨b2,e2,k2⟩:=h2.FO
    rw[e1] at e2
    cases e2
    rw[k1] at hb
    cases hb
    exact k2
   ·obtain⟨j,hj⟩:=List.getElem?_of_mem hp
    have fx:j<vs.size:=by rw[hs];exact(List.getElem?_eq_some_iff.1 hj).1
    have h1:=h j _ _ (Array.getElem?_eq_getElem fx) hj
    have h2:=h' j _ _ (Array.getElem?_eq_getElem fx) hj
    obtain⟨b1,e1,k1⟩:=h1.BU
    obtain⟨b2,e2,k2⟩:=h2.BU
    rw[e1] at e2
    cases e2
    rw[k1] at hb
    cases hb
    exact k2
theorem sq.enter {α:Type} {T:World→Prop} {E:α→Cx→World→Ending→Prop} {Q:Exit→DS→Prop} {f:FuncId} {fn:Func} {c:Code} {n n0:Nat} {d_:List (Nat×Option Ob)} {eZ:α→List (Nat×Option Ob)} {args:List AV} (hf:P.funcs[f]? =some fn) (hb:fn.body=some c) (hn:fn.ntmps=n) (Cy:Nat.ble args.length n=true)
  (p6:Nat.ble n HS=true) (he:(fn.name== "runtime.NumGoroutine")=false) (tx:sJ d_ d_=true) (vk:∀x,s5 n0 (eZ x)=true)
  (h:∀g:e6,g.ro=none→g.wt=none→TB T g→AW P g c Q ⟨n,enum 0 args++ [(1000,.agg (gL d_))],d_,n0⟩)
  (hQ:∀(g:e6) (e:Exit) (δ':DS) (κ':Kp) (a':Act) (w':World) (R:Ending→World→Prop),g.wt=none→g.base=[]→Q e δ'→Rel g δ' κ' a' w'→
   (∀x,WV δ' (XF δ' d_ (eZ x)) (δ'.get 1000) (.agg (gL d_))→oC δ' (XF δ' d_ (eZ x)) (eZ x)→s5 δ'.nx (eZ x)=true→
    ∀en w2,Rel g δ' κ' {a' with defers:=[]} w2→E x ((XF δ' d_ (eZ x)).cx g (uC δ' κ')) w2 en→R en w2)→bodyPostM Fence.wide 0 P fn R e a' w'):sq T P E f n0 d_ args eZ:=by
 refine⟨fun vals w=>by simp [callFunc,hf,hb];simpa using he,fun g κ w vals yf je TC oE hs fX=>?_⟩
 have hle:args.length≤n:=by simpa using Cy
 have LR:n≤HS:=by simpa using p6
 have hHS:HS=1000:=rfl
 obtain⟨ps,Qp,hpv⟩:=kG oE.obj tx
 have xt:g.base=[]:=by
  obtain⟨rs,e,_,_⟩:=oE.dfr
  exact(List.append_eq_nil_iff.1 e.symm).2
 have Zu:RA ((XS d_ n0).cx g κ) w (.agg ps.toArray) (.agg (gL d_)):=.agg (by simpa using Qp) fun j u c h1 h2=>hpv j u c (by simpa using h1) h2
 let g':e6:={g with held:=fun _=> .agg ps.toArray}
 let δ0:DS:=⟨n,enum 0 args++ [(1000,.agg (gL d_))],d_,n0⟩
 have Gw:∀(l:List AV) (i j:Nat),look (enum i l++ [(1000,AV.agg (gL d_))]) j=if i≤j∧j<i+l.length then look (enum i l) j else look [(1000,AV.agg (gL d_))] j:=by
  intro l
  induction l with
  |nil=>intro i j;rw[if_neg (by simp)];rfl
  |cons x l ih=>
   intro i j
   show look ((i,x)::(enum (i+1) l++_)) j=_
   rw[fH]
   by_cases e:i=j
   ·subst e
    rw[if_pos rfl,if_pos (by simp)]
    show x=look ((i,x)::enum (i+1) l) i
    rw[fH,if_pos rfl]
   ·rw[if_neg e,ih]
    simp only[List.length_cons]
    by_cases hj:i+1≤j∧j<i+1+l.length
    ·rw[if_pos hj,if_pos aJ]
     show _=look ((i,x)::enum (i+1) l) j
     rw[fH,if_neg e]
    ·rw[if_neg hj,if_neg aJ]
 have hR:Rel g' δ0 κ {tmps:=vals++Array.replicate (fn.ntmps - vals.size) undef,defers:=[]} w:=
  {n:=by show _=n;simp [hn];omega
   dfr:=by
    obtain⟨rs,e,h1,h2⟩:=oE.dfr
    have e0:=(List.append_eq_nil_iff.1 e.symm).1
    have e0:rs=[]:=by simpa using e0
    subst e0
    exact⟨[],by show []=_++g.base;rw[xt];rfl,h1,h2⟩
   env:=fun j=>by
    show RA ((XS d_ n0).cx g κ) w _ (look (enum 0 args++ [(1000,AV.agg (gL d_))]) j)
    rw[Gw]
    by_cases hj:j<args.length
    ·rw[if_pos aJ]
     have h1:look (enum 0 args) j=args[j]:=mZ args 0 j _ (Nat.zero_le _) (by simp [hj])
     have h2:g'.val {tmps:=vals++Array.replicate (fn.ntmps - vals.size) undef,defers:=[]} j=vals[j]'(by omega):=by
      unfold e6.val
      rw[if_pos aJ]
      simp [Array.getD_eq_getD_getElem?,Array.getElem?_append,hs,hj]
     rw[h1,h2]
     exact fX j _ _ (Array.getElem?_eq_getElem aJ) (List.getElem?_eq_getElem hj)
    ·rw[if_neg aJ,fH]
     by_cases e:1000=j
     ·rw[if_pos e]
      have h2:g'.val {tmps:=vals++Array.replicate (fn.ntmps - vals.size) undef,defers:=[]} j=.agg ps.toArray:=by
       unfold e6.val
       rw[if_neg aJ]
      rw[h2];exact Zu
     ·rw[if_neg e];exact .any _
   obj:=oE.obj,inj:=oE.inj,lo:=oE.lo,nx:=oE.nx,wt:=oE.wt,below:=oE.below,hB:=oE.hB,N0:=oE.N0,fr:=oE.fr
   km:=fun d hd=>by cases hd}
 have hw:=h g' yf je TC κ _ w hR
 rw[show g'.ro=none from yf] at hw
 refine callsIn_wide.1 (callsIn_of_wp_marks (n:=0) hf hb trivial (wpIn_mono hw ?_))
 rintro e a' w' ⟨δ',κ',hq,r'⟩
 refine hQ g' e δ' κ' a' w' _ je xt hq r' fun x hp ho hx en w2 r2 hE=>?_
 have hg:∀j,(XF δ' d_ (eZ x)).get j=if 1000=j then .agg (gL d_) else .any:=fun j=>fH _ _ _ _
 have r3:Rel g' (XF δ' d_ (eZ x)) (uC δ' κ') {a' with defers:=[]} w2:=Oe (g:=g') (δ:=δ') (δ':=XF δ' d_ (eZ x)) rfl (fun j=>by
   rw[hg]
   by_cases e:1000=j
   ·subst e;rw[if_pos rfl];exact hp
   ·rw[if_neg e];exact .any _) (fun i o h=>ho.at i o h) (fun i o h=>pS hx i o h) r2
 refine⟨x,uC δ' κ',hE,?_,fun i b hpi hb=>?_⟩
 ·exact
   {n:=rfl
    dfr:=by
     obtain⟨rs,e,h1,h2⟩:=r3.dfr
     have e0:=(List.append_eq_nil_iff.1 e.symm).1
     have e0:rs=[]:=by simpa using e0
     subst e0
     exact⟨[],by show []=_++g.base;rw[xt];rfl,h1,h2⟩
    env:=fun j=> .any _
    obj:=r3.obj,inj:=r3.inj,lo:=r3.lo,nx:=fun i ⟨o,h⟩=>pS (vk x) i o h,wt:=fun k hk=>by rw[je] at hk;cases hk
    below:=r3.below,hB:=r3.hB,N0:=r3.N0,fr:=r3.fr,km:=fun d hd=>by cases hd}
 ·have h3:=r3.env 1000
  rw[hg,if_pos rfl] at h3
  have h4:g'.val {a' with defers:=[]} 1000=.agg ps.toArray:=by
   unfold e6.val
   rw[if_neg aJ]
  rw[h4] at h3
  exact KL (C:=(XS d_ n0).cx g κ) (w:=w) Zu h3 hpi hb
theorem G2.enter {T:World→Prop} {f:FuncId} {fn:Func} {c:Code} {rs:List ResultVar} {n n0:Nat} {d_ eZ:List (Nat×Option Ob)} {args:List AV} {r:AV} (hf:P.funcs[f]? =some fn) (hb:fn.body=some c) (s6:fn.results=rs.toArray) (hn:fn.ntmps=n) (Cy:Nat.ble args.length n=true)
  (p6:Nat.ble n HS=true) (he:(fn.name== "runtime.NumGoroutine")=false) (tx:sJ d_ d_=true) (vk:s5 n0 eZ=true)
  (h:∀g:e6,g.ro=none→g.wt=none→TB T g→AW P g c (jw P rs d_ eZ r) ⟨n,enum 0 args++ [(1000,.agg (gL d_))],d_,n0⟩):G2 T P f n0 d_ args eZ r:=by
 refine sq.enter (Q:=jw P rs d_ eZ r) hf hb hn Cy p6 he tx (fun _=>vk) h fun g e δ' κ' a' w' R je xt hq r' hR=>?_
 have fin:∀v,gn P δ' rs v→WV δ' (XF δ' d_ eZ) v r→WV δ' (XF δ' d_ eZ) (δ'.get 1000) (.agg (gL d_))→oC δ' (XF δ' d_ eZ) eZ→s5 δ'.nx eZ=true→
   LeavesInM Fence.wide 0 P fn a'.tmps R a'.defers .returning w':=fun v h1 hv hp ho hx=>
  leaves (g:=g) je xt s6 h1 r' fun w2 r2 u hu=>hR () hp ho hx _ _ r2 ⟨u,rfl,hu.wv (δ:=δ') (δ':=XF δ' d_ eZ) r2.lB r2.obj hv⟩
 cases e with
 |normal=>obtain⟨v,h1,h2,h3,h4,h5⟩:=hq;exact fin v h1 h2 h3 h4 h5
 |ret=>obtain⟨v,h1,h2,h3,h4,h5⟩:=hq;exact fin v h1 h2 h3 h4 h5
 |_=>exact hq.elim
theorem mg.enter {f:FuncId} {fn:Func} {c:Code} {rs:List ResultVar} {n n0:Nat} {d_ eZ:List (Nat×Option Ob)} {args:List AV} {r:AV} (hf:P.funcs[f]? =some fn) (hb:fn.body=some c) (s6:fn.results=rs.toArray) (hn:fn.ntmps=n) (Cy:Nat.ble args.length n=true)
  (p6:Nat.ble n HS=true) (he:(fn.name== "runtime.NumGoroutine")=false) (tx:sJ d_ d_=true) (vk:s5 n0 eZ=true)
  (h:∀g:e6,g.ro=none→g.wt=none→AW P g c (jw P rs d_ eZ r) ⟨n,enum 0 args++ [(1000,.agg (gL d_))],d_,n0⟩):mg P f n0 d_ args eZ r:=G2.enter hf hb s6 hn Cy p6 he tx vk fun g h1 h2 _=>h g h1 h2
end Go.Ab
namespace Go.Ab
open Go Go.RowKit
variable {P:Program} {g:e6} {δ:DS} {κ:Kp} {a:Act} {w:World}
variable {ops:Array Oper} {rest:List Oper} {Q:Exit→DS→Prop} {dst:Option Nat} {ty:TypeId} {pos:String} {af:Array Edge}
theorem RA.to {C C':Cx} (hB:C'.B=C.B) (hN:∀b,C.N b→C'.N b) {lr lb:Nat→Bool} (nq:∀i,lr i=true→C'.Lr i∧C'.κ i=C.κ i) (vy:∀i,lb i=true→C'.Lb i∧C'.κ i=C.κ i) {v:Value} {av:AV} (h:RA C w v av) (hi:av.ids lr lb=true):RA C' w v av:=by
 have hp:∀{v:Value} {p:PV},RP C.N w v p→RP C'.N w v p:=fun h=>h.mono (Nat.le_refl _) fun b _ h2=>⟨hN b h2,rfl⟩
 have ho:∀{v:Value} {i e k fc},jv C w v i e k fc→lr i=true→jv C' w v i e k fc:=by
  intro v i e k fc h hl
  obtain⟨h1,h2,h3,h4,xs,h5,h6,h7⟩:=h
  refine⟨(nq i hl).1,h2,h3,fun b hb=>(nq i hl).2.trans (h4 b hb),xs,?_,h6,fun i' j p mq=>let ⟨u,h8,h9⟩:=h7 i' j p mq;⟨u,h8,hp h9⟩⟩
  rw[hB];exact h5
 induction h with
 |any v=>exact .any v
 |pv h=>exact .pv (hp h)
 |own h=>exact .own (ho h hi)
 |ptr hl hκ=>exact .ptr (vy _ hi).1 ((vy _ hi).2.trans hκ)
 |gp b off vs H5 hb hc hr=>exact .gp b off vs (hN _ H5) hb hc (fun j p h=>hp (hr j p h))
 |gN fx h=>exact .gN fx (ho h hi)
 |agg hs h ih=>exact .agg hs fun j u c h1 h2=>ih j u c h1 h2 (AV.lX _ hi j c h2)
 |gM hs h ih=>exact .gM hs fun j u c h1 h2=>ih j u c h1 h2 (AV.lX _ hi j c h2)
 |jJ hs h ht h' ih ih'=>
  simp only[AV.ids,Bool.and_eq_true] at hi
  exact .jJ hs (fun j u c h1 h2=>ih j u c h1 h2 (AV.lX _ hi.1 j c h2)) ht (fun j u c h1 h2=>ih' j u c h1 h2 (AV.lX _ hi.2 j c h2))
 |gz hl hκ=>exact .gz (vy _ hi).1 ((vy _ hi).2.trans hκ)
 |kZ hl hκ=>exact .kZ (vy _ hi).1 ((vy _ hi).2.trans hκ)
theorem nY.to {C C':Cx} (hB:C'.B=C.B) (hN:∀b,C.N b→C'.N b) {lr lb:Nat→Bool} (nq:∀i,lr i=true→C'.Lr i∧C'.κ i=C.κ i) (vy:∀i,lb i=true→C'.Lb i∧C'.κ i=C.κ i) {i:Nat} {o:Ob} (hκ:C'.κ i=C.κ i) (hF:∀b,C.κ.F i b→C'.κ.F i b) (h:nY C w i o) (hi:q8 lr lb o=true):nY C' w i o:=by
 cases o with
 |row=>intro b hb;rw[hκ] at hb;exact h b hb
 |lit T vals=>obtain⟨b,h1,h2⟩:=h;exact⟨b,hκ.trans h1,h2⟩
 |ff e rows=>exact⟨hκ.trans h.1,fun k=>(h.2.1 k).goes hB fun b _ h2 _=>⟨hF b h2,rfl⟩,h.2.2⟩
 |box cs=>
  obtain⟨b,c,e,h1,h2,h3,h4⟩:=h
  exact⟨b,c,e,hκ.trans h1,h2,h3,fun j u av h5 h6=>⟨(h4 j u av h5 h6).1.to hB hN nq vy (AV.lX _ hi j av h6),(h4 j u av h5 h6).2⟩⟩
 |mp l=>
  obtain⟨b,es,clock,h1,h2,h3,h4⟩:=h
  exact⟨b,es,clock,hκ.trans h1,h2,⟨h3.1,fun j e p h5 h6=>⟨(h3.2 j e p h5 h6).1,(h3.2 j e p h5 h6).2.to hB hN nq vy (List.all_eq_true.1 hi p (List.mem_of_getElem? h6))⟩⟩,h4⟩
 |mpl l k v=>
  obtain⟨b,es,clock,h1,h2,h3,h4⟩:=h
  simp only[q8,Bool.and_eq_true] at hi
  exact⟨b,es,clock,hκ.trans h1,h2,h3.last (fun u p hp h=>h.to hB hN nq vy (List.all_eq_true.1 hi.1 p hp)) (fun u h=>h.to hB hN nq vy hi.2),h4⟩
 |it l seen=>
  obtain⟨b,h1,h2⟩:=h
  exact⟨b,hκ.trans h1,h2.mono (Nat.le_refl _) (fun b _ h=>⟨hN b h,rfl⟩) rfl⟩
 |loop l tm ps jf body st=>
  obtain⟨b,lr',h1,h2⟩:=h
  exact⟨b,lr',hκ.trans h1,h2⟩
def kf:List (Nat×Option Ob)→List (Nat×Option Ob)→Bool
 |[],[]=>true
 |(i,some .row)::r,(j,some .row)::r'=>Nat.beq i j && kf r r'
 |(i,some (.box _))::r,(j,some (.box _))::r'=>Nat.beq i j && kf r r'
 |(i,some (.lit _ _))::r,(j,some (.box _))::r'=>Nat.beq i j && kf r r'
 |(i,some (.mp _))::r,(j,some (.mp _))::r'=>Nat.beq i j && kf r r'
 |(i,some (.ff _ _))::r,(j,some (.ff _ _))::r'=>Nat.beq i j && kf r r'
 |_,_=>false
inductive Kind (l0 l1:List (Nat×Option Ob)) (i:Nat):Prop
 |none (h0:fg l0 i=.none) (h1:fg l1 i=.none)
 |row (h0:fg l0 i=some .row) (h1:fg l1 i=some .row)
 |box (c d:List AV) (h0:fg l0 i=some (.box c)) (h1:fg l1 i=some (.box d)) (hp:AV.ptr i 0∈gL l0)
 |lit (T:TypeId) (vals:Array Value) (d:List AV) (h0:fg l0 i=some (.lit T vals)) (h1:fg l1 i=some (.box d)) (hp:AV.ptr i 0∈gL l0)
 |mp (c d:List (Value×AV)) (h0:fg l0 i=some (.mp c)) (h1:fg l1 i=some (.mp d)) (hp:AV.gz i∈gL l0)
 |ff (e e':TypeId) (c d:Nat→Value×List Value) (h0:fg l0 i=some (.ff e c)) (h1:fg l1 i=some (.ff e' d))
theorem Kind.skip {j:Nat} {o o':Option Ob} {r r':List (Nat×Option Ob)} {i:Nat} (h:Kind r r' i) (fZ:¬j=i):Kind ((j,o)::r) ((j,o')::r') i:=by
 have e0:∀(o:Option Ob) (r:List (Nat×Option Ob)),fg ((j,o)::r) i=fg r i:=fun o r=>by rw[fl,if_neg fZ]
 have hp:∀{c:AV},c∈gL r→c∈gL ((j,o)::r):=fun {c} h=>by
  rcases o with _|o
  ·exact h
  ·cases o<;>simp only[gL]<;>first|exact h|exact List.mem_cons_of_mem _ h
 cases h with
 |none h0 h1=>exact .none ((e0 _ _).trans h0) ((e0 _ _).trans h1)
 |row h0 h1=>exact .row ((e0 _ _).trans h0) ((e0 _ _).trans h1)
 |box c d h0 h1 h2=>exact .box c d ((e0 _ _).trans h0) ((e0 _ _).trans h1) (hp h2)
 |lit T vals d h0 h1 h2=>exact .lit T vals d ((e0 _ _).trans h0) ((e0 _ _).trans h1) (hp h2)
 |mp c d h0 h1 h2=>exact .mp c d ((e0 _ _).trans h0) ((e0 _ _).trans h1) (hp h2)
 |ff e e' c d h0 h1=>exact .ff e e' c d ((e0 _ _).trans h0) ((e0 _ _).trans h1)
theorem om:∀{l0 l1:List (Nat×Option Ob)},kf l0 l1=true→∀i,Kind l0 l1 i
 |[],[],_,i=> .none rfl rfl
 |(j,some .row)::r,(j',some .row)::r',h,i=>by
  simp only[kf,Bool.and_eq_true] at h
  obtain rfl:=Nat.eq_of_beq_eq_true h.1
  by_cases e:j=i
  ·subst e;exact .row (by rw[fl,if_pos rfl]) (by rw[fl,if_pos rfl])
  ·exact(om h.2 i).skip e
 |(j,some (.box c))::r,(j',some (.box d))::r',h,i=>by
  simp only[kf,Bool.and_eq_true] at h
  obtain rfl:=Nat.eq_of_beq_eq_true h.1
  by_cases e:j=i
  ·subst e;exact .box c d (by rw[fl,if_pos rfl]) (by rw[fl,if_pos rfl]) (by simp [gL])
  ·exact(om h.2 i).skip e
 |(j,some (.lit T c))::r,(j',some (.box d))::r',h,i=>by
  simp only[kf,Bool.and_eq_true] at h
  obtain rfl:=Nat.eq_of_beq_eq_true h.1
  by_cases e:j=i
  ·subst e;exact .lit T c d (by rw[fl,if_pos rfl]) (by rw[fl,if_pos rfl]) (by simp [gL])
  ·exact(om h.2 i).skip e
 |(j,some (.mp c))::r,(j',some (.mp d))::r',h,i=>by
  simp only[kf,Bool.and_eq_true] at h
  obtain rfl:=Nat.eq_of_beq_eq_true h.1
  by_cases e:j=i
  ·subst e;exact .mp c d (by rw[fl,if_pos rfl]) (by rw[fl,if_pos rfl]) (by simp [gL])
  ·exact(om h.2 i).skip e
 |(j,some (.ff e c))::r,(j',some (.ff e' d))::r',h,i=>by
  simp only[kf,Bool.and_eq_true] at h
  obtain rfl:=Nat.eq_of_beq_eq_true h.1
  by_cases e0:j=i
  ·subst e0;exact .ff e e' c d (by rw[fl,if_pos rfl]) (by rw[fl,if_pos rfl])
  ·exact(om h.2 i).skip e0
def jo:List (Nat×Option Ob)→List Nat
 |[]=>[]
 |(i,some .row)::r=>i::jo r
 |_::r=>jo r
theorem x9:∀{l:List (Nat×Option Ob)} {i:Nat},fg l i=some .row→mn i (jo l)=true
 |[],i,h=>by simp [fg] at h
 |(j,o)::r,i,h=>by
  rw[fl] at h
  have hm:∀(b:Bool),(bif b then true else mn i (jo r))=true∨mn i (jo r)=false:=fun b=>by cases b<;>cases mn i (jo r)<;>simp
  by_cases e:j=i
  ·rw[if_pos e] at h
   subst h
   subst e
   simp only[jo,wL,beq_self_eq_true,cond_true]
  ·rw[if_neg e] at h
   have:=x9 h
   rcases o with _|o
   ·exact this
   ·cases o<;>simp only[jo,wL]<;>first|exact this|(rw[this];cases (i==j)<;>rfl)
def pM (rs:List Nat):AV→AV
 |.own j e k fc=>bif mn j rs then .any else .own j e k fc
 |.gN j e k fc n=>bif mn j rs then .any else .gN j e k fc n
 |v=>v
def AV.iF (rs:List Nat):AV→AV:=AV.mp (pM rs)
def Cx.uJ (C:Cx) (rs:List Nat):Cx:={C with Lr:=fun j=>C.Lr j∧mn j rs=false,κ:=⟨C.κ.f,fun _ _=>False⟩}
theorem RA.iF {C C':Cx} {rs:List Nat} {w w':World} (G:kr (C.uJ rs) w C' w') {v:Value} {av:AV} (h:RA C w v av):RA C' w' v (av.iF rs):=by
 have BJ:∀{v j e k fc},jv C w v j e k fc→mn j rs=false→jv (C.uJ rs) w v j e k fc:=fun h hj=>⟨⟨h.live,hj⟩,h.lim,h.hk,h.vm,h.row⟩
 unfold AV.iF
 induction h with
 |any v=>exact .any v
 |pv h=>exact .pv (G.rp h)
 | @own v j e k fc h=>
  simp only[AV.mp,pM]
  cases hj:mn j rs with
  |true=>exact .any _
  |false=>exact .own (G.GF (BJ h hj))
 |ptr hl hκ=>exact .ptr (G.Lb _ hl).1 ((G.Lb _ hl).2.trans hκ)
 |gp b off vs hN hb hc hr=>exact G.ra (C:=C.uJ rs) (.gp b off vs hN hb hc hr)
 | @gN j e k fc n b cap hn h=>
  simp only[AV.mp,pM]
  cases hj:mn j rs with
  |true=>exact .any _
  |false=>exact .gN hn (G.GF (BJ h hj))
 | @agg vs cs hs h ih=>
  simp only[AV.mp,AV.jG]
  refine .agg (by simpa using hs) fun j u c h1 h2=>?_
  simp only[List.getElem?_map,Option.map_eq_some_iff] at h2
  obtain⟨c',h2,rfl⟩:=h2
  exact ih j u c' h1 h2
 | @gM vs cs hs h ih=>
  simp only[AV.mp,AV.jG]
  refine .gM (by simpa using hs) fun j u c h1 h2=>?_
  simp only[List.getElem?_map,Option.map_eq_some_iff] at h2
  obtain⟨c',h2,rfl⟩:=h2
  exact ih j u c' h1 h2
 | @jJ fn vs us cs ds hs h ht h' ih ih'=>
  simp only[AV.mp,AV.jG]
  refine .jJ (by simpa using hs) (fun j u c h1 h2=>?_) (by simpa using ht) (fun j u c h1 h2=>?_)
  ·simp only[List.getElem?_map,Option.map_eq_some_iff] at h2
   obtain⟨c',h2,rfl⟩:=h2
   exact ih j u c' h1 h2
  ·simp only[List.getElem?_map,Option.map_eq_some_iff] at h2
   obtain⟨c',h2,rfl⟩:=h2
   exact ih' j u c' h1 h2
 |gz hl hκ=>exact .gz (G.Lb _ hl).1 ((G.Lb _ hl).2.trans hκ)
 |kZ hl hκ=>exact .kZ (G.Lb _ hl).1 ((G.Lb _ hl).2.trans hκ)
theorem RA.uJ {C:Cx} {rs:List Nat} {w:World} {v:Value} {av:AV} (h:RA C w v av) (hn:av.kD=true):RA (C.uJ rs) w v av:=by
 cases h with
 |any v=>exact .any v
 |pv h=>exact .pv h
 |own h=>simp [AV.kD] at hn
 |ptr hl hκ=>exact .ptr hl hκ
 |gp b off vs hN hb hc hr=>exact .gp b off vs hN hb hc hr
 |gN hi h=>simp [AV.kD] at hn
 |agg hs h=>simp [AV.kD] at hn
 |gM hs h=>simp [AV.kD] at hn
 |jJ hs h ht h'=>simp [AV.kD] at hn
 |gz hl hκ=>exact .gz hl hκ
 |kZ hl hκ=>exact .kZ hl hκ
def BW (δ:DS):List (Nat×Option Ob)→Prop
 |[]=>True
 |(i,o)::r=>δ.ob i=o∧BW δ r
theorem BW.at {δ:DS}:∀{l:List (Nat×Option Ob)},BW δ l→∀i o,fg l i=some o→δ.ob i=some o
 |[],_,i,o,h=>by simp [fg] at h
 |(j,x)::r,hs,i,o,h=>by
  rw[fl] at h
  by_cases e:j=i
  ·rw[if_pos e] at h;subst e;rw[hs.1];exact h
  ·rw[if_neg e] at h;exact hs.2.at i o h
inductive Tf (lr lb:Nat→Bool):AV→AV→Prop
 |any (c:AV):Tf lr lb c .any
 |eq {c d:AV} (h:c=d) (hi:d.ids lr lb=true):Tf lr lb c d
 |nil (k:Nat):Tf lr lb (.pv (.lit (.slice none 0 0))) (.pv (.slice k []))
inductive uY (lr lb:Nat→Bool):List AV→List AV→Prop
 |nil:uY lr lb [] []
 |cons {c d:AV} {cs ds:List AV} (h:Tf lr lb c d) (hs:uY lr lb cs ds):uY lr lb (c::cs) (d::ds)
theorem uY.len {lr lb:Nat→Bool} {cs ds:List AV} (h:uY lr lb cs ds):cs.length=ds.length:=by induction h with|nil=>rfl|cons h hs ih=>simp [ih]
theorem uY.at {lr lb:Nat→Bool} {cs ds:List AV} (h:uY lr lb cs ds):∀(j:Nat) (c d:AV),cs[j]? =some c→ds[j]? =some d→Tf lr lb c d:=by
 induction h with
 |nil=>intro j c d h1;simp at h1
 |cons h hs ih=>
  intro j c d h1 h2
  cases j with
  |zero=>simp at h1 h2;subst h1;subst h2;exact h
  |succ j=>exact ih j c d (by simpa using h1) (by simpa using h2)
def DS.ij (δ:DS) (d_ eZ:List (Nat×Option Ob)):DS:={(δ.gF (AV.iF (jo d_))) with gq:=eZ++(δ.gF (AV.iF (jo d_))).gq}
theorem CQ:∀{l l':List (Nat×Option Ob)} {i:Nat},(∀p∈l,p.2.isSome=true)→fg (l++l') i=match fg l i with|some o=>some o|none=>fg l' i
 |[],l',i,_=>rfl
 |(j,o)::r,l',i,h=>by
  rw[List.cons_append,fl,fl]
  by_cases e:j=i
  ·rw[if_pos e,if_pos e]
   have:=h (j,o) (by simp)
   cases o with
   |none=>simp at this
   |some o=>rfl
  ·rw[if_neg e,if_neg e];exact CQ fun p hp=>h p (by simp [hp])
theorem lR:∀{l0 l1:List (Nat×Option Ob)},kf l0 l1=true→∀p∈l1,p.2.isSome=true
 |[],[],_,p,hp=>by simp at hp
 |(j,some .row)::r,(j',some .row)::r',h,p,hp=>by
  simp only[kf,Bool.and_eq_true] at h
  rcases List.mem_cons.1 hp with rfl|hp
  ·rfl
  ·exact lR h.2 p hp
 |(j,some (.box c))::r,(j',some (.box d))::r',h,p,hp=>by
  simp only[kf,Bool.and_eq_true] at h
  rcases List.mem_cons.1 hp with rfl|hp
  ·rfl
  ·exact lR h.2 p hp
 |(j,some (.lit T c))::r,(j',some (.box d))::r',h,p,hp=>by
  simp only[kf,Bool.and_eq_true] at h
  rcases List.mem_cons.1 hp with rfl|hp
  ·rfl
  ·exact lR h.2 p hp
 |(j,some (.mp c))::r,(j',some (.mp d))::r',h,p,hp=>by
  simp only[kf,Bool.and_eq_true] at h
  rcases List.mem_cons.1 hp with rfl|hp
  ·rfl
  ·exact lR h.2 p hp
 |(j,some (.ff e c))::r,(j',some (.ff e' d))::r',h,p,hp=>by
  simp only[kf,Bool.and_eq_true] at h
  rcases List.mem_cons.1 hp with rfl|hp
  ·rfl
  ·exact lR h.2 p hp
theorem GM (rs:List Nat):AV.iF rs .any=.any:=rfl
end Go.Ab
/- Callees that rewrite a row of numbers in place:Go's slices.Sort,slices.Compact. -/
namespace Go.Ab
open Go Go.RowKit
variable {P:Program} {g:e6} {δ:DS} {κ:Kp} {a:Act} {w:World}
def nI (z:Int):List PV:=[.lit (.int .i64 z)]
structure MV (P:Program) (f:FuncId) (out:List Int→List Int) (ret:Option (List Int→Nat)):Prop where
 enters:∀vals w,(callFunc f vals).run P w=.ok (.enter f vals) w
 len:∀zs,(out zs).length=zs.length
 retle:∀r,ret=some r→∀zs,r zs≤zs.length
 calls:∀(b cap:Nat) (zs:List Int) (w:World),Sort.Holds (Value.int .i64) w b 0 zs.toArray→b<w.heap.size→zs.length≤140737488355328→zs.length≤cap→
  Calls P f #[.slice (some ⟨b,0,none⟩) zs.length cap] w fun e w'=>e=.returned (match ret with|none=> .tuple #[]|some r=> .slice (some ⟨b,0,none⟩) (r zs) cap)∧
   ∃n os,w'=Sort.grow (Sort.putRow (Value.int .i64) (Sort.ahead w n) b 0 (out zs).toArray) os
 nil:∀w,Calls P f #[.slice none 0 0] w fun e w'=>e=.returned (match ret with|none=> .tuple #[]|some _=> .slice none 0 0)∧Below w.heap.size w w'
theorem Cj {w:World} {b n:Nat} {c:Array Value} {e:TypeId} {d:Array Int} {os:Array Obj} (h:w.heap[b]? =some (.cells c e (0,0))):
  (Sort.grow (Sort.putRow (Value.int .i64) (Sort.ahead w n) b 0 d) os).heap[b]? =some (.cells (Sort.putCells (Value.int .i64) 0 d c) e (0,0)):=by
 have hb:b<w.heap.size:=(Array.getElem?_eq_some_iff.1 h).1
 unfold Sort.grow Sort.putRow Sort.mapBlock Sort.ahead
 simp only
 rw[Array.getElem?_append_left (by simpa using hb),Array.getElem?_modify,if_pos rfl,h]
 rfl
theorem Aw {w:World} {b n k:Nat} {d:Array Int} {os:Array Obj} (hk:k<w.heap.size) (fZ:b≠k):
  (Sort.grow (Sort.putRow (Value.int .i64) (Sort.ahead w n) b 0 d) os).heap[k]? =w.heap[k]?:=by
 unfold Sort.grow Sort.putRow Sort.mapBlock Sort.ahead
 simp only
 rw[Array.getElem?_append_left (by simpa using hk),Array.getElem?_modify,if_neg fZ]
theorem Ag (w:World) (b n:Nat) (d:Array Int) (os:Array Obj):iw w (Sort.grow (Sort.putRow (Value.int .i64) (Sort.ahead w n) b 0 d) os) (some b):=
 ⟨rfl,rfl,rfl,by simp [Sort.grow,Sort.putRow,Sort.mapBlock,Sort.ahead],fun k hk fZ=>Aw hk (fun e=>fZ (by rw[e]))⟩
theorem xS {c:Array Value} {d:List Int} (hc:d.length≤c.size):(Sort.putCells (Value.int .i64) 0 d.toArray c).toList.take d.length=d.map (Value.int .i64):=by
 apply List.ext_getElem
 ·simp [Sort.putCells];omega
 ·intro j h1 h2
  have hj:j<d.length:=by simpa using h2
  simp [Sort.putCells,hj]
theorem MB {w:World} {N:Nat→Prop} {xs:List Value} {zs:List Int} (hl:xs.length=zs.length*1) (hx:∀i' j p,cellAt (zs.map nI) i' j=some p→∃u,xs[i'*1+j]? =some u∧RP N w u p):xs=zs.map (Value.int .i64):=by
 apply List.ext_getElem
 ·simp [hl]
 ·intro j h1 h2
  have hj:j<zs.length:=by simpa using h2
  obtain⟨u,hu,hr⟩:=hx j 0 (.lit (.int .i64 zs[j])) (by simp [cellAt,hj,nI])
  cases hr
  rw[Nat.mul_one,Nat.add_zero,List.getElem?_eq_getElem h1] at hu
  simpa using hu
def jQ (δ:DS) (v:AV):List Nat→DS
 |[]=>δ
 |t::ts=>(jQ δ v ts).put t v
theorem CW (δ:DS) (v:AV) (ts:List Nat):(jQ δ v ts).n=δ.n:=by induction ts with|nil=>rfl|cons t ts ih=>exact ih
def yn (δ:DS) (v:AV):List Nat→Prop
 |[]=>True
 |t::ts=>δ.get t=v∧yn δ v ts
theorem Pf (δ:DS) (t:Nat) (v:AV):(δ.put t v).cx g κ=δ.cx g κ:=rfl
theorem mW (δ:DS) (v:AV):∀ts,(jQ δ v ts).cx g κ=δ.cx g κ
 |[]=>rfl
 |t::ts=>by show((jQ δ v ts).put t v).cx g κ=_;rw[Pf,mW δ v ts]
theorem Rel.sP (r:Rel g δ κ a w) {t:Nat} {v:AV} (h:RA (δ.cx g κ) w (g.val a t) v):Rel g (δ.put t v) κ a w where
 n:=r.n
 dfr:=r.dfr
 env:=fun j=>by
  rw[EZ]
  by_cases e:t=j
  ·subst e;rw[if_pos rfl];exact h
  ·rw[if_neg e];exact r.env j
 obj:=r.obj
 inj:=r.inj
 lo:=r.lo
 nx:=r.nx
 wt:=r.wt
 below:=r.below
 hB:=r.hB
 N0:=r.N0
 fr:=r.fr
 km:=r.km
theorem Rel.pV (r:Rel g δ κ a w) {v:AV}:∀ts:List Nat,(∀t∈ts,RA (δ.cx g κ) w (g.val a t) v)→Rel g (jQ δ v ts) κ a w
 |[],_=>r
 |t::ts,h=>(Rel.pV r ts fun t ht=>h t (by simp [ht])).sP (by rw[mW];exact h t (by simp))
theorem qD {δ:DS} {v:AV}:∀{ts:List Nat},yn δ v ts→∀t∈ts,δ.get t=v
 |[],_,t,h=>by simp at h
 |x::ts,h,t,ht=>by
  rcases List.mem_cons.1 ht with rfl|ht
  ·exact h.1
  ·exact qD h.2 t ht
variable {ops:Array Oper} {rest:List Oper} {Q:Exit→DS→Prop} {dst:Option Nat} {ty:TypeId} {pos:String} {af:Array Edge} {gd:Option (Tmp×Bool)}
def AE (i:Nat) (e:TypeId) (zs os:List Int):Option (List Int→Nat)→AV
 |none=> .gM []
 |some r=> .own i e 1 ((os.take (r zs)).map nI)
theorem jv.jX {C:Cx} {w:World} {v:Value} {i:Nat} {e:TypeId} {zs:List Int} (h:jv C w v i e 1 (zs.map nI)):
  (v=.slice none 0 0∧zs=[])∨∃b cap c,v=.slice (some ⟨b,0,none⟩) zs.length cap∧C.κ i=some b∧C.B≤b∧w.heap[b]? =some (.cells c e (0,0))∧zs.length≤cap∧cap≤maxLen∧c.size=cap∧c.toList.take zs.length=zs.map (Value.int .i64):=by
 obtain⟨xs,⟨hl,gD⟩,_,hx⟩:=h.row
 rw[List.length_map] at hl gD
 have NY:=MB hl hx
 rcases gD with ⟨rfl,h0⟩|⟨b,cap,c,rfl,h1,h2,h3,h4,h5,h6⟩
 ·exact .inl ⟨rfl,List.eq_nil_of_length_eq_zero h0⟩
 ·refine .inr ⟨b,cap,c,rfl,h.vm b rfl,h1,h2,h3,h4,by omega,?_⟩
  rw[← NY,← h6,Nat.mul_one]
theorem jv.Di {C:Cx} {w:World} {i b cap:Nat} {e:TypeId} {zs:List Int} {c:Array Value} (hl:C.Lr i) (hκ:C.κ i=some b) (hB:C.B≤b) (h2:w.heap[b]? =some (.cells c e (0,0))) (h3:zs.length≤cap) (h4:cap≤maxLen) (h5:c.size=cap)
  (h6:c.toList.take zs.length=zs.map (Value.int .i64)) (lG:zs.length≤140737488355328):jv C w (.slice (some ⟨b,0,none⟩) zs.length cap) i e 1 (zs.map nI):=by
 refine⟨hl,by simpa using lG,fun c hc=>?_,fun b' iU=>?_,zs.map (Value.int .i64),⟨by simp,.inr ⟨b,cap,c,by simp,hB,h2,by simpa using h3,h4,by omega,by simpa using h6⟩⟩,fun u hu=>?_,fun i' j p hp=>?_⟩
 ·obtain⟨z,_,rfl⟩:=List.mem_map.1 hc;rfl
 ·cases iU;exact hκ
 ·obtain⟨z,_,rfl⟩:=List.mem_map.1 hu;rfl
 ·unfold cellAt at hp
  rw[List.getElem?_map] at hp
  cases hz:zs[i']? with
  |none=>rw[hz] at hp;simp at hp
  |some z=>
   rw[hz] at hp
   cases j with
   |zero=>
    simp [nI] at hp
    subst hp
    exact⟨.int .i64 z,by rw[Nat.mul_one,Nat.add_zero,List.getElem?_map,hz];rfl,.lit _⟩
   |succ j=>simp [nI] at hp
theorem iQ.Mf {f:FuncId} {x:Operand} {tys:Array TypeId} {out:List Int→List Int} {ret:Option (List Int→Nat)} (hf:MV P f out ret) (ts:List Nat) {i:Nat} {e:TypeId} {zs:List Int} (hx:δ.ev x=.own i e 1 (zs.map nI)) (tq:yn δ (.own i e 1 (zs.map nI)) ts) (hr:δ.ob i=some .row)
  (ho:fq x=true) (hd:fR δ.n dst=true):
  iQ P g ⟨dst,.call {callee:=.value (.func f),args:= #[x],argTypes:=tys},ty,pos,af,none⟩ δ ((jQ (δ.gF (AV.kill i)) (.own i e 1 ((out zs).map nI)) ts).eY dst (AE i e zs (out zs) ret)):=by
 intro κ a w r
 right
 have xJ:=(r.ra hx ho).iH
 have fw:=j3 (dst:=dst) (ty:=ty) (pos:=pos) (af:=af) (xs:= #[x]) (tys:=tys) (ρ:=a.eval) (x:=.func f) (f:=f) rfl hf.enters w
 have lG:zs.length≤140737488355328:=by simpa using xJ.lim
 refine⟨f, #[a.eval x],by simpa using fw,?_⟩
 have rU:∀ts,fR (jQ (δ.gF (AV.kill i)) (.own i e 1 ((out zs).map nI)) ts).n dst=true:=fun ts=>by rw[CW];exact hd
 have nq:∀κ',((δ.gF (AV.kill i)).cx g κ').Lr i:=fun κ'=>by
  show(δ.gF (AV.kill i)).ob i=some .row
  rw[kb,hr];rfl
 have lH:∀t∈ts,jv (δ.cx g κ) w (g.val a t) i e 1 (zs.map nI):=fun t ht=>by
  have:=r.env t
  rw[qD tq t ht] at this
  exact this.iH
 have PE:∀{w':World},jv ((δ.gF (AV.kill i)).cx g κ) w' (.slice none 0 0) i e 1 (([]:List Int).map nI):=fun {w'}=>
  ⟨nq κ,(by simp),(fun c hc=>by simp at hc),(fun b hb=>by cases hb),⟨[],⟨by simp,.inl ⟨rfl,rfl⟩⟩,(fun u hu=>by simp at hu),(fun i' j p hp=>by simp [cellAt] at hp)⟩⟩
 rcases xJ.jX with ⟨hv,rfl⟩|⟨b,cap,c,hv,hκ,hB,hb,n_,nC,n6,qu⟩
 ·
  rw[hv]
  refine(hf.nil w).mono fun e' w' ⟨he,Pm⟩=>?_
  have r1:=r.ext Pm
  have e0:out []=[]:=List.eq_nil_of_length_eq_zero (by rw[hf.len];rfl)
  have rk:Rel g (δ.gF (AV.kill i)) κ a w':=by
   refine(r1.row hr (κ':=κ) (fun _ _=>rfl) ⟨rfl,rfl,rfl,Nat.le_refl _,fun _ _ _=>rfl⟩ (fun b iU=>?_) (AV.kill i) rfl (fun G v av h=>h.kill G)).1
   obtain⟨c,e',h1⟩:=r1.obj i .row hr b iU
   exact⟨.inl iU,(Array.getElem?_eq_some_iff.1 h1).1,c,e',h1⟩
  have ra:Rel g (jQ (δ.gF (AV.kill i)) (.own i e 1 ((out []).map nI)) ts) κ a w':=by
   refine rk.pV ts fun t ht=> .own ?_
   have h1:=r1.env t
   rw[qD tq t ht] at h1
   rw[e0]
   rcases h1.iH.jX with ⟨h2,_⟩|⟨b,cap,c,h2,hκ,hB,hb,n_,nC,n6,qu⟩
   ·rw[h2];exact PE
   ·rw[h2];exact jv.Di (nq κ) hκ hB hb n_ nC n6 qu (by simp)
  refine⟨_,κ,he,ra.eY (fv (rU ts)) ?_⟩
  cases ret with
  |none=>exact .gM rfl (fun j u c h=>by simp at h)
  |some rr=>
   show RA _ _ _ (.own i e 1 (((out []).take (rr [])).map nI))
   rw[e0,mW]
   exact .own (by simpa using PE)
 ·rw[hv]
  have hκ0:κ i=some b:=hκ
  have RN:b<w.heap.size:=(Array.getElem?_eq_some_iff.1 hb).1
  have hold:Sort.Holds (Value.int .i64) w b 0 zs.toArray:=by
   intro j hj
   have n8:j<zs.length:=by simpa using hj
   refine⟨?_,by rw[Nat.zero_add];exact mX hb _⟩
   rw[Nat.zero_add,cell_of hb]
   have h1:(c.toList.take zs.length)[j]? =(zs.map (Value.int .i64))[j]?:=by rw[qu]
   rw[List.getElem?_take,if_pos n8,Array.getElem?_toList,List.getElem?_map,List.getElem?_eq_getElem n8] at h1
   rw[h1]
   simp [n8]
  refine(hf.calls b cap zs w hold RN lG n_).mono fun e' w' ⟨he,n,os,j5⟩=>?_
  have hh:w'.heap[b]? =some (.cells (Sort.putCells (Value.int .i64) 0 (out zs).toArray c) e (0,0)):=by rw[j5];exact Cj hb
  have ny:(Sort.putCells (Value.int .i64) 0 (out zs).toArray c).size=c.size:=by simp [Sort.putCells]
  have Ju:=xS (c:=c) (d:=out zs) (by rw[hf.len];omega)
  have rk:Rel g (δ.gF (AV.kill i)) κ a w':=by
   refine(r.row hr (κ':=κ) (fun _ _=>rfl) (by rw[hκ0,j5];exact Ag _ _ _ _ _) (fun b' iU=>?_) (AV.kill i) rfl (fun G v av h=>h.kill G)).1
   obtain rfl:b=b':=Option.some.inj (hκ.symm.trans iU)
   exact⟨.inl hκ,(Array.getElem?_eq_some_iff.1 hh).1,_,_,hh⟩
  have ra:Rel g (jQ (δ.gF (AV.kill i)) (.own i e 1 ((out zs).map nI)) ts) κ a w':=by
   refine rk.pV ts fun t ht=> .own ?_
   rcases(lH t ht).jX with ⟨h2,h0⟩|⟨b',cap',c',h2,xp,Zz,iU,RU,Kn,WY,V9⟩
   ·have e0:out zs=[]:=List.eq_nil_of_length_eq_zero (by rw[hf.len,h0];rfl)
    rw[h2,e0];exact PE
   ·obtain rfl:b=b':=Option.some.inj (hκ.symm.trans xp)
    rw[hb] at iU
    simp only[Option.some.injEq,Obj.cells.injEq] at iU
    obtain⟨rfl,_⟩:=iU
    rw[h2,← hf.len zs]
    exact jv.Di (nq κ) hκ hB hh (by rw[hf.len];exact RU) Kn aJ Ju (by rw[hf.len];exact lG)
  refine⟨_,κ,he,ra.eY (fv (rU ts)) ?_⟩
  rw[mW]
  cases ret with
  |none=>exact .gM rfl (fun j u c h=>by simp at h)
  |some rr=>
   have hle:=hf.retle rr rfl zs
   have G5:((out zs).take (rr zs)).length=rr zs:=by rw[List.length_take,hf.len];omega
   show RA _ _ (.slice (some ⟨b,0,none⟩) (rr zs) cap) (.own i e 1 (((out zs).take (rr zs)).map nI))
   refine .own ?_
   have:=jv.Di (C:=(δ.gF (AV.kill i)).cx g κ) (w:=w') (i:=i) (b:=b) (cap:=cap) (e:=e) (zs:=(out zs).take (rr zs)) (nq κ) hκ hB hh aJ nC (by omega)
    (by rw[G5,List.map_take,← Ju,List.take_take,hf.len,Nat.min_eq_left aJ]) (by omega)
   rwa [G5] at this
theorem a_.Mf {f:FuncId} {x:Operand} {tys:Array TypeId} {out:List Int→List Int} {ret:Option (List Int→Nat)} (hf:MV P f out ret) (ts:List Nat) {i:Nat} {e:TypeId} {zs:List Int} (hx:δ.ev x=.own i e 1 (zs.map nI)) (tq:yn δ (.own i e 1 (zs.map nI)) ts) (hr:δ.ob i=some .row)
  (ho:fq x=true) (hd:fR δ.n dst=true) (hK:a_ .plain P g ops rest Q ((jQ (δ.gF (AV.kill i)) (.own i e 1 ((out zs).map nI)) ts).eY dst (AE i e zs (out zs) ret))):
  a_ .plain P g ops (⟨dst,.call {callee:=.value (.func f),args:= #[x],argTypes:=tys},ty,pos,af,none⟩::rest) Q δ:=
 a_.qA rfl rfl (iQ.Mf hf ts hx tq hr ho hd) hK
theorem enters_of {f:FuncId} {fn:Func} {c:Code} (hf:P.funcs[f]? =some fn) (hb:fn.body=some c) (he:(fn.name== "runtime.NumGoroutine")=false):∀vals w,(callFunc f vals).run P w=.ok (.enter f vals) w:=fun vals w=>by
 simp [callFunc,hf,hb];simpa using he
end Go.Ab
/- A call by a contract over objects. -/
namespace Go.Ab
open Go Go.RowKit
variable {P:Program} {g:e6} {δ:DS} {κ:Kp} {a:Act} {w:World}
variable {ops:Array Oper} {rest:List Oper} {Q:Exit→DS→Prop} {dst:Option Nat} {ty:TypeId} {pos:String} {af:Array Edge}
def H3:List (Nat×AV)→List (Nat×AV)
 |[]=>[]
 |(i,v)::r=>bif Nat.ble HS i then (i,v)::H3 r else H3 r
abbrev DS.hi (δ:DS):DS:=⟨δ.n,H3 δ.env,δ.gq,δ.nx⟩
theorem CS:∀(e:List (Nat×AV)) (j:Nat),look (H3 e) j=if j<HS then .any else look e j
 |[],j=>by simp [H3,look]
 |(i,v)::r,j=>by
  have ih:=CS r j
  rw[fH]
  unfold H3
  cases hb:Nat.ble HS i with
  |true=>
   have iU:HS≤i:=by simpa using hb
   rw[cond_true,fH,ih]
   by_cases e:i=j
   ·subst e;rw[if_pos rfl,if_pos rfl,if_neg aJ]
   ·rw[if_neg e,if_neg e]
  |false=>
   have iU:¬HS≤i:=by
    intro h
    have h':Nat.ble HS i=true:=by simpa using h
    rw[hb] at h'
    cases h'
   rw[cond_false,ih]
   by_cases e:i=j
   ·subst e;rw[if_pos aJ,if_pos aJ]
   ·rw[if_neg e]
theorem Rel.hi (r:Rel g δ κ a w):Rel g δ.hi κ a w:=
 {n:=r.n,dfr:=r.dfr
  env:=fun j=>by
   have:=r.env j
   show RA (δ.cx g κ) w _ (look (H3 δ.env) j)
   rw[CS]
   by_cases h:j<HS
   ·rw[if_pos h];exact .any _
   ·rw[if_neg h];exact this
  obj:=r.obj,inj:=r.inj,lo:=r.lo,nx:=r.nx,wt:=r.wt,below:=r.below,hB:=r.hB,N0:=r.N0,fr:=r.fr,km:=r.km}
theorem LF {e:Exit} (h:Q e δ.hi) (r:Rel g δ κ a w):lift g Q e a w:=⟨δ.hi,κ,h,r.hi⟩
namespace Nf
theorem hi (n:Nat) (e:List (Nat×AV)) (o:List (Nat×Option Ob)) (x:Nat):DS.hi ⟨n,e,o,x⟩=⟨n,H3 e,o,x⟩:=rfl
theorem jh:H3 []=[]:=rfl
theorem Yg (i:Nat) (v:AV) (r:List (Nat×AV)):H3 ((i,v)::r)=bif Nat.ble 1000 i then (i,v)::H3 r else H3 r:=rfl
end Nf
def mu (lr lb:Nat→Bool):List (Nat×Option Ob)→Prop
 |[]=>True
 |(_,none)::r=>mu lr lb r
 |(_,some o)::r=>q8 lr lb o=true∧mu lr lb r
theorem mu.at {lr lb:Nat→Bool}:∀{l:List (Nat×Option Ob)},mu lr lb l→∀i o,fg l i=some o→q8 lr lb o=true
 |[],_,i,o,h=>by simp [fg] at h
 |(j,none)::r,hs,i,o,h=>by
  rw[fl] at h
  by_cases e:j=i
  ·rw[if_pos e] at h;cases h
  ·rw[if_neg e] at h;exact mu.at (l:=r) hs i o h
 |(j,some x)::r,hs,i,o,h=>by
  rw[fl] at h
  by_cases e:j=i
  ·rw[if_pos e] at h;cases h;exact hs.1
  ·rw[if_neg e] at h;exact mu.at (l:=r) hs.2 i o h
theorem tb {lr lb:Nat→Bool} {l:List Int}:q8 lr lb (.mp (j9 (l6 l)))=true:=by
 unfold q8
 rw[List.all_eq_true]
 intro p hp
 unfold j9 l6 at hp
 obtain⟨q,hq,rfl⟩:=List.mem_map.1 hp
 obtain⟨x,_,rfl⟩:=List.mem_map.1 hq
 rfl
open Classical in
noncomputable def κX (d_:List (Nat×Option Ob)) (κ κ':Kp):Kp:=⟨fun i=>if (fg d_ i).isSome=true then κ' i else κ i,fun i b=>if (fg d_ i).isSome=true then κ'.F i b else κ.F i b⟩
theorem GS {d_ eZ:List (Nat×Option Ob)} (hk:kf d_ eZ=true) (i:Nat):(δ.ij d_ eZ).ob i=match fg eZ i with|some o=>some o|none=>(δ.ob i).map (Ob.wR (AV.iF (jo d_))):=by
 show fg (eZ++(δ.gF (AV.iF (jo d_))).gq) i=_
 rw[CQ (lR hk)]
 cases h:fg eZ i with
 |some o=>rfl
 |none=>exact kb _ _ _
theorem wj {α:Type} {T:World→Prop} {E:α→Cx→World→Ending→Prop} {y:Operand} {f:FuncId} {xs:List Operand} {tys:Array TypeId} {first cap args:List AV} {n0:Nat} {d_:List (Nat×Option Ob)} {pc:α→List (Nat×Option Ob)} (je:g.wt=none) (TC:TB T g) (hf:sq T P E f n0 d_ args pc) (hy:δ.ev y=.jJ (.func f) first cap) (kW:fq y=true) (sz:xs.all fq=true)
  (kB:BW δ d_) (fX:uY (XS d_ n0).qg (XS d_ n0).pJ (first++xs.map δ.ev++cap) args) (hkA:∀x,kf d_ (pc x)=true) (CG:s5 n0 d_=true) (sA:mu (XS d_ n0).qg (XS d_ n0).pJ d_)
  (QW:∀x,mu (XS (pc x) n0).qg (XS (pc x) n0).pJ (pc x))
  (X8:∀(x:α) (κ:Kp) (a:Act) (w':World) (C:Cx) (v:Value),Rel g (δ.ij d_ (pc x)) κ a w'→E x C w' (.returned v)→(∀r,RA C w' v r→r.ids (XS (pc x) n0).qg (XS (pc x) n0).pJ=true→RA ((δ.ij d_ (pc x)).cx g κ) w' v r)→wpListIn (Fw g.ro) 0 P ops (lift g Q) rest (a.put dst v) w')
  (XN:∀(x:α) (C:Cx) (w':World) (ch:List PanicEntry),E x C w' (.panicked ch)→Q (.panic ch) (δ.ij d_ (pc x)).hi∨Q (.panic ch) (δ.ij d_ (pc x))) (mL:∀(x:α) (C:Cx) (w':World),¬E x C w' .outgrown):
  a_ .plain P g ops (⟨dst,.call {callee:=.value y,args:=xs.toArray,argTypes:=tys},ty,pos,af,none⟩::rest) Q δ:=by
 intro κ a w r0
 have uZ:=r0.ra hy kW
 generalize hv:a.eval y=v at uZ
 cases uZ with
 | @jJ _ vs us _ _ hs SF ht UG=>
  obtain⟨ms,E4,ql,Lf⟩:=r0.dfr
  have mm:∀i,(XS d_ n0).live i→δ.live i:=fun i ⟨o,h⟩=>⟨o,kB.at i o h⟩
  let g':e6:={B:=g.B,w0:=w,N0:=fun b=>(δ.cx g κ).N b∨(∃i,(XS d_ n0).live i∧(κ i=some b∨κ.F i b))∨w.heap.size≤b,held:=fun _=>undef,ro:=none,mks:=ms++g.mks,wt:=none,fr:=fun b=>b<w.heap.size∧∀i,(XS d_ n0).live i→κ i≠some b∧¬κ.F i b,w1:=w}
  let κc:Kp:=⟨κ.f,fun i b=>(fg d_ i).isSome=true∧κ.F i b⟩
  have Uu:∀b,(δ.cx g κ).N b→((XS d_ n0).cx g' κc).N b:=fun b h=>⟨⟨.inl h,fun⟨i,hi⟩=>h.1.2 ⟨i,hi.2⟩⟩,fun i hi=>h.2 i (mm i hi)⟩
  have S4:∀i,(XS d_ n0).qg i=true→((XS d_ n0).cx g' κc).Lr i∧((XS d_ n0).cx g' κc).κ i=(δ.cx g κ).κ i:=fun i h=>⟨n9 (δ:=XS d_ n0) h,rfl⟩
  have Um:∀i,(XS d_ n0).pJ i=true→((XS d_ n0).cx g' κc).Lb i∧((XS d_ n0).cx g' κc).κ i=(δ.cx g κ).κ i:=fun i h=>⟨lu (δ:=XS d_ n0) h,rfl⟩
  have oE:Rel g' (XS d_ n0) κc O4 w:=
   {n:=rfl,dfr:=⟨[],rfl,ql,Lf⟩,env:=fun j=> .any _
    obj:=fun i o h=>nY.to (C:=δ.cx g κ) (C':=(XS d_ n0).cx g' κc) rfl Uu S4 Um rfl (fun b hb=>⟨by rw[show fg d_ i=some o from h];rfl,hb⟩) (r0.obj i o (kB.at i o h)) (sA.at i o h)
    inj:=fun i j b h1 h2=>r0.inj i j b (mm i h1) (mm j h2)
    lo:=fun i b h1=>r0.lo i b (mm i h1)
    nx:=fun i ⟨o,h⟩=>pS CG i o h
    wt:=fun k hk=>by cases hk
    below:=Below.refl _ _,hB:=r0.hB
    N0:=fun b hb hf=>by
     by_cases h1:w.heap.size≤b
     ·exact .inr (.inr h1)
     ·by_cases h2:∃i,(XS d_ n0).live i∧(κ i=some b∨κ.F i b)
      ·exact .inr (.inl h2)
      ·exact absurd ⟨by omega,fun i hi=>⟨fun e=>h2 ⟨i,hi,.inl e⟩,fun e=>h2 ⟨i,hi,.inr e⟩⟩⟩ hf
    fr:=⟨fun b hb=>⟨hb.1,rfl,fun i hi=>(hb.2 i hi).1⟩,fun i b hb=>by
     obtain⟨h1,h2,h3,h4,h5⟩:=r0.fr.2 i b hb.2
     exact⟨⟨h1.1,fun k hk=>by cases hk⟩,h2,fun hf=>(hf.2 i (Option.isSome_iff_exists.1 hb.1)).2 hb.2,fun j hj=>h4 j (mm j hj),fun j hj=>h5 j hj.2⟩⟩
    km:=fun d hd=>by cases hd}
  have hl:=fX.len
  simp only[List.length_append,List.length_map] at hl
  have Sf:∀(j:Nat) (v:Value) (av:AV),(vs++xs.toArray.map a.eval++us)[j]? =some v→args[j]? =some av→RA ((XS d_ n0).cx g' κc) w v av:=by
   intro j v av h1 h2
   have Lo:j<(first++xs.map δ.ev++cap).length:=by rw[fX.len];exact(List.getElem?_eq_some_iff.1 h2).1
   have h3:=List.getElem?_eq_getElem Lo
   have hle:=fX.at j _ av h3 h2
   generalize (first++xs.map δ.ev++cap)[j]=c at h3 hle
   have hc:RA (δ.cx g κ) w v c:=by
    by_cases hj:j<first.length+xs.length
    ·rw[List.getElem?_append_left (by simp;omega)] at h3
     rw[Array.getElem?_append_left (by simp;omega)] at h1
     by_cases Q6:j<first.length
     ·rw[List.getElem?_append_left Q6] at h3
      rw[Array.getElem?_append_left aJ] at h1
      exact SF j v c h1 h3
     ·rw[List.getElem?_append_right aJ] at h3
      rw[Array.getElem?_append_right aJ,hs] at h1
      simp only[List.map_toArray,List.getElem?_toArray,List.getElem?_map,Option.map_eq_some_iff] at h1 h3
      obtain⟨y,h5,rfl⟩:=h1
      obtain⟨y',h4,rfl⟩:=h3
      rw[h5] at h4;cases h4
      exact r0.EY y (iV ((List.all_eq_true.1 sz) y (List.mem_of_getElem? h5)))
    ·rw[List.getElem?_append_right (by simp;omega)] at h3
     rw[Array.getElem?_append_right (by simp;omega)] at h1
     have e1:(vs++xs.toArray.map a.eval).size=(first++xs.map δ.ev).length:=by simp;omega
     rw[e1] at h1
     exact UG _ v c h1 h3
   cases hle with
   |any=>exact .any _
   |eq e hi=>subst e;exact RA.to (C:=δ.cx g κ) (C':=(XS d_ n0).cx g' κc) rfl Uu S4 Um hc hi
   |nil k=>rw[hc.lit];exact .pv (th k)
  show wpListIn _ _ P ops _ (_::rest) a w
  refine gV rfl rfl fun K oS=>?_
  unfold Oper.Ac
  rw[yU hv hf.enters,Oper.uponIn_enter]
  refine⟨fun h=>by simp at h,(jK (hf.calls g' κc w _ rfl rfl (fun w' hb=>TC w' (r0.below.trans hb)) oE (by simp;omega) Sf)).mono ?_⟩
  rintro e w' ⟨xA,κ',hE,r1,tx⟩
  have hk:=hkA xA
  have o6:=QW xA
  have X8:=X8 xA
  have XN:=XN xA
  have mL:=mL xA
  generalize W2:pc xA=eZ at*
  obtain⟨F,hF⟩:∃F,F=AV.iF (jo d_):=⟨_,rfl⟩
  have js:=fun i=>GS (δ:=δ) hk i
  have CY:=om hk
  have ny:w.heap.size≤w'.heap.size:=r1.below.size
  have Ca:∀b,b<w.heap.size→(∀i,(XS d_ n0).live i→κ i≠some b∧¬κ.F i b)→w'.heap[b]? =w.heap[b]?∧∀i,(XS eZ n0).live i→κ' i≠some b:=fun b h1 h2=>(r1.fr.1 b ⟨h1,h2⟩).2
  have YU:∀b,b<w.heap.size→(∀i,(XS d_ n0).live i→κ i≠some b∧¬κ.F i b)→∀i,¬κ'.F i b:=fun b h1 h2 i hi=>(r1.fr.2 i b hi).2.2.1 ⟨h1,h2⟩
  -- in and out
  have jb:∀i,(fg d_ i).isSome=true→(XS d_ n0).live i∧(XS eZ n0).live i∧κX d_ κ κ' i=κ' i:=fun i h=>by
   refine⟨Option.isSome_iff_exists.1 h,?_,if_pos h⟩
   cases CY i with
   |none h0 _=>rw[h0] at h;cases h
   |row _ h1=>exact⟨_,h1⟩
   |box c d _ h1 _=>exact⟨_,h1⟩
   |lit T c d _ h1 _=>exact⟨_,h1⟩
   |mp c d _ h1 _=>exact⟨_,h1⟩
   |ff _ _ c d _ h1=>exact⟨_,h1⟩
  have lQ:∀i,¬(fg d_ i).isSome=true→fg eZ i=.none∧κX d_ κ κ' i=κ i:=fun i h=>by
   refine⟨?_,if_neg h⟩
   cases CY i with
   |none _ h1=>exact h1
   |row h0 _=>rw[h0] at h;exact absurd rfl h
   |box c d h0 _ _=>rw[h0] at h;exact absurd rfl h
   |lit T c d h0 _ _=>rw[h0] at h;exact absurd rfl h
   |mp c d h0 _ _=>rw[h0] at h;exact absurd rfl h
   |ff _ _ c d h0 _=>rw[h0] at h;exact absurd rfl h
  have NW:∀i,(fg d_ i).isSome=true→(δ.ij d_ eZ).ob i=fg eZ i:=fun i h=>by
   obtain⟨_,⟨o,h1⟩,_⟩:=jb i h
   rw[js i]
   have h1:fg eZ i=some o:=h1
   rw[h1]
  have MW:∀i,¬(fg d_ i).isSome=true→(δ.ij d_ eZ).ob i=(δ.ob i).map (Ob.wR F):=fun i h=>by rw[js i,(lQ i h).1,hF]
  have rH:∀i,(fg d_ i).isSome=true→δ.live i:=fun i h=>mm i (jb i h).1
  have nb:∀i,¬(fg d_ i).isSome=true→(δ.ij d_ eZ).live i→δ.live i:=fun i h ⟨o,ho⟩=>by
   rw[MW i h] at ho
   obtain⟨o',h1,_⟩:=Option.map_eq_some_iff.1 ho
   exact⟨o',h1⟩
  have jy:∀i,¬(fg d_ i).isSome=true→∀j,(XS d_ n0).live j→j≠i:=fun i h j ⟨o,ho⟩ e=>by
   subst e
   have ho:fg d_ j=some o:=ho
   rw[ho] at h
   exact h rfl
  have hold:∀i b,¬(fg d_ i).isSome=true→δ.live i→κ i=some b→b<w.heap.size∧∀j,(XS d_ n0).live j→κ j≠some b∧¬κ.F j b:=fun i b h hl hb=>
   ⟨(r0.lo i b hl hb).2,fun j hj=>⟨fun e=>jy i h j hj (r0.inj j i b (mm j hj) hl e hb),fun e=>r0.fr.nr hl hb ⟨j,e⟩⟩⟩
  have Vt:∀b,(δ.cx g κ).N b→∀j,(XS d_ n0).live j→κ j≠some b∧¬κ.F j b:=fun b h j hj=>⟨h.2 j (mm j hj),fun e=>h.1.2 ⟨j,e⟩⟩
  -- a pool's blocks behind the call
  have S5:∀i b,(κX d_ κ κ').F i b→((fg d_ i).isSome=true∧κ'.F i b)∨(¬(fg d_ i).isSome=true∧κ.F i b):=fun i b h=>by
   have h:(if (fg d_ i).isSome=true then κ'.F i b else κ.F i b):=h
   by_cases hi:(fg d_ i).isSome=true
   ·rw[if_pos hi] at h;exact .inl ⟨hi,h⟩
   ·rw[if_neg hi] at h;exact .inr ⟨hi,h⟩
  have Lm:∀i b,¬(fg d_ i).isSome=true→κ.F i b→b<w.heap.size∧∀j,(XS d_ n0).live j→κ j≠some b∧¬κ.F j b:=fun i b hi hF=>
   ⟨(r0.fr.2 i b hF).2.1,fun j hj=>⟨(r0.fr.2 i b hF).2.2.2.1 j (mm j hj),fun e=>jy i hi j hj ((r0.fr.2 i b hF).2.2.2.2 j e)⟩⟩
  have ZQ:∀b,b<w.heap.size→(δ.cx g κ).N b→((δ.ij d_ eZ).cx g (κX d_ κ κ')).N b:=fun b h1 h2=>by
   refine⟨⟨h2.1.1,fun⟨i,hi⟩=>?_⟩,fun i hi e=>?_⟩
   ·rcases S5 i b hi with h|h
    ·exact YU b h1 (Vt b h2) i h.2
    ·exact h2.1.2 ⟨i,h.2⟩
   by_cases h:(fg d_ i).isSome=true
   ·rw[(jb i h).2.2] at e
    exact(Ca b h1 (Vt b h2)).2 i (jb i h).2.1 e
   ·rw[(lQ i h).2] at e
    exact h2.2 i (nb i h hi) e
  have sW:∀i b,(AV.ptr i 0∈gL d_∨AV.gz i∈gL d_)→κ i=some b→κX d_ κ κ' i=κ i:=fun i b hp hb=>by
   by_cases h:(fg d_ i).isSome=true
   ·rw[(jb i h).2.2,tx i b hp hb,hb]
   ·exact(lQ i h).2
  have G:kr ((δ.cx g κ).uJ (jo d_)) w ((δ.ij d_ eZ).cx g (κX d_ κ κ')) w':=
   {B:=rfl,size:=ny
    N:=fun b h1 h2=>⟨ZQ b h1 h2,(Ca b h1 (Vt b h2)).1⟩
    Lr:=fun i hi=>by
     have hl:δ.ob i=some .row:=hi.1
     have h:¬(fg d_ i).isSome=true:=fun h=>by
      obtain⟨⟨o,ho⟩,_,_⟩:=jb i h
      have h1:=kB.at i o ho
      rw[hl] at h1
      cases h1
      have:=x9 (l:=d_) ho
      rw[hi.2] at this
      cases this
     refine⟨?_,(lQ i h).2,fun b hb=>?_⟩
     ·show(δ.ij d_ eZ).ob i=_
      rw[MW i h,hl];rfl
     ·obtain⟨h1,h2⟩:=hold i b h ⟨_,hl⟩ hb
      exact(Ca b h1 h2).1
    Lb:=fun i hi=>by
     obtain⟨o,h1,h2⟩:=hi
     by_cases h:(fg d_ i).isSome=true
     ·have h3:=NW i h
      cases CY i with
      |none h0 _=>rw[h0] at h;cases h
      |row h0 _=>
       have:=kB.at i _ h0
       rw[h1] at this
       cases this
       simp [Ob.isRow] at h2
      |box c d h0 h4 hp=>
       obtain⟨b,_,_,h5,_⟩:=r0.obj i _ (kB.at i _ h0)
       exact⟨⟨_,h3.trans h4,rfl⟩,sW i b (.inl hp) h5⟩
      |lit T c d h0 h4 hp=>
       obtain⟨b,h5,_⟩:=r0.obj i _ (kB.at i _ h0)
       exact⟨⟨_,h3.trans h4,rfl⟩,sW i b (.inl hp) h5⟩
      |mp c d h0 h4 hp=>
       obtain⟨b,_,_,h5,_⟩:=r0.obj i _ (kB.at i _ h0)
       exact⟨⟨_,h3.trans h4,rfl⟩,sW i b (.inr hp) h5⟩
      |ff e e' c d h0 h4=>
       have h5:=(r0.obj i _ (kB.at i _ h0)).1
       have h6:=(r1.obj i _ h4).1
       exact⟨⟨_,h3.trans h4,rfl⟩,(jb i h).2.2.trans (h6.trans h5.symm)⟩
     ·refine⟨⟨_,by rw[MW i h,h1];rfl,?_⟩,(lQ i h).2⟩
      cases o<;>first|rfl|(simp [Ob.isRow] at h2)}
  have HF:∀{u:Value} {av:AV},RA (δ.cx g κ) w u av→RA ((δ.ij d_ eZ).cx g (κX d_ κ κ')) w' u (F av):=fun h=>by rw[hF];exact h.iF G
  have YT:∀b,((XS eZ n0).cx g' κ').N b→((δ.ij d_ eZ).cx g (κX d_ κ κ')).N b:=fun b h=>by
   obtain⟨h1,h2⟩:=h
   have FE:∀i,(δ.ij d_ eZ).live i→κX d_ κ κ' i=some b→¬(fg d_ i).isSome=true∧δ.live i∧κ i=some b:=fun i hi e=>by
    by_cases h:(fg d_ i).isSome=true
    ·rw[(jb i h).2.2] at e
     exact absurd e (h2 i (jb i h).2.1)
    ·rw[(lQ i h).2] at e
     exact⟨h,nb i h hi,e⟩
   have UJ:∀i,(κX d_ κ κ').F i b→¬(fg d_ i).isSome=true∧κ.F i b:=fun i hi=>by
    rcases S5 i b hi with h|h
    ·exact absurd ⟨i,h.2⟩ h1.2
    ·exact h
   rcases h1.1 with h1|⟨j,hj,D8⟩|h1
   ·exact⟨⟨h1.1.1,fun⟨i,hi⟩=>h1.1.2 ⟨i,(UJ i hi).2⟩⟩,fun i hi e=>let ⟨_,h3,h4⟩:=FE i hi e;h1.2 i h3 h4⟩
   ·have hN0:g.N0 b:=by
     rcases D8 with D8|D8
     ·exact(r0.Fo (mm j hj) D8).1
     ·obtain⟨k1,k2,k3,_⟩:=r0.fr.2 j b D8;exact r0.N0 b k1.1 k3
    refine⟨⟨hN0,fun⟨i,hi⟩=>?_⟩,fun i hi e=>?_⟩
    ·obtain⟨h3,h4⟩:=UJ i hi
     rcases D8 with D8|D8
     ·exact(Lm i b h3 h4).2 j hj|>.1 D8
     ·exact(Lm i b h3 h4).2 j hj|>.2 D8
    ·obtain⟨h3,h4,h5⟩:=FE i hi e
     have:=(hold i b h3 h4 h5).2 j hj
     rcases D8 with D8|D8
     ·exact this.1 D8
     ·exact this.2 D8
   ·refine⟨⟨(r0.BG h1).1,fun⟨i,hi⟩=>?_⟩,fun i hi e=>?_⟩
    ·have:=(Lm i b (UJ i hi).1 (UJ i hi).2).1
     omega
    ·obtain⟨_,h4,h5⟩:=FE i hi e
     have:=(r0.lo i b h4 h5).2
     omega
  have Sj:∀i,(XS eZ n0).qg i=true→((δ.ij d_ eZ).cx g (κX d_ κ κ')).Lr i∧((δ.ij d_ eZ).cx g (κX d_ κ κ')).κ i=((XS eZ n0).cx g' κ').κ i:=fun i h=>by
   have h1:fg eZ i=some .row:=n9 (δ:=XS eZ n0) h
   have h2:(fg d_ i).isSome=true:=by
    cases CY i with
    |none _ h0=>rw[h0] at h1;cases h1
    |row h0 _=>rw[h0];rfl
    |box c d h0 _ _=>rw[h0];rfl
    |lit T c d h0 _ _=>rw[h0];rfl
    |mp c d h0 _ _=>rw[h0];rfl
    |ff _ _ c d h0 _=>rw[h0];rfl
   exact⟨(NW i h2).trans h1,(jb i h2).2.2⟩
  have SM:∀i,(XS eZ n0).pJ i=true→((δ.ij d_ eZ).cx g (κX d_ κ κ')).Lb i∧((δ.ij d_ eZ).cx g (κX d_ κ κ')).κ i=((XS eZ n0).cx g' κ').κ i:=fun i h=>by
   obtain⟨o,h1,h3⟩:=lu (δ:=XS eZ n0) h
   have h1:fg eZ i=some o:=h1
   have h2:(fg d_ i).isSome=true:=by
    cases CY i with
    |none _ h0=>rw[h0] at h1;cases h1
    |row h0 _=>rw[h0];rfl
    |box c d h0 _ _=>rw[h0];rfl
    |lit T c d h0 _ _=>rw[h0];rfl
    |mp c d h0 _ _=>rw[h0];rfl
    |ff _ _ c d h0 _=>rw[h0];rfl
   exact⟨⟨o,(NW i h2).trans h1,h3⟩,(jb i h2).2.2⟩
  have hR:Rel g (δ.ij d_ eZ) (κX d_ κ κ') a w':=
   {n:=r0.n
    dfr:=by
     obtain⟨rs,_,_,k3⟩:=r1.dfr
     exact⟨ms,E4,ql,fun k hk=>k3 k (List.mem_append.2 (.inr hk))⟩
    env:=fun j=>by
     have:(δ.ij d_ eZ).get j=F (δ.get j):=by rw[hF];exact qd _ (GM _) δ j
     rw[this];exact HF (r0.env j)
    obj:=fun i o h=>by
     by_cases hi:(fg d_ i).isSome=true
     ·rw[NW i hi] at h
      exact nY.to (C:=(XS eZ n0).cx g' κ') (C':=(δ.ij d_ eZ).cx g (κX d_ κ κ')) rfl YT Sj SM (jb i hi).2.2 (fun b hb=>(by show(if (fg d_ i).isSome=true then κ'.F i b else κ.F i b);rw[if_pos hi];exact hb)) (r1.obj i o h) (o6.at i o h)
     ·rw[MW i hi] at h
      obtain⟨o',f_,rfl⟩:=Option.map_eq_some_iff.1 h
      have h0:=r0.obj i o' f_
      have A7:=(lQ i hi).2
      have yJ:∀b,κ i=some b→w'.heap[b]? =w.heap[b]?:=fun b hb=>let ⟨h1,h2⟩:=hold i b hi ⟨_,f_⟩ hb;(Ca b h1 h2).1
      cases o' with
      |row=>
       intro b hb
       have iU:κ i=some b:=by rw[← A7];exact hb
       obtain⟨c,e,h1⟩:=h0 b iU
       exact⟨c,e,(yJ b iU).trans h1⟩
      |lit T vals=>obtain⟨b,h1,h2⟩:=h0;exact⟨b,A7.trans h1,(yJ b h1).trans h2⟩
      |ff e rows=>exact⟨A7.trans h0.1,fun k=>(h0.2.1 k).goes rfl fun b _ h2 _=>⟨(by show(if (fg d_ i).isSome=true then κ'.F i b else κ.F i b);rw[if_neg hi];exact h2),(Ca b (Lm i b hi h2).1 (Lm i b hi h2).2).1⟩,h0.2.2⟩
      |box cs=>
       obtain⟨b,c,e,h1,h2,h3,h4⟩:=h0
       refine⟨b,c,e,A7.trans h1,(yJ b h1).trans h2,by simpa using h3,fun k u av h5 h6=>?_⟩
       simp only[List.getElem?_map,Option.map_eq_some_iff] at h6
       obtain⟨av',h6,rfl⟩:=h6
       exact⟨HF (h4 k u av' h5 h6).1,(h4 k u av' h5 h6).2⟩
      |mp l=>
       obtain⟨b,es,clock,h1,h2,h3,h4⟩:=h0
       exact⟨b,es,clock,A7.trans h1,(yJ b h1).trans h2,⟨h3.1,fun k e p h5 h6=>⟨(h3.2 k e p h5 h6).1,G.ra ((h3.2 k e p h5 h6).2.uJ (h4.2 p (List.mem_of_getElem? h6)))⟩⟩,h4⟩
      |mpl l kk v=>
       obtain⟨b,es,clock,h1,h2,h3,h4⟩:=h0
       exact⟨b,es,clock,A7.trans h1,(yJ b h1).trans h2,h3.last (fun u p hp h=>G.ra (h.uJ (h4.2 p hp))) (fun u h=>HF h),h4⟩
      |it l seen=>
       obtain⟨b,h1,h2⟩:=h0
       exact⟨b,A7.trans h1,h2.mono G.size G.N (yJ b h1)⟩
      |loop l tm ps jf body st=>
       obtain⟨b,lr,h1,h2,h3⟩:=h0
       exact⟨b,lr,A7.trans h1,(yJ b h1).trans h2,h3⟩
    inj:=fun i j b h1 h2 h3 h4=>by
     by_cases hi:(fg d_ i).isSome=true
     ·rw[(jb i hi).2.2] at h3
      by_cases hj:(fg d_ j).isSome=true
      ·rw[(jb j hj).2.2] at h4
       exact r1.inj i j b (jb i hi).2.1 (jb j hj).2.1 h3 h4
      ·rw[(lQ j hj).2] at h4
       obtain⟨k1,k2⟩:=hold j b hj (nb j hj h2) h4
       exact absurd h3 ((Ca b k1 k2).2 i (jb i hi).2.1)
     ·rw[(lQ i hi).2] at h3
      by_cases hj:(fg d_ j).isSome=true
      ·rw[(jb j hj).2.2] at h4
       obtain⟨k1,k2⟩:=hold i b hi (nb i hi h1) h3
       exact absurd h4 ((Ca b k1 k2).2 j (jb j hj).2.1)
      ·rw[(lQ j hj).2] at h4
       exact r0.inj i j b (nb i hi h1) (nb j hj h2) h3 h4
    lo:=fun i b h1 h2=>by
     by_cases hi:(fg d_ i).isSome=true
     ·rw[(jb i hi).2.2] at h2
      exact r1.lo i b (jb i hi).2.1 h2
     ·rw[(lQ i hi).2] at h2
      have:=r0.lo i b (nb i hi h1) h2
      exact⟨this.1,Nat.lt_of_lt_of_le this.2 ny⟩
    nx:=fun i h=>by
     by_cases hi:(fg d_ i).isSome=true
     ·exact r0.nx i (rH i hi)
     ·exact r0.nx i (nb i hi h)
    wt:=fun k hk=>by rw[je] at hk;cases hk
    below:=r0.below.trans r1.below
    hB:=r1.hB
    N0:=r0.N0
    fr:=by
     refine⟨fun b hb=>?_,fun i b hb=>?_⟩
     ·obtain⟨h1,h2,h3⟩:=r0.fr.1 b hb
      have fx:=r0.fr.A8 hb
      have h4:=Ca b fx fun i hi=>⟨h3 i (mm i hi),fun e=>(r0.fr.2 i b e).2.2.1 hb⟩
      refine⟨h1,h4.1.trans h2,fun i hi e=>?_⟩
      by_cases OW:(fg d_ i).isSome=true
      ·rw[(jb i OW).2.2] at e
       exact h4.2 i (jb i OW).2.1 e
      ·rw[(lQ i OW).2] at e
       exact h3 i (nb i OW hi) e
     ·rcases S5 i b hb with ⟨hi,hF⟩|⟨hi,hF⟩
      ·obtain⟨k1,k2,k3,k4,k5⟩:=r1.fr.2 i b hF
       refine⟨⟨k1.1,fun k hk=>by rw[je] at hk;cases hk⟩,k2,fun hf=>?_,fun j hj e=>?_,fun j hj=>?_⟩
       ·exact k3 ⟨r0.fr.A8 hf,fun j hj=>⟨(r0.fr.1 b hf).2.2 j (mm j hj),fun e=>(r0.fr.2 j b e).2.2.1 hf⟩⟩
       ·by_cases HW:(fg d_ j).isSome=true
        ·rw[(jb j HW).2.2] at e
         exact k4 j (jb j HW).2.1 e
        ·rw[(lQ j HW).2] at e
         exact k3 (hold j b HW (nb j HW hj) e)
       ·rcases S5 j b hj with ⟨_,hj⟩|⟨HW,hj⟩
        ·exact k5 j hj
        ·exact absurd (Lm j b HW hj) k3
      ·obtain⟨k1,k2,k3,k4,k5⟩:=r0.fr.2 i b hF
       refine⟨k1,Nat.lt_of_lt_of_le k2 ny,k3,fun j hj e=>?_,fun j hj=>?_⟩
       ·by_cases HW:(fg d_ j).isSome=true
        ·rw[(jb j HW).2.2] at e
         exact(Ca b (Lm i b hi hF).1 (Lm i b hi hF).2).2 j (jb j HW).2.1 e
        ·rw[(lQ j HW).2] at e
         exact k4 j (nb j HW hj) e
       ·rcases S5 j b hj with ⟨_,hj⟩|⟨_,hj⟩
        ·exact absurd hj (YU b (Lm i b hi hF).1 (Lm i b hi hF).2 j)
        ·exact k5 j hj
    km:=r0.km}
  cases e with
  |returned v=>exact oS _ _ (X8 _ _ _ _ v hR hE fun r ZK hr=>RA.to (C:=(XS eZ n0).cx g' κ') (C':=(δ.ij d_ eZ).cx g (κX d_ κ κ')) rfl YT Sj SM ZK hr)
  |panicked ch=>
           rcases XN _ _ ch hE with h|h;·exact LF h hR
           ·exact⟨_,_,h,hR⟩
  |outgrown=>exact absurd hE (mL _ _)
theorem a_.Dg {T:World→Prop} {y:Operand} {f:FuncId} {xs:List Operand} {tys:Array TypeId} {first cap args:List AV} {r:AV} {n0:Nat} {d_ eZ:List (Nat×Option Ob)} (je:g.wt=none) (TC:TB T g) (hf:G2 T P f n0 d_ args eZ r) (hy:δ.ev y=.jJ (.func f) first cap) (kW:fq y=true) (sz:xs.all fq=true)
  (kB:BW δ d_) (fX:uY (XS d_ n0).qg (XS d_ n0).pJ (first++xs.map δ.ev++cap) args) (hk:kf d_ eZ=true) (CG:s5 n0 d_=true) (sA:mu (XS d_ n0).qg (XS d_ n0).pJ d_)
  (o6:mu (XS eZ n0).qg (XS eZ n0).pJ eZ) (hr:r.ids (XS eZ n0).qg (XS eZ n0).pJ=true) (hd:fR δ.n dst=true)
  (hK:a_ .plain P g ops rest Q ((δ.ij d_ eZ).eY dst r)):
  a_ .plain P g ops (⟨dst,.call {callee:=.value y,args:=xs.toArray,argTypes:=tys},ty,pos,af,none⟩::rest) Q δ:=
 wj je TC hf hy kW sz kB fX (fun _=>hk) CG sA (fun _=>o6) (fun _ κ a w' C v hR hE uZ=>by
  obtain⟨u,he,hu⟩:=hE
  cases he
  exact hK _ _ _ (hR.eY (fv hd) (uZ r hu hr))) (fun _ C w' ch hE=>by obtain⟨u,he,_⟩:=hE;cases he) (fun _ C w' hE=>by obtain⟨u,he,_⟩:=hE;cases he)
theorem a_.Ss {y:Operand} {f:FuncId} {xs:List Operand} {tys:Array TypeId} {first cap args:List AV} {r:AV} {n0:Nat} {d_ eZ:List (Nat×Option Ob)} (je:g.wt=none) (hf:mg P f n0 d_ args eZ r) (hy:δ.ev y=.jJ (.func f) first cap) (kW:fq y=true) (sz:xs.all fq=true)
  (kB:BW δ d_) (fX:uY (XS d_ n0).qg (XS d_ n0).pJ (first++xs.map δ.ev++cap) args) (hk:kf d_ eZ=true) (CG:s5 n0 d_=true) (sA:mu (XS d_ n0).qg (XS d_ n0).pJ d_)
  (o6:mu (XS eZ n0).qg (XS eZ n0).pJ eZ) (hr:r.ids (XS eZ n0).qg (XS eZ n0).pJ=true) (hd:fR δ.n dst=true)
  (hK:a_ .plain P g ops rest Q ((δ.ij d_ eZ).eY dst r)):
  a_ .plain P g ops (⟨dst,.call {callee:=.value y,args:=xs.toArray,argTypes:=tys},ty,pos,af,none⟩::rest) Q δ:=a_.Dg je (fun _ _=>trivial) hf hy kW sz kB fX hk CG sA o6 hr hd hK
end Go.Ab
namespace Go.Ab
open Go Go.RowKit
variable {P:Program} {g:e6} {δ:DS}
theorem hY {rs:List ResultVar} {d_ eZ:List (Nat×Option Ob)} {r v:AV} (h:gn P δ rs v) (hw:C_ δ (XF δ d_ eZ) [v,δ.get 1000] [r,.agg (gL d_)]) (ho:oC δ (XF δ d_ eZ) eZ) (hx:s5 δ.nx eZ=true):jw P rs d_ eZ r .ret δ:=⟨v,h,hw.1,hw.2.1,ho,hx⟩
theorem lI {rs:List ResultVar} {d_ eZ:List (Nat×Option Ob)} {r v:AV} (h:gn P δ rs v) (hw:C_ δ (XF δ d_ eZ) [v,δ.get 1000] [r,.agg (gL d_)]) (ho:oC δ (XF δ d_ eZ) eZ) (hx:s5 δ.nx eZ=true):jw P rs d_ eZ r .normal δ:=⟨v,h,hw.1,hw.2.1,ho,hx⟩
namespace Nf
variable {n x i:Nat} {e:List (Nat×AV)} {o l0 l1 l:List (Nat×Option Ob)} {rs:List Nat}
def Rh (rs:List Nat):List (Nat×AV)→List (Nat×AV)
 |[]=>[]
 |(i,v)::r=>(i,v.iF rs)::Rh rs r
def xm (rs:List Nat):List (Nat×Option Ob)→List (Nat×Option Ob)
 |[]=>[]
 |(i,o)::r=>(i,o.map (Ob.wR (AV.iF rs)))::xm rs r
def I6 (rs:List Nat):List AV→List AV
 |[]=>[]
 |v::r=>v.iF rs::I6 rs r
theorem I2:∀e:List (Nat×AV),e.map (fun p=>(p.1,p.2.iF rs))=Rh rs e
 |[]=>rfl
 |(i,v)::r=>by rw[List.map_cons,I2 r];rfl
theorem Kq:∀o:List (Nat×Option Ob),o.map (fun p=>(p.1,p.2.map (Ob.wR (AV.iF rs))))=xm rs o
 |[]=>rfl
 |(i,v)::r=>by rw[List.map_cons,Kq r];rfl
theorem wH:∀l:List AV,AV.DK (pM rs) l=I6 rs l
 |[]=>rfl
 |v::r=>by rw[AV.DK,wH r];rfl
theorem MJ (l:List AV):l.map (AV.iF rs)=I6 rs l:=by
 induction l with
 |nil=>rfl
 |cons v r ih=>rw[List.map_cons,ih];rfl
theorem af:DS.ij ⟨n,e,o,x⟩ l0 l1=⟨n,Rh (jo l0) e,l1++xm (jo l0) o,x⟩:=by
 show(⟨n,e.map (fun p=>(p.1,p.2.iF (jo l0))),l1++o.map (fun p=>(p.1,p.2.map (Ob.wR (AV.iF (jo l0))))),x⟩:DS)=_
 rw[I2,Kq]
theorem VN:Rh rs []=[]:=rfl
theorem Ya (i:Nat) (v:AV) (r:List (Nat×AV)):Rh rs ((i,v)::r)=(i,v.iF rs)::Rh rs r:=rfl
theorem Xs:xm rs []=[]:=rfl
theorem VR (i:Nat) (r:List (Nat×Option Ob)):xm rs ((i,none)::r)=(i,none)::xm rs r:=rfl
theorem xor (i:Nat) (r:List (Nat×Option Ob)):xm rs ((i,some .row)::r)=(i,some .row)::xm rs r:=rfl
theorem Wh (i:Nat) (cs:List AV) (r:List (Nat×Option Ob)):xm rs ((i,some (.box cs))::r)=(i,some (.box (I6 rs cs)))::xm rs r:=by
 show(i,some (Ob.box (cs.map (AV.iF rs))))::xm rs r=_
 rw[MJ]
theorem Y_ (i:Nat) (T:TypeId) (vs:Array Value) (r:List (Nat×Option Ob)):xm rs ((i,some (.lit T vs))::r)=(i,some (.lit T vs))::xm rs r:=rfl
theorem WH (i:Nat) (l:List (Value×AV)) (r:List (Nat×Option Ob)):xm rs ((i,some (.mp l))::r)=(i,some (.mp l))::xm rs r:=rfl
theorem XY (i:Nat) (l:List (Value×PV)) (s:List Nat) (r:List (Nat×Option Ob)):xm rs ((i,some (.it l s))::r)=(i,some (.it l s))::xm rs r:=rfl
theorem VH (i:Nat) (l:List (Value×AV)) (k:Value) (v:AV) (r:List (Nat×Option Ob)):xm rs ((i,some (.mpl l k v))::r)=(i,some (.mpl l k (v.iF rs)))::xm rs r:=rfl
theorem YC (i:Nat) (e:TypeId) (p:Nat→Value×List Value) (r:List (Nat×Option Ob)):xm rs ((i,some (.ff e p))::r)=(i,some (.ff e p))::xm rs r:=rfl
theorem Xe (i m:Nat) (tm:Array Value) (ps:Array Tmp) (a b:Code) (st:vg) (r:List (Nat×Option Ob)):xm rs ((i,some (.loop m tm ps a b st))::r)=(i,some (.loop m tm ps a b st))::xm rs r:=rfl
theorem WM:I6 rs []=[]:=rfl
theorem WN (v:AV) (r:List AV):I6 rs (v::r)=v.iF rs::I6 rs r:=rfl
theorem EI:AV.iF rs .any=.any:=rfl
theorem KN (p:PV):AV.iF rs (.pv p)=.pv p:=rfl
theorem DT (j k:Nat):AV.iF rs (.ptr j k)=.ptr j k:=rfl
theorem zg (c:List PV):AV.iF rs (.gp c)=.gp c:=rfl
theorem zS (j:Nat):AV.iF rs (.gz j)=.gz j:=rfl
theorem EG (j:Nat):AV.iF rs (.kZ j)=.kZ j:=rfl
theorem Ef (j:Nat) (t:TypeId) (k:Nat) (fc:List (List PV)):AV.iF rs (.own j t k fc)=bif mn j rs then .any else .own j t k fc:=rfl
theorem AM (j:Nat) (t:TypeId) (k:Nat) (fc:List (List PV)) (m:Nat):AV.iF rs (.gN j t k fc m)=bif mn j rs then .any else .gN j t k fc m:=rfl
theorem Dq (cs:List AV):AV.iF rs (.agg cs)=.agg (I6 rs cs):=by show AV.agg (AV.DK (pM rs) cs)=_;rw[wH]
theorem Dw (cs:List AV):AV.iF rs (.gM cs)=.gM (I6 rs cs):=by show AV.gM (AV.DK (pM rs) cs)=_;rw[wH]
theorem DA (fn:Go.Fn) (cs ds:List AV):AV.iF rs (.jJ fn cs ds)=.jJ fn (I6 rs cs) (I6 rs ds):=by show AV.jJ fn (AV.DK (pM rs) cs) (AV.DK (pM rs) ds)=_;rw[wH,wH]
theorem WQ:jo []=[]:=rfl
theorem Ws (i:Nat) (r:List (Nat×Option Ob)):jo ((i,some .row)::r)=i::jo r:=rfl
theorem Xa (i:Nat) (c:List AV) (r:List (Nat×Option Ob)):jo ((i,some (.box c))::r)=jo r:=rfl
theorem Zd (i:Nat) (T:TypeId) (vs:Array Value) (r:List (Nat×Option Ob)):jo ((i,some (.lit T vs))::r)=jo r:=rfl
theorem ZD (i:Nat) (e:TypeId) (p:Nat→Value×List Value) (r:List (Nat×Option Ob)):jo ((i,some (.ff e p))::r)=jo r:=rfl
theorem WZ (i:Nat) (c:List (Value×AV)) (r:List (Nat×Option Ob)):jo ((i,some (.mp c))::r)=jo r:=rfl
theorem ZV:gL []=[]:=rfl
theorem pir (i:Nat) (r:List (Nat×Option Ob)):gL ((i,some .row)::r)=gL r:=rfl
theorem Z2 (i:Nat) (c:List AV) (r:List (Nat×Option Ob)):gL ((i,some (.box c))::r)=.ptr i 0::gL r:=rfl
theorem pit (i:Nat) (T:TypeId) (vs:Array Value) (r:List (Nat×Option Ob)):gL ((i,some (.lit T vs))::r)=.ptr i 0::gL r:=rfl
theorem piP (i:Nat) (e:TypeId) (p:Nat→Value×List Value) (r:List (Nat×Option Ob)):gL ((i,some (.ff e p))::r)=gL r:=rfl
theorem pim (i:Nat) (c:List (Value×AV)) (r:List (Nat×Option Ob)):gL ((i,some (.mp c))::r)=.gz i::gL r:=rfl
theorem cn {α:Type} (a:α) (r s:List α):(a::r)++s=a::(r++s):=rfl
theorem nn {α:Type} (s:List α):[]++s=s:=rfl
end Nf
end Go.Ab
/- Short names of the rules that a walk takes most often;what is plain is filled in. -/
namespace Go.Ab
open Go Go.RowKit
variable {P:Program} {g:e6} {δ:DS} {q:Md} {ops:Array Oper} {rest:List Oper} {Q:Exit→DS→Prop} {dst:Option Nat} {ty:TypeId} {pos:String} {af:Array Edge}
theorem nz {A:DS→Prop} {δ δ':DS} (h:A δ') (e:δ=δ':=by conv=>lhs;simp only[Nf.all,Nat.reduceBEq,Nat.reduceAdd,Nat.reduceSub]):A δ:=e▸h
theorem zm {x:Operand} {p:PV} (hK:a_ q P g ops rest Q (δ.eY dst (.pv p))) (hx:δ.ev x=.pv p:=by exact rfl) (ho:fq x=true:=by exact rfl) (hd:fR δ.n dst=true:=by exact rfl):a_ q P g ops (⟨dst,.move x,ty,pos,af,none⟩::rest) Q δ:=a_.iu hx ho hd hK
theorem za {x:Operand} {p:PV} (hK:a_ q P g ops rest Q (δ.eY dst (.pv p))) (hx:δ.ev x=.pv p:=by exact rfl) (ho:fq x=true:=by exact rfl) (hd:fR δ.n dst=true:=by exact rfl):a_ q P g ops (⟨dst,.assign x,ty,pos,af,none⟩::rest) Q δ:=a_.GR hx ho hd hK
theorem zl {op:Op} {gj d:Nat} {want b:Bool} {o':Oper} (hy:a_ q P g ops (⟨dst,op,ty,pos,af,none⟩::rest) Q δ) (ho:ops[gj]? =some o':=by exact rfl) (hd:o'.dst=some d:=by exact rfl) (vB:Nat.blt d HS=true:=by exact rfl) (wY:Nat.blt d δ.n=true:=by exact rfl) (hb:δ.get d=fu b:=by exact rfl) (Cv:b=want:=by exact rfl) (tv:fR δ.n dst=true:=by exact rfl):
  a_ q P g ops (⟨dst,op,ty,pos,af,some (gj,want)⟩::rest) Q δ:=a_.B2 ho hd vB wY hb Cv tv hy
theorem zy {op:Op} {gj d:Nat} {o':Oper} {p:Prop} {_:Decidable p} (hy:a_ q P g ops (⟨dst,op,ty,pos,af,none⟩::rest) Q δ) (ho:ops[gj]? =some o':=by exact rfl) (hd:o'.dst=some d:=by exact rfl) (vB:Nat.blt d HS=true:=by exact rfl) (wY:Nat.blt d δ.n=true:=by exact rfl) (hb:δ.get d=fu (decide p):=by exact rfl) (tv:fR δ.n dst=true:=by exact rfl) (hp:¬p:=by first|(with_reducible assumption)|omega|decide):
  a_ q P g ops (⟨dst,op,ty,pos,af,some (gj,false)⟩::rest) Q δ:=a_.Nh ho hd hb vB wY tv hp hy
theorem zt {op:Op} {gj d:Nat} {o':Oper} {p:Prop} {_:Decidable p} (hy:a_ q P g ops (⟨dst,op,ty,pos,af,none⟩::rest) Q δ) (ho:ops[gj]? =some o':=by exact rfl) (hd:o'.dst=some d:=by exact rfl) (vB:Nat.blt d HS=true:=by exact rfl) (wY:Nat.blt d δ.n=true:=by exact rfl) (hb:δ.get d=fu (decide p):=by exact rfl) (tv:fR δ.n dst=true:=by exact rfl) (hp:p:=by first|(with_reducible assumption)|omega|decide):
  a_ q P g ops (⟨dst,op,ty,pos,af,some (gj,true)⟩::rest) Q δ:=a_.NA ho hd hb vB wY tv hp hy
theorem zb {x:Operand} {t:TypeId} {i off:Nat} {cells:List AV} {v:AV} (hK:a_ q P g ops rest Q (δ.eY dst v)) (hx:δ.ev x=.ptr i off:=by exact rfl) (hb:δ.ob i=some (.box cells):=by exact rfl) (hv:cells[off]? =some v:=by exact rfl) (ht:jU P t=true:=by exact rfl) (ho:fq x=true:=by exact rfl) (hd:fR δ.n dst=true:=by exact rfl):
  a_ q P g ops (⟨dst,.load t x,ty,pos,af,none⟩::rest) Q δ:=a_.LH hx hb hv ht ho hd hK
theorem zn {α:Type} {x:Operand} {t e:TypeId} {k:Nat} {f:α→List PV} {l:List α} (hK:a_ q P g ops rest Q (δ.eY dst (e7 (l.length:Nat)))) (hx:δ.ev x=.pv (.slice k (l.map f)):=by exact rfl) (ht:P.underlying t=some (.slice e):=by exact rfl) (ho:fq x=true:=by exact rfl) (hd:fR δ.n dst=true:=by exact rfl):
  a_ q P g ops (⟨dst,.call {callee:=.builtin .len,args:= #[x],argTypes:= #[t]},ty,pos,af,none⟩::rest) Q δ:=a_.kL hx ht ho hd hK
theorem zs {x y:Operand} {t t':TypeId} {m n:Int} (hK:a_ q P g ops rest Q (δ.eY dst (fu (decide (m<n))))) (hx:δ.ev x=e7 m:=by exact rfl) (hy:δ.ev y=e7 n:=by exact rfl) (ho:fq x=true:=by exact rfl) (f_:fq y=true:=by exact rfl) (hd:fR δ.n dst=true:=by exact rfl):
  a_ q P g ops (⟨dst,.binOp .lss t x y t',ty,pos,af,none⟩::rest) Q δ:=a_.lss hx hy ho f_ hd hK
set_option linter.defProp false in
abbrev zd:= @a_.Yo
set_option linter.defProp false in
abbrev zq:= @AW.Vo
set_option linter.defProp false in
abbrev zo:= @AW.seq
theorem zc {c:Operand} {x y:Code} {p:Prop} {_:Decidable p} (h1:AW P g x Q δ) (ho:fq c=true:=by exact rfl) (hc:δ.ev c=fu (decide p):=by exact rfl) (hp:p:=by first|(with_reducible assumption)|omega|decide):AW P g (.cond c x y) Q δ:=AW.Ue ho hc hp h1
theorem zk {c:Operand} {x y:Code} {p:Prop} {_:Decidable p} (h1:AW P g y Q δ) (ho:fq c=true:=by exact rfl) (hc:δ.ev c=fu (decide p):=by exact rfl) (hp:¬p:=by first|(with_reducible assumption)|omega|decide):AW P g (.cond c x y) Q δ:=AW.Tn ho hc hp h1
theorem zr {x:Operand} {t:TypeId} {p:PV} (hK:a_ q P g ops rest Q (δ.eY dst (.pv p))) (hx:δ.ev x=.gp [p]:=by exact rfl) (ht:jU P t=true:=by exact rfl) (ho:fq x=true:=by exact rfl) (hd:fR δ.n dst=true:=by exact rfl):a_ q P g ops (⟨dst,.load t x,ty,pos,af,none⟩::rest) Q δ:=a_.Mr hx ht ho hd hK
theorem zA {f:FuncId} {xs:List Operand} {tys:Array TypeId} {args:List AV} {r:AV} (hf:Fn P f args r) (hK:a_ q P g ops rest Q (δ.eY dst r)) (fX:pF true δ xs args:=by repeat (first|exact .nil|(refine .cons rfl ?_ ?_;(first|exact .pv _|exact .own _ _ _ _ rfl|exact .nil _|exact .any _|exact .gp _|(refine .EO ?_;repeat (first|exact .nil|(refine .cons ?_ ?_;(first|exact .pv _|exact .own _ _ _ _ rfl|exact .nil _)))))))) (qL:r.xw=true:=by exact rfl) (hd:fR δ.n dst=true:=by exact rfl) (hq:q≠ .held:=by exact(fun h_=>by cases h_)):
  a_ q P g ops (⟨dst,.call {callee:=.value (.func f),args:=xs.toArray,argTypes:=tys},ty,pos,af,none⟩::rest) Q δ:=a_.call hf fX qL hd hq hK
theorem zP {f:FuncId} {xs:List Operand} {tys:Array TypeId} {args:List AV} {r:AV} (hf:Fn P f args r) (hK:a_ .plain P g ops rest Q (δ.eY dst r)) (fX:pF false δ xs args:=by repeat (first|exact .nil|(refine .cons rfl ?_ ?_;(first|exact .pv _|exact .own _ _ _ _ rfl|exact .nil _|exact .any _|exact .gp _|(refine .EO ?_;repeat (first|exact .nil|(refine .cons ?_ ?_;(first|exact .pv _|exact .own _ _ _ _ rfl|exact .nil _)))))))) (hd:fR δ.n dst=true:=by exact rfl):
  a_ .plain P g ops (⟨dst,.call {callee:=.value (.func f),args:=xs.toArray,argTypes:=tys},ty,pos,af,none⟩::rest) Q δ:=a_.Oc hf fX hd hK
theorem zX {y:Operand} {f:FuncId} {xs:List Operand} {tys:Array TypeId} {first cap args:List AV} {r:AV} {n0:Nat} {d_ eZ:List (Nat×Option Ob)} (hf:mg P f n0 d_ args eZ r) (hK:a_ .plain P g ops rest Q ((δ.ij d_ eZ).eY dst r)) (je:g.wt=none:=by with_reducible assumption) (hy:δ.ev y=.jJ (.func f) first cap:=by exact rfl) (kW:fq y=true:=by exact rfl) (sz:xs.all fq=true:=by exact rfl)
  (kB:BW δ d_:=by repeat (first|exact trivial|refine⟨rfl,?_⟩)) (fX:uY (XS d_ n0).qg (XS d_ n0).pJ (first++xs.map δ.ev++cap) args:=by repeat (first|exact .nil|(refine .cons ?_ ?_;(first|exact .eq rfl rfl|exact .nil _|exact .any _)))) (hk:kf d_ eZ=true:=by exact rfl) (CG:s5 n0 d_=true:=by exact rfl) (sA:mu (XS d_ n0).qg (XS d_ n0).pJ d_:=by repeat (first|exact trivial|refine⟨rfl,?_⟩|refine⟨tb,?_⟩))
  (o6:mu (XS eZ n0).qg (XS eZ n0).pJ eZ:=by repeat (first|exact trivial|refine⟨rfl,?_⟩|refine⟨tb,?_⟩)) (hr:r.ids (XS eZ n0).qg (XS eZ n0).pJ=true:=by exact rfl) (hd:fR δ.n dst=true:=by exact rfl):
  a_ .plain P g ops (⟨dst,.call {callee:=.value y,args:=xs.toArray,argTypes:=tys},ty,pos,af,none⟩::rest) Q δ:=a_.Ss je hf hy kW sz kB fX hk CG sA o6 hr hd hK
theorem nx {A:DS→Prop} {δ δ':DS} (h:A δ') (e:δ=δ':=by conv=>lhs;simp only[Nf.af,Nf.VN,Nf.Ya,Nf.Xs,Nf.VR,Nf.xor,Nf.Wh,Nf.WH,Nf.XY,Nf.VH,Nf.Xe,Nf.WM,Nf.WN,Nf.EI,Nf.KN,Nf.DT,Nf.zg,Nf.zS,Nf.EG,Nf.Ef,Nf.AM,Nf.Dq,Nf.Dw,Nf.DA,Nf.WQ,Nf.Ws,Nf.Xa,Nf.WZ,Nf.cn,Nf.nn,BR,wL,Nat.reduceBEq,cond_true,cond_false]):A δ:=e▸h
theorem zB {x y:Operand} {t:TypeId} {i:Nat} {cells cs:List AV} (hK:a_ .plain P g ops rest Q ((δ.gm i (some (.box cs))).eY dst .any)) (hx:δ.ev x=.ptr i 0:=by exact rfl) (hy:δ.ev y=.agg cs:=by exact rfl) (hb:δ.ob i=some (.box cells):=by exact rfl) (hlen:cells.length=cs.length:=by exact rfl) (ht:(P.info? t).map (·.size)=some cs.length:=by exact rfl) (h1:AV.nB cs=true:=by exact rfl) (ho:fq x=true:=by exact rfl) (f_:fq y=true:=by exact rfl) (hd:fR δ.n dst=true:=by exact rfl) (je:g.wt=none:=by with_reducible assumption):
  a_ .plain P g ops (⟨dst,.store t x y,ty,pos,af,none⟩::rest) Q δ:=a_.xj hx hy hb hlen ht h1 ho f_ hd je hK
theorem zL {x:Operand} {t:TypeId} {i:Nat} {cells:List AV} (hK:a_ q P g ops rest Q (δ.eY dst (.agg cells))) (hx:δ.ev x=.ptr i 0:=by exact rfl) (hb:δ.ob i=some (.box cells):=by exact rfl) (ht:zU P t cells.length=true:=by exact rfl) (ho:fq x=true:=by exact rfl) (hd:fR δ.n dst=true:=by exact rfl):
  a_ q P g ops (⟨dst,.load t x,ty,pos,af,none⟩::rest) Q δ:=a_.Gi hx hb ht ho hd hK
theorem zj {x y:Operand} {t t':TypeId} {m n:Int} (hK:a_ q P g ops rest Q (δ.eY dst (e7 (m+n)))) (hx:δ.ev x=e7 m:=by exact rfl) (hy:δ.ev y=e7 n:=by exact rfl) (ho:fq x=true:=by exact rfl) (f_:fq y=true:=by exact rfl) (hd:fR δ.n dst=true:=by exact rfl) (hb: -9223372036854775808≤m+n∧m+n≤9223372036854775807:=by omega):
  a_ q P g ops (⟨dst,.binOp .add t x y t',ty,pos,af,none⟩::rest) Q δ:=a_.add hx hy ho f_ hd hb hK
theorem zF {x y z:Operand} {p:Prop} {_:Decidable p} {v:PV} (hK:a_ q P g ops rest Q (δ.eY dst (.pv v))) (hx:δ.ev x=fu (decide p):=by exact rfl) (hz:δ.ev z=.pv v:=by exact rfl) (hp:¬p:=by first|(with_reducible assumption)|omega|decide) (ho:fq x=true:=by exact rfl) (kW:fq y=true:=by exact rfl) (rZ:fq z=true:=by exact rfl) (hd:fR δ.n dst=true:=by exact rfl):
  a_ q P g ops (⟨dst,.pick x y z,ty,pos,af,none⟩::rest) Q δ:=a_.KT hx hz hp ho kW rZ hd hK
theorem zT {x y z:Operand} {p:Prop} {_:Decidable p} {v:PV} (hK:a_ q P g ops rest Q (δ.eY dst (.pv v))) (hx:δ.ev x=fu (decide p):=by exact rfl) (hy:δ.ev y=.pv v:=by exact rfl) (hp:p:=by first|(with_reducible assumption)|omega|decide) (ho:fq x=true:=by exact rfl) (kW:fq y=true:=by exact rfl) (rZ:fq z=true:=by exact rfl) (hd:fR δ.n dst=true:=by exact rfl):
  a_ q P g ops (⟨dst,.pick x y z,ty,pos,af,none⟩::rest) Q δ:=a_.JU hx hy hp ho kW rZ hd hK
end Go.Ab
/- Maps from whole numbers to slices:elder entries told whole,the last one over a row of the walk's own. -/
namespace Go.Ab
open Go Go.RowKit
variable {q:Md} {P:Program} {g:e6} {δ:DS} {κ:Kp} {a:Act} {w:World}
variable {gd:Option (Tmp×Bool)} {ops:Array Oper} {rest:List Oper} {Q:Exit→DS→Prop} {dst:Option Nat} {ty:TypeId} {pos:String} {af:Array Edge}
def y6 (D:List (Int×List Int)):List (Int×AV):=D.map fun p=>(p.1,.pv (ints p.2))
theorem Ka (D:List (Int×List Int)) (A B:Nat→Bool):∀p∈j9 (y6 D),p.2.ids A B=true:=by
 intro p hp
 simp only[j9,y6,List.map_map,List.mem_map] at hp
 obtain⟨x,_,rfl⟩:=hp
 rfl
theorem WO.RQ {δ δ':DS} {i:Nat} (h:δ.ob i=some (.mp (j9 []))):WO δ δ' i (.mp (j9 (y6 []))):=.mp h (fun p hp=>by simp [j9,y6] at hp)
theorem WO.rows {δ δ':DS} {i:Nat} {D:List (Int×List Int)} (h:δ.ob i=some (.mp (j9 (y6 D)))):WO δ δ' i (.mp (j9 (y6 D))):=.mp h (Ka D _ _)
theorem nV.sw (i j:Nat) {δ δ':DS} (je:g.wt=none) (hi:Nat.blt i δ.nx=true) (hj:Nat.blt j δ.nx=true) (h:nV g (δ.sw i j) δ'):nV g δ δ':=
 fun _ a w r=>h _ a w (r.sw i j (by simpa using hi) (by simpa using hj) (fun k hk=>by rw[je] at hk;cases hk))
theorem AW.LM (i:Nat) {c:Code} (hi:δ.ob i=some .row) (hK:AW P g c Q (qb δ i)):AW P g c Q δ:=by
 intro κ a w r
 obtain⟨κ',r'⟩:=r.freeze hi
 exact hK κ' a w r'
section
variable {k:Wt} {late:List Nat} {l:List Oper} {dn:List Nat} {QD:Exit→DS→Prop}
end
end Go.Ab
/- v,is:=m[k] over a map whose entries are told one by one. -/
namespace Go.Ab
open Go Go.RowKit
variable {q:Md} {P:Program} {g:e6} {δ:DS} {ops:Array Oper} {rest:List Oper} {Q:Exit→DS→Prop} {dst:Option Nat} {ty:TypeId} {pos:String} {af:Array Edge}
abbrev A9 (f:Go.Fn):AV:=.pv (.lit (.func f #[] #[]))
theorem SG {C:Cx} {w:World} {u:Value} {f:Go.Fn} (h:RA C w u (.jJ f [] [])):u=.func f #[] #[]:=by
 cases h with
 |jJ hs h ht h'=>
  rename_i vs us
  have e1:vs= #[]:=Array.eq_empty_of_size_eq_zero (by simpa using hs)
  have e2:us= #[]:=Array.eq_empty_of_size_eq_zero (by simpa using ht)
  rw[e1,e2]
theorem uK:∀{l:List (Int×AV)} {j:Nat} {m:Int} {v:AV},l[j]? =some (m,v)→j2 l m≠none
 |[],j,m,v,h=>by simp at h
 |(k,u)::l,0,m,v,h=>by
  simp at h
  obtain⟨rfl,rfl⟩:=h
  simp [j2]
 |(k,u)::l,j+1,m,v,h=>by
  unfold j2
  split
  ·simp
  ·exact uK (by simpa using h)
theorem ME {C:Cx} {w:World} {u v:Value} (h:RA C w u (.pv (.lit v))):u=v:=by
 cases h with
 |pv h=>cases h;rfl
theorem iQ.y8 {gd:Option (Tmp×Bool)} {x y z:Operand} {t kt et:TypeId} {i:Nat} {l:List (Int×AV)} {m:Int} {f:Go.Fn} (hx:δ.ev x=.gz i) (js:δ.ob i=some (.mp (j9 l))) (hy:δ.ev y=e7 m) (hz:δ.ev z=.jJ f [] []) (ht:P.underlying t=some (.map kt et)) (hk:P.underlying kt=some (.int .i64))
  (ho:fq x=true) (f_:fq y=true) (rZ:fq z=true) (hd:fR δ.n dst=true) (Es:g.nF i) (hn:j2 l m=none):
  iQ P g ⟨dst,.insert t x y z,ty,pos,af,gd⟩ δ ((δ.gm i (some (.mp (j9 (l++ [(m,A9 f)]))))).eY dst .any):=by
 intro κ a w r
 obtain⟨b,es,clock,h1,h2,h3,h4,h5,Gm⟩:=r.UO (r.ra hx ho) js
 obtain⟨h6,h7⟩:=h4.j9
 have Xo:RA (δ.cx g κ) w (a.eval z) (A9 f):=by rw[SG (r.ra hz rZ)];exact .pv (.lit _)
 have Yw:MapKept.IsKey (.int .i64) (.int .i64 m):=by simp [MapKept.IsKey]
 have Nz:∀e,(Instr.checkKey e (9999+1) kt (.int .i64 m)).run P w=.ok () w:=fun e=>MapKept.run_checkKey hk Yw e 9999
 rcases xD m es.toList l 0 h6 h7 with ⟨h8,h9⟩|⟨j,e,u,h9,xx,Ia,Rl,h13⟩
 ·have fw:(execOp a.eval ⟨dst,.insert t x y z,ty,pos,af,gd⟩).run P w=.ok .skip {w with heap:=w.heap.setIfInBounds b (.map (es.push {key:=.int .i64 m,val:=a.eval z,born:=clock}) (clock+1))}:=by
   simp [execOp,r.lit hy f_,h1,Instr.mapUpdate,run_underlying ht,MapKept.run_getObj_map h3,Nz,nP hk h9,MapKept.run_setObj_map _ h3]
  obtain⟨r',G⟩:=r.modify (o':=.mp (j9 (l++ [(m,A9 f)]))) js rfl rfl h2 Es (iw.vt w b (.map (es.push {key:=.int .i64 m,val:=a.eval z,born:=clock}) (clock+1))) (by simp) (fun C hC G=>by
   have h14:mr C {w with heap:=w.heap.setIfInBounds b (.map (es.push {key:=.int .i64 m,val:=a.eval z,born:=clock}) (clock+1))} es (j9 l):=h4.goes G
   obtain⟨h15,h16⟩:=h14.push h5 m (G.ra Xo)
   exact⟨b,_,_,by rw[hC];exact h2,mM h3,h15,h16,fun p hp=>by
    rw[jS] at hp
    rcases List.mem_append.1 hp with hp|hp
    ·exact Gm p hp
    ·simp [j9] at hp;subst hp;rfl⟩)
  exact .inl ⟨_,_,_,_,fw,.inr ⟨rfl,rfl⟩,r'.eY (fv hd) (.any _)⟩
 ·exfalso
  exact uK Ia hn
theorem a_.y8 {x y z:Operand} {t kt et:TypeId} {i:Nat} {l:List (Int×AV)} {m:Int} {f:Go.Fn} (hx:δ.ev x=.gz i) (js:δ.ob i=some (.mp (j9 l))) (hy:δ.ev y=e7 m) (hz:δ.ev z=.jJ f [] []) (ht:P.underlying t=some (.map kt et)) (hk:P.underlying kt=some (.int .i64))
  (ho:fq x=true) (f_:fq y=true) (rZ:fq z=true) (hd:fR δ.n dst=true) (je:g.wt=none) (hn:j2 l m=none)
  (hK:a_ .plain P g ops rest Q ((δ.gm i (some (.mp (j9 (l++ [(m,A9 f)]))))).eY dst .any)):
  a_ .plain P g ops (⟨dst,.insert t x y z,ty,pos,af,none⟩::rest) Q δ:=
 a_.qA rfl rfl (iQ.y8 hx js hy hz ht hk ho f_ rZ hd (j4 je i) hn) hK
def AG (l:List (Int×Go.Fn)):List (Int×AV):=l.map fun p=>(p.1,A9 p.2)
def I_ (l:List (Int×Go.Fn)):List (Value×PV):=l.map fun p=>(.int .i64 p.1,.lit (.func p.2 #[] #[]))
theorem WV.fns {δ':DS} {i:Nat} {l:List (Int×Go.Fn)} (hb:δ.ob i=some (.mp (j9 (AG l)))) (hd:δ'.ob i=none):WV δ δ' (.gz i) (.pv (.mp (I_ l))):=
 .fmap hb hd (by simp [j9,AG,I_]) (fun j p p' h1 h2=>by
  simp only[j9,AG,I_,List.getElem?_map,Option.map_eq_some_iff] at h1 h2
  obtain⟨a,⟨b,hb,rfl⟩,rfl⟩:=h1
  obtain⟨c,hc,rfl⟩:=h2
  obtain rfl:b=c:=Option.some.inj (hb.symm.trans hc)
  exact⟨rfl,.pv _⟩)
theorem Ce {κ:Kp} {w:World} {v:Value} {l:List (Int×Go.Fn)} (h1:RA (δ.cx g κ) w v (.pv (.mp (I_ l)))):∃b es clock,v=.map (some b)∧(∀w',kX δ κ w w'→w'.heap[b]? =some (.map es clock))∧es.toList.length=(AG l).length∧
  ∀(j:Nat) (e:MapEntry) (p:Int×AV),es.toList[j]? =some e→(AG l)[j]? =some p→e.key=.int .i64 p.1∧RA (δ.cx g κ) w e.val p.2:=by
 cases h1 with
 |pv h=>
  cases h with
  |mp b clock es hN hb hh hs jc hk hr=>
   refine⟨b,es,clock,rfl,fun w' j5=>(j5 b hb ⟨fun i hi=>hN.2 i (DS.gI hi),hN.1.2⟩).trans hh,by simpa [AG,I_] using hs,fun j e p h1 h2=>?_⟩
   have Li:es[j]? =some e:=by simpa using h1
   simp only[AG,List.getElem?_map,Option.map_eq_some_iff] at h2
   obtain⟨a,ha,rfl⟩:=h2
   have h3:(I_ l)[j]? =some (.int .i64 a.1,.lit (.func a.2 #[] #[])):=by simp [I_,ha]
   exact⟨hk j e _ Li h3,.pv (hr j e _ Li h3)⟩
theorem a_.Ev {x y:Operand} {t kt et:TypeId} {l:List (Int×Go.Fn)} {m:Int} {z:Value} {f:Go.Fn} (hx:δ.ev x=.pv (.mp (I_ l))) (hy:δ.ev y=e7 m) (ht:P.underlying t=some (.map kt et)) (hk:P.underlying kt=some (.int .i64)) (hz:(P.info? et).bind (·.zero)=some z)
  (ho:fq x=true) (f_:fq y=true) (hd:fR δ.n dst=true) (hv:j2 (AG l) m=some (A9 f)) (hK:a_ q P g ops rest Q (δ.eY dst (.gM [.jJ f [] [],fu true]))):a_ q P g ops (⟨dst,.lookup t x y true,ty,pos,af,none⟩::rest) Q δ:=
 a_.iR _ hd (fun κ a w r=>by
  obtain⟨b,es,clock,h1,hb,h6,h7⟩:=Ce (r.ra hx ho)
  rcases oQ m es.toList (AG l) 0 h6 h7 with ⟨h8,h9⟩|⟨j,e,v',h8,h9,xx,Ia,Rl⟩
  ·rw[hv] at h8;cases h8
  ·rw[hv] at h8;cases h8
   have he:e.val=.func f #[] #[]:=ME Rl
   refine⟨.tuple #[e.val,.bool true],fun w' j5=>?_,.gM rfl (fun k u c h=>?_)⟩
   ·have:=oU ht hk hz (hb w' j5) h9 true
    simp [execOp,r.lit hy f_,h1,this]
   ·intro hc
    match k with
    |0=>simp at h hc;subst h;subst hc;rw[he];exact .jJ rfl (fun j u c h=>by simp at h) rfl (fun j u c h=>by simp at h)
    |1=>simp at h hc;subst h;subst hc;exact .pv (.lit _)
    |k+2=>simp at hc) hK
theorem a_.Dm {x y:Operand} {t kt et:TypeId} {l:List (Int×Go.Fn)} {m:Int} {z:Value} (hx:δ.ev x=.pv (.mp (I_ l))) (hy:δ.ev y=e7 m) (ht:P.underlying t=some (.map kt et)) (hk:P.underlying kt=some (.int .i64)) (hz:(P.info? et).bind (·.zero)=some z)
  (ho:fq x=true) (f_:fq y=true) (hd:fR δ.n dst=true) (hv:j2 (AG l) m=none) (hK:a_ q P g ops rest Q (δ.eY dst (.gM [.pv (.lit z),fu false]))):a_ q P g ops (⟨dst,.lookup t x y true,ty,pos,af,none⟩::rest) Q δ:=
 a_.iR _ hd (fun κ a w r=>by
  obtain⟨b,es,clock,h1,hb,h6,h7⟩:=Ce (r.ra hx ho)
  rcases oQ m es.toList (AG l) 0 h6 h7 with ⟨h8,h9⟩|⟨j,e,v',h8,h9,xx,Ia,Rl⟩
  ·refine⟨.tuple #[z,.bool false],fun w' j5=>?_,.gM rfl (fun k u c h=>?_)⟩
   ·have:=oU ht hk hz (hb w' j5) h9 true
    simp [execOp,r.lit hy f_,h1,this]
   ·intro hc
    match k with
    |0=>simp at h hc;subst h;subst hc;exact .pv (.lit _)
    |1=>simp at h hc;subst h;subst hc;exact .pv (.lit _)
    |k+2=>simp at hc
  ·rw[hv] at h8;cases h8) hK
theorem a_.Hi {t e:TypeId} {x z:Operand} {k:Nat} {m:Int} {fc els':List (List PV)} (hx:δ.ev x=.pv (.slice k fc)) (hz:δ.ev z=e7 m) (ht:P.underlying t=some (.slice e)) (hk:(P.info? e).map (·.size)=some k)
  (ho:fq x=true) (Iw:fq z=true) (hd:fR δ.n dst=true) (h0:(decide (0≤m))=true) (hn:Nat.ble m.toNat fc.length=true) (hv:fc.drop m.toNat=els') (hK:a_ q P g ops rest Q (δ.eY dst (.pv (.slice k els')))):
  a_ q P g ops (⟨dst,.slice t x (some z) none none,ty,pos,af,none⟩::rest) Q δ:=
 a_.slice (l:=m.toNat) (h:=fc.length) (hi:=none) (lo:=some z) hx ht hk ⟨Iw,by rw[hz,Int.toNat_of_nonneg (by simpa using h0)]⟩ rfl (by simpa using hn) (Nat.le_refl _) ho hd (by
  have:(fc.drop m.toNat).take (fc.length - m.toNat)=els':=by rw[List.take_of_length_le (by simp),hv]
  rw[this];exact hK)
theorem AW.DL {c:Operand} {x y:Code} {b:Bool} (ho:fq c=true) (hc:δ.ev c=fu b) (hb:b=true) (h1:AW P g x Q δ):AW P g (.cond c x y) Q δ:=AW.Js hb ho hc h1
theorem AW.y_ {c:Operand} {x y:Code} {b:Bool} (ho:fq c=true) (hc:δ.ev c=fu b) (hb:b=false) (h1:AW P g y Q δ):AW P g (.cond c x y) Q δ:=AW.Ke hb ho hc h1
theorem a_.R8 {f fn:FuncId} {x:Operand} {tys:Array TypeId} {v r:AV} (hf:Fn P f [v,.jJ (.func fn) [] []] r) (fX:pF true δ [x] [v]) (qL:r.xw=true) (hd:fR δ.n dst=true) (hq:q≠ .held)
  (hK:a_ q P g ops rest Q (δ.eY dst r)):a_ q P g ops (⟨dst,.call {callee:=.value (.func f),args:=[x,.func fn].toArray,argTypes:=tys},ty,pos,af,none⟩::rest) Q δ:=by
 intro κ a w r0
 have hc:∀w',Below w.heap.size w w'→Calls P f ([x,.func fn].toArray.map a.eval) w' fun e w''=>e=.returned r.out∧Below w'.heap.size w' w'':=fun w' j5=>
  (hf.calls (fun _=>True) w' _ (fun _ _=>trivial) (by simp) (fun j u av h1 h2=>by
   match j with
   |0=>exact fX.P3 (r0.ext j5) (fun _ _ _=>trivial) (fun _ _ _ _ _=>trivial) 0 u av (by simpa using h1) (by simpa using h2)
   |1=>
    simp at h1 h2
    subst h1;subst h2
    exact .jJ rfl (fun j u c h=>by simp at h) rfl (fun j u c h=>by simp at h)
   |j+2=>simp at h2)).mono (by
   rintro e w'' ⟨v,rfl,hv,hb⟩
   exact⟨by rw[hv.xw (AV.nh (C:=A_ (fun _=>True)) (w:=w) qL) qL],hb⟩)
 have yN:=hK κ _ _ (r0.eY (fv hd) (AV.nh qL))
 cases q with
 |quiet=>
  show wpQuiet P ops _ _ (_::rest) a
  unfold wpQuiet
  rw[if_pos (by simp [Region.wanted])]
  refine⟨r.out,fun w' j5=>?_,yN⟩
  unfold Oper.quietAt
  rw[j3 (f:=f) rfl hf.enters]
  exact⟨rfl,(hc w' j5).mono fun e w'' ⟨h1,h2⟩=>⟨h1,j5.trans (h2.mono j5.size)⟩⟩
 |held=>exact absurd rfl hq
 |plain=>
  show wpListIn _ _ P ops _ (_::rest) a w
  refine gV rfl rfl fun K oS=>?_
  unfold Oper.Ac
  rw[j3 (f:=f) rfl hf.enters,Oper.uponIn_enter]
  refine⟨fun h=>by simp at h,(jK (hc w (Below.refl _ _))).mono ?_⟩
  rintro e w' ⟨rfl,hb⟩
  exact oS _ _ (hK κ _ _ ((r0.ext hb).eY (fv hd) (AV.nh qL)))
end Go.Ab
/- Strings:joined,compared,measured,indexed,cut;numbers of any kind compared. -/
namespace Go.Ab
open Go Go.RowKit
variable {q:Md} {P:Program} {g:e6} {δ:DS} {κ:Kp} {a:Act} {w:World}
variable {ops:Array Oper} {rest:List Oper} {Q:Exit→DS→Prop} {dst:Option Nat} {ty:TypeId} {pos:String} {af:Array Edge}
theorem a_.self {l:List Oper} (h:a_ q P g ops l Q δ):a_ q P g ops l Q δ:=h
abbrev iO (s:ByteArray):AV:=.pv (.lit (.string s))
theorem wh (s u:ByteArray):(s.toList==u.toList)=decide (s=u):=by
 rw[ByteArray.toList_eq,ByteArray.toList_eq]
 by_cases h:s=u
 ·subst h;simp
 ·rw[decide_eq_false h,beq_eq_false_iff_ne]
  intro h2
  exact h (ByteArray.ext (Array.toList_inj.1 h2))
theorem Af (op:BinOp) (t:TypeId) (x y:Operand) (s u:ByteArray) (c:Value) (h:∀w,(Go.binOp op t (.string s) (.string u):Sem Value).run P w=.ok c w) (w:World):
  (do eqGuard op t x y (.string s) (.string u);Go.binOp op t (.string s) (.string u):Sem Value).run P w=.ok c w:=by
 have h1:(eqGuard op t x y (.string s) (.string u)).run P w=.ok () w:=by
  unfold eqGuard
  cases op<;>simp [Sem.run,pure,Sem.bind,bind]
 rw[Sem.run_bind,h1,Result.andThen_ok,h]
section strs
variable {x y:Operand} {t t':TypeId} {s u:ByteArray} (hx:δ.ev x=iO s) (hy:δ.ev y=iO u) (ho:fq x=true) (f_:fq y=true) (hd:fR δ.n dst=true)
include hx hy ho f_ hd
theorem a_.OV (hb:s.size+u.size≤9223372036854775807) (hK:a_ q P g ops rest Q (δ.eY dst (iO (s++u)))):a_ q P g ops (⟨dst,.binOp .add t x y t',ty,pos,af,none⟩::rest) Q δ:=
 a_.bin hx hy ho f_ (Af _ _ _ _ _ _ _ fun w=>by rw[binOp_string_add];exact run_string_add_sum w s u hb) hd hK
theorem a_.Vf (hK:a_ q P g ops rest Q (δ.eY dst (fu (decide (s=u))))):a_ q P g ops (⟨dst,.binOp .eql t x y t',ty,pos,af,none⟩::rest) Q δ:=
 a_.bin hx hy ho f_ (Af _ _ _ _ _ _ _ fun w=>by rw[binOp_string_eql,wh];rfl) hd hK
theorem a_.UC (hK:a_ q P g ops rest Q (δ.eY dst (fu (decide (¬s=u))))):a_ q P g ops (⟨dst,.binOp .neq t x y t',ty,pos,af,none⟩::rest) Q δ:=
 a_.bin hx hy ho f_ (Af _ _ _ _ _ _ _ fun w=>by
  have:(Go.binOp .neq t (.string s) (.string u):Sem Value)=pure (.bool (!(s.toList==u.toList))):=by simp [Go.binOp,Op.stringOp]
  rw[this,wh]
  by_cases h:s=u<;>simp [h]) hd hK
end strs
theorem a_.o5 {x:Operand} {t:TypeId} {s:ByteArray} (hx:δ.ev x=iO s) (ht:P.underlying t=some .string) (ho:fq x=true) (hd:fR δ.n dst=true)
  (hK:a_ q P g ops rest Q (δ.eY dst (e7 (s.size:Nat)))):a_ q P g ops (⟨dst,.call {callee:=.builtin .len,args:= #[x],argTypes:= #[t]},ty,pos,af,none⟩::rest) Q δ:=
 a_.iR _ hd (fun κ a w r=>⟨_,fun w' _=>by
  have h:=r.lit hx ho
  simp [execOp,resolve,invoke,builtin,Builtin.len_,run_underlying ht,h,goInt],.pv (.lit _)⟩) hK
def tD (s:ByteArray) (n:Nat):Int:=((s.data.toList.getD n 0).toNat:Nat)
theorem a_.yw {x y:Operand} {t:TypeId} {s:ByteArray} {ik:IntKind} {n:Nat} (hx:δ.ev x=iO s) (hy:δ.ev y=.pv (.lit (.int ik (n:Int)))) (ht:P.underlying t=some .string) (ho:fq x=true) (f_:fq y=true) (hd:fR δ.n dst=true) (hn:n<s.size)
  (hK:a_ q P g ops rest Q (δ.eY dst (.pv (.lit (.int .u8 (tD s n)))))):a_ q P g ops (⟨dst,.index t x y,ty,pos,af,none⟩::rest) Q δ:=
 a_.iR _ hd (fun κ a w r=>⟨_,fun w' _=>by
  have h:=r.lit hx ho
  have h2:=r.lit hy f_
  have h3:=run_index_string (P:=P) w' t s ik n ht
  rw[dif_pos ⟨by omega,by omega⟩] at h3
  have e:s[((n:Int)).toNat]'(by omega)=s.data.toList.getD n 0:=by
   have h':n<s.data.toList.length:=by simpa using hn
   rw[List.getD,List.getElem?_eq_getElem h']
   simp
   rfl
  simp only[execOp,h,h2,Sem.run_bind,h3,Result.andThen_ok]
  rw[e]
  rfl,.pv (.lit _)⟩) hK
theorem a_.xk {x y:Operand} {t:TypeId} {s:ByteArray} {n:Int} (hx:δ.ev x=iO s) (hy:δ.ev y=e7 n) (ht:P.underlying t=some .string) (ho:fq x=true) (f_:fq y=true) (hd:fR δ.n dst=true) (h0:0≤n) (hn:n≤s.size)
  (hK:a_ q P g ops rest Q (δ.eY dst (iO (s.extract 0 n.toNat)))):a_ q P g ops (⟨dst,.slice t x none (some y) none,ty,pos,af,none⟩::rest) Q δ:=
 a_.iR _ hd (fun κ a w r=>⟨_,fun w' _=>by
  have h:=r.lit hx ho
  have h2:=r.lit hy f_
  have h3:=run_slice_string_to_if (P:=P) w' t s .i64 n ht
  rw[if_pos ⟨h0,hn⟩] at h3
  simp only[execOp,h,h2,Option.map_none,Option.map_some,Sem.run_bind,run_sliceAt_string w' t _ _ _ _ ht,h3,Result.andThen_ok]
  rfl,.pv (.lit _)⟩) hK
end Go.Ab
/- A struct stored into a part of a box:an element of an array,a struct's field that is a struct. -/
namespace Go.Ab
open Go Go.RowKit
inductive va:Nat→List AV→List AV→List AV→Prop where
 |nil {l}:va 0 [] l l
 |take {a b cs l l'}:va 0 cs l l'→va 0 (b::cs) (a::l) (b::l')
 |skip {k a cs l l'}:va k cs l l'→va (k+1) cs (a::l) (a::l')
theorem va.spec {k:Nat} {cs l l':List AV} (h:va k cs l l'):k+cs.length≤l.length∧l'.length=l.length∧(∀j,j<k→l'[j]? =l[j]?)∧(∀j,k≤j→j<k+cs.length→l'[j]? =cs[j - k]?)∧(∀j,k+cs.length≤j→l'[j]? =l[j]?):=by
 induction h with
 |nil=>exact⟨by simp,rfl,fun j h=>rfl,fun j h1 h2=>by simp at h2,fun j h=>rfl⟩
 |take _ ih=>
  obtain⟨h1,h2,_,h4,h5⟩:=ih
  refine⟨by simp at h1 ⊢;omega,by simp [h2],fun j h=>by omega,fun j _ h=>?_,fun j h=>?_⟩
  ·cases j with
   |zero=>rfl
   |succ j=>exact h4 j aJ (by simp at h ⊢;omega)
  ·cases j with
   |zero=>simp at h
   |succ j=>exact h5 j (by simp at h ⊢;omega)
 |skip _ ih=>
  obtain⟨h1,h2,h3,h4,h5⟩:=ih
  refine⟨by simp at h1 ⊢;omega,by simp [h2],fun j h=>?_,fun j h0 h=>?_,fun j h=>?_⟩
  ·cases j with
   |zero=>rfl
   |succ j=>exact h3 j (by omega)
  ·cases j with
   |zero=>omega
   |succ j=>
    rw[Nat.add_sub_add_right]
    exact h4 j aJ (by omega)
  ·cases j with
   |zero=>omega
   |succ j=>exact h5 j (by omega)
variable {P:Program} {g:e6} {δ:DS} {ops:Array Oper} {rest:List Oper} {Q:Exit→DS→Prop} {dst:Option Nat} {ty:TypeId} {pos:String} {af:Array Edge} {gd:Option (Tmp×Bool)}
theorem Mc {c u:List Value} {k j:Nat} (hk:k+u.length≤c.length):(c.take k++u++c.drop (k+u.length))[j]? =if j<k then c[j]? else if j<k+u.length then u[j - k]? else c[j]?:=by
 have hl:(c.take k++u).length=k+u.length:=by simp;omega
 by_cases h1:j<k
 ·rw[if_pos h1,List.getElem?_append_left aJ,List.getElem?_append_left (by simp;omega),List.getElem?_take,if_pos h1]
 ·rw[if_neg h1]
  by_cases h2:j<k+u.length
  ·rw[if_pos h2,List.getElem?_append_left aJ,List.getElem?_append_right (by simp;omega)]
   congr 1;simp;omega
  ·rw[if_neg h2,List.getElem?_append_right aJ,hl,List.getElem?_drop]
   congr 1;omega
theorem iQ.wC {x y:Operand} {t:TypeId} {i off:Nat} {cells cs out:List AV} (hx:δ.ev x=.ptr i off) (hy:δ.ev y=.agg cs) (hb:δ.ob i=some (.box cells)) (hp:va off cs cells out) (ht:(P.info? t).map (·.size)=some cs.length) (h1:AV.nB cs=true) (ho:fq x=true) (f_:fq y=true) (hd:fR δ.n dst=true) (Es:g.nF i):
  iQ P g ⟨dst,.store t x y,ty,pos,af,gd⟩ δ ((δ.gm i (some (.box out))).eY dst .any):=by
 intro κ a w r
 obtain⟨b,c,e,hv,hκ,h3,h4,h5⟩:=r.box (r.ra hx ho) hb
 obtain⟨ny,n6⟩:=(r.ra hy f_).cells h1
 simp only[AV.cellsOf] at ny n6
 obtain⟨p1,p2,p3,p4,p5⟩:=hp.spec
 have iT:∀u∈(a.eval y).cells.toList,u.oneCell'=true:=by
  intro u hu
  obtain⟨j,hj⟩:=List.getElem?_of_mem hu
  have fx:j<cs.length:=by rw[← ny];have:=(List.getElem?_eq_some_iff.1 hj).1;simpa using this
  exact(n6 j u _ (by simpa using hj) (List.getElem?_eq_getElem fx)).2
 have SL:(a.eval y).cells.toList.length=cs.length:=by simpa using ny
 have jc:=run_storeCells_at P b off e (a.eval y).cells.toList 0 c w h3 (by rw[SL];omega) iT
 simp only[Nat.add_zero] at jc
 obtain⟨R,hR⟩:∃R,R=(c.toList.take off++(a.eval y).cells.toList++c.toList.drop (off+(a.eval y).cells.toList.length)).toArray:=⟨_,rfl⟩
 rw[← hR] at jc
 have hRs:R.size=c.size:=by rw[hR];simp [SL];omega
 have hRg:∀j,R[j]? =if j<off then c[j]? else if j<off+cs.length then (a.eval y).cells[j - off]? else c[j]?:=fun j=>by
  rw[hR,List.getElem?_toArray,Mc (by rw[SL];simp;omega),SL]
  simp only[Array.getElem?_toList]
 have fw:(execOp a.eval ⟨dst,.store t x y,ty,pos,af,gd⟩).run P w=.ok .skip (w.setRow b R):=by
  obtain⟨i0,jh,ln⟩:∃i0,P.info? t=some i0∧i0.size=cs.length:=by
   cases h:P.info? t with
   |none=>rw[h] at ht;simp at ht
   |some i0=>rw[h] at ht;exact⟨i0,rfl,by simpa using ht⟩
  simp [execOp,Instr.storeAt,Instr.sureAddr,storeVar,hv,ny,sizeOf,typeInfo,jh,ln,jc]
 obtain⟨r',G⟩:=r.modify (o':=.box out) hb rfl rfl hκ Es (iw.setRow w b R) (by simp) (fun C Pl G=>⟨b,_,e,by rw[Pl];exact hκ,setRow_heap w b c _ e _ h3,by rw[hRs,p2];exact h4,fun j u av h6 h7=>by
  rw[hRg] at h6
  by_cases e1:j<off
  ·rw[if_pos e1] at h6
   rw[p3 j e1] at h7
   exact⟨G.ra (h5 j u av h6 h7).1,(h5 j u av h6 h7).2⟩
  ·rw[if_neg e1] at h6
   by_cases e2:j<off+cs.length
   ·rw[if_pos e2] at h6
    rw[p4 j aJ e2] at h7
    exact⟨G.ra (n6 (j - off) u av h6 h7).1,(n6 (j - off) u av h6 h7).2⟩
   ·rw[if_neg e2] at h6
    rw[p5 j aJ] at h7
    exact⟨G.ra (h5 j u av h6 h7).1,(h5 j u av h6 h7).2⟩⟩)
 exact .inl ⟨_,_,_,_,fw,.inr ⟨rfl,rfl⟩,r'.eY (fv hd) (.any _)⟩
theorem a_.wC {x y:Operand} {t:TypeId} {i off:Nat} {cells cs out:List AV} (hx:δ.ev x=.ptr i off) (hy:δ.ev y=.agg cs) (hb:δ.ob i=some (.box cells)) (hp:va off cs cells out) (ht:(P.info? t).map (·.size)=some cs.length) (h1:AV.nB cs=true) (ho:fq x=true) (f_:fq y=true) (hd:fR δ.n dst=true) (je:g.wt=none)
  (hK:a_ .plain P g ops rest Q ((δ.gm i (some (.box out))).eY dst .any)):a_ .plain P g ops (⟨dst,.store t x y,ty,pos,af,none⟩::rest) Q δ:=a_.qA rfl rfl (iQ.wC hx hy hb hp ht h1 ho f_ hd (j4 je i)) hK
end Go.Ab
/- A row's first part;append of made zeros to nothing;a capacity. -/
namespace Go.Ab
open Go Go.RowKit
variable {q:Md} {P:Program} {g:e6} {δ:DS} {κ:Kp} {a:Act} {w:World}
variable {ops:Array Oper} {rest:List Oper} {Q:Exit→DS→Prop} {dst:Option Nat} {ty:TypeId} {pos:String} {af:Array Edge} {gd:Option (Tmp×Bool)}
theorem a_.Hb {t e e':TypeId} {x y:Operand} {i k:Nat} {m:Int} {fc:List (List PV)} (hx:δ.ev x=.own i e' k fc) (hy:δ.ev y=e7 m) (ht:P.underlying t=some (.slice e)) (hk:(P.info? e).map (·.size)=some k)
  (ho:fq x=true) (f_:fq y=true) (hd:fR δ.n dst=true) (h0:0≤m) (hm:m.toNat≤fc.length) (hK:a_ q P g ops rest Q (δ.eY dst (.own i e' k (fc.take m.toNat)))):a_ q P g ops (⟨dst,.slice t x none (some y) none,ty,pos,af,none⟩::rest) Q δ:=
 a_.iR _ hd (fun κ a w r=>by
  have h1:=(r.ra hx ho).iH
  obtain⟨i0,jh,nU⟩:∃i0,P.info? e=some i0∧i0.size=k:=by
   cases h:P.info? e with
   |none=>rw[h] at hk;simp at hk
   |some i0=>rw[h] at hk;exact⟨i0,rfl,by simpa using hk⟩
  have uM:a.eval y=.int .i64 m:=r.lit hy f_
  obtain⟨h,rfl⟩:∃h:Nat,m=(h:Int):=⟨m.toNat,by omega⟩
  rw[Int.toNat_natCast] at hm ⊢
  obtain⟨a0,cap,hv,n_,hb⟩:∃a0 cap,a.eval x=.slice a0 fc.length cap∧fc.length≤cap∧jv (δ.cx g κ) w (.slice a0 h cap) i e' k (fc.take h):=by
   obtain⟨hl,lG,FE,nD,xs,⟨uP,gD⟩,ZH,hxx⟩:=h1
   have mk:∀a0 cap,(∀b,(Value.slice a0 h cap).ownBlock=some b→(δ.cx g κ).κ i=some b)→((Value.slice a0 h cap=.slice none 0 0∧h=0)∨∃g0 cap' cur,Value.slice a0 h cap=.slice (some ⟨g0,0,none⟩) h cap'∧(δ.cx g κ).B≤g0∧w.heap[g0]? =some (.cells cur e' (0,0))∧h≤cap'∧cap'≤maxLen∧cur.size=cap'*k∧cur.toList.take (h*k)=xs.take (h*k))→jv (δ.cx g κ) w (.slice a0 h cap) i e' k (fc.take h):=by
    intro a0 cap H_ v7
    have hlen:(fc.take h).length=h:=by rw[List.length_take];omega
    have hmul:h*k≤fc.length*k:=Nat.mul_le_mul_right k hm
    refine⟨hl,by omega,fun c hc=>FE c (List.mem_of_mem_take hc),H_,xs.take (h*k),⟨by rw[hlen,List.length_take];omega,by rw[hlen];exact v7⟩,fun u hu=>ZH u (List.mem_of_mem_take hu),fun i' j p hp=>?_⟩
    unfold cellAt at hp
    rw[List.getElem?_take] at hp
    by_cases WR:i'<h
    ·rw[if_pos WR] at hp
     obtain⟨u,hu,OH⟩:=hxx i' j p (by unfold cellAt;exact hp)
     refine⟨u,?_,OH⟩
     have Wf:j<k:=by
      rw[Option.bind_eq_some_iff] at hp
      obtain⟨c,EJ,O0⟩:=hp
      have:=FE c (List.mem_of_getElem? EJ)
      have:=(List.getElem?_eq_some_iff.1 O0).1
      omega
     have:(i'+1)*k≤h*k:=Nat.mul_le_mul_right k WR
     rw[Nat.add_mul,Nat.one_mul] at this
     rw[List.getElem?_take,if_pos aJ];exact hu
    ·rw[if_neg WR] at hp;simp at hp
   rcases gD with ⟨hn,hz⟩|⟨g0,cap,cur,hv,hg,h3,hle,FC,n6,qu⟩
   ·refine⟨none,0,by rw[hn,hz],by omega,mk none 0 (fun b hb=>by cases hb) (.inl ⟨?_,by omega⟩)⟩
    rw[show h=0 by omega]
   ·refine⟨_,cap,hv,hle,mk _ cap (fun b hb=>nD b (by rw[hv];exact hb)) (.inr ⟨g0,cap,cur,rfl,hg,h3,by omega,FC,n6,?_⟩)⟩
    rw[← qu,List.take_take,Nat.min_eq_left (Nat.mul_le_mul_right k hm)]
  have fw:∀w,(execOp a.eval ⟨dst,.slice t x none (some y) none,ty,pos,af,none⟩).run P w=.ok (.value (.slice a0 h cap)) w:=by
   intro w
   have Fu:∀w,(Instr.sliceBounds true fc.length cap none (some (.int .i64 (h:Int))) none).run P w=.ok (0,h,cap) w:=by
    intro w
    have e1:(0:Int)≤(h:Int)∧(h:Int)≤(cap:Int):=by omega
    simp [Instr.sliceBounds,Instr.sliceBound,asIntOf,e1]
    intro h0;exfalso;omega
   simp only[execOp,Instr.sliceAt,Instr.slice,run_underlying ht,hv,uM,Sem.run_bind,Result.andThen_ok,Option.map_none,Option.map_some,Fu,sizeOf,typeInfo,Sem.run_pure]
   cases a0 with
   |none=>simp [jh,nU]
   |some ad=>
    simp [jh,nU]
    intro _
    cases ad;simp [Addr.add]
  exact⟨_,fun w' _=>fw w',.own hb⟩) hK
namespace Nf
variable {n x:Nat} {e:List (Nat×AV)} {o:List (Nat×Option Ob)}
theorem ZZ (d:Nat) (v:AV):DS.put ⟨n,e,o,x⟩ d v=⟨n,(d,v)::e,o,x⟩:=rfl
theorem pu0 (δ:DS) (v:AV):jQ δ v []=δ:=rfl
theorem pu1 (δ:DS) (v:AV) (t:Nat) (ts:List Nat):jQ δ v (t::ts)=(jQ δ v ts).put t v:=rfl
theorem rr0 (i:Nat) (e:TypeId) (zs os:List Int):AE i e zs os none=.gM []:=rfl
theorem rr1 (i:Nat) (e:TypeId) (zs os:List Int) (r:List Int→Nat):AE i e zs os (some r)=.own i e 1 ((os.take (r zs)).map nI):=rfl
set_option linter.defProp false in
def YO:=And.intro @ZZ (And.intro @pu0 (And.intro @pu1 (And.intro @rr0 @rr1)))
end Nf
end Go.Ab
/- Contracts of callees that return a row of their own making;the caller owns it from then on. -/
namespace Go.Ab
open Go Go.RowKit
variable {P:Program} {g:e6} {δ:DS} {κ:Kp} {a:Act} {w:World}
variable {ops:Array Oper} {rest:List Oper} {Q:Exit→DS→Prop} {dst:Option Nat} {ty:TypeId} {pos:String} {af:Array Edge}
theorem Rel.PW (r:Rel g δ κ a w) {w':World} (hb:Below w.heap.size w w') (bo:Option Nat) (HM:∀b,bo=some b→w.heap.size≤b∧b<w'.heap.size∧∃c e,w'.heap[b]? =some (.cells c e (0,0))):
  Rel g (δ.fN .row) (gT κ δ.nx bo) a w'∧kr (δ.cx g κ) w ((δ.fN .row).cx g (gT κ δ.nx bo)) w':=by
 have hold:∀k,k<w.heap.size→w'.heap[k]? =w.heap[k]?:=hb.block
 have nG:¬δ.live δ.nx:=fun h=>Nat.lt_irrefl _ (r.nx _ h)
 have fZ:∀i,δ.live i→δ.nx≠i:=fun i h e=>nG (e▸h)
 have fS:∀i,(δ.fN .row).live i→i=δ.nx∨δ.live i:=by
  intro i ⟨o',h⟩
  rw[fY] at h
  by_cases e:δ.nx=i
  ·exact .inl e.symm
  ·rw[if_neg e] at h;exact .inr ⟨o',h⟩
 have G:kr (δ.cx g κ) w ((δ.fN .row).cx g (gT κ δ.nx bo)) w':=
  {B:=rfl,size:=hb.size
   N:=fun b h1 h2=>⟨⟨h2.1,fun i hi=>by
    show gT κ δ.nx bo i≠some b
    rcases fS i hi with rfl|hi
    ·simp only[gT,if_true];intro e;have:=(HM b e).1;omega
    ·simp only[gT,fZ i hi,if_false];exact h2.2 i hi⟩,hold b h1⟩
   Lr:=fun i hi=>by
    have kq:=fZ i (DS.gI hi)
    refine⟨?_,by show gT _ _ _ i=κ i;simp [gT,kq],fun b hκ=>hold b (r.lo i b (DS.gI hi) hκ).2⟩
    show(δ.fN .row).ob i=_
    rw[fY,if_neg kq];exact hi
   Lb:=fun i hi=>by
    have kq:=fZ i (DS.lW hi)
    refine⟨?_,by show gT _ _ _ i=κ i;simp [gT,kq]⟩
    obtain⟨o',h1,h2⟩:=hi
    exact⟨o',by rw[fY,if_neg kq];exact h1,h2⟩}
 refine⟨?_,G⟩
 exact
  {n:=r.n,dfr:=r.dfr.goes fun k _ hk=>hold k (iJ hk),env:=fun j=>G.ra (r.env j)
   obj:=fun i o' h=>by
    rw[fY] at h
    by_cases e:δ.nx=i
    ·rw[if_pos e] at h;cases h;subst e
     intro b hκ
     have xp:bo=some b:=by
      have:gT κ δ.nx bo δ.nx=some b:=hκ
      simpa [gT] using this
     exact(HM b xp).2.2
    ·rw[if_neg e] at h
     exact(r.obj i o' h).goes G (by show gT _ _ _ i=κ i;simp [gT,e]) (fun b hκ=>hold b (r.lo i b ⟨o',h⟩ hκ).2) (fun b hF fx=>⟨hF,hold b fx⟩)
   inj:=fun i j b h1 h2 h3 h4=>by
    rcases fS i h1 with rfl|h1
    ·rcases fS j h2 with rfl|h2
     ·rfl
     ·simp only[gT,if_true] at h3
      simp only[gT,fZ j h2,if_false] at h4
      exact absurd (r.lo j _ h2 h4).2 (by have:=(HM b h3).1;omega)
    ·rcases fS j h2 with rfl|h2
     ·simp only[gT,if_true] at h4
      simp only[gT,fZ i h1,if_false] at h3
      exact absurd (r.lo i _ h1 h3).2 (by have:=(HM b h4).1;omega)
     ·simp only[gT,fZ i h1,fZ j h2,if_false] at h3 h4
      exact r.inj i j b h1 h2 h3 h4
   lo:=fun i b h1 h2=>by
    rcases fS i h1 with rfl|h1
    ·simp only[gT,if_true] at h2
     have:=HM b h2
     have:=r.hB
     omega
    ·simp only[gT,fZ i h1,if_false] at h2
     have:=r.lo i b h1 h2
     have:=hb.size
     omega
   nx:=fun i h=>by
    show i<δ.nx+1
    rcases fS i h with rfl|h
    ·omega
    ·have:=r.nx i h;omega
   wt:=fun k hk=>⟨fun b xT=>⟨((r.wt k hk).1 b xT).1,(hold b (qZ ((r.wt k hk).1 b xT))).trans ((r.wt k hk).1 b xT).2⟩,fun i b hl hi hκ xT=>by
    rcases fS i hl with rfl|kq
    ·simp only[gT,if_true] at hκ
     have:=(HM b hκ).1
     exact absurd (qZ ((r.wt k hk).1 _ xT)) (by omega)
    ·simp only[gT,fZ i kq,if_false] at hκ
     refine(r.wt k hk).2 i b kq ?_ hκ xT
     refine hi.imp (fun hi=>?_) id
     have rJ:(δ.fN .row).ob i=some .row:=hi
     rw[fY,if_neg (fZ i kq)] at rJ
     exact rJ⟩
   below:=r.below.trans (hb.mono r.hB)
   hB:=Nat.le_trans r.hB hb.size
   N0:=r.N0
   km:=r.km
   fr:=r.fr.of hb.size (fun b _ h1 _=>hold b h1) fun i b h1 h2=>by
    rcases fS i h1 with rfl|h1
    ·simp only[gT,if_true] at h2;exact .inr (HM b h2).1
    ·simp only[gT,fZ i h1,if_false] at h2;exact .inl ⟨i,h1,h2⟩}
structure Kz (N:Nat→Prop) (w:World) (B:Nat) (v:Value) (e:TypeId) (k:Nat) (fc:List (List PV)):Prop where
 lim:fc.length≤140737488355328
 hk:∀c∈fc,c.length=k
 row:∃xs,w.ownsRow B e k v fc.length xs∧(∀u∈xs,u.oneCell'=true)∧∀i' j p,cellAt fc i' j=some p→∃u,xs[i'*k+j]? =some u∧RP (fun b=>N b∧v.ownBlock≠some b) w u p
structure L1 (P:Program) (f:FuncId) (args:List AV) (e:TypeId) (k:Nat) (fc:List (List PV)):Prop where
 enters:∀vals w,(callFunc f vals).run P w=.ok (.enter f vals) w
 calls:∀(N:Nat→Prop) (w:World) (vals:Array Value),(∀b,w.heap.size≤b→N b)→vals.size=args.length→
  (∀(j:Nat) (v:Value) (av:AV),vals[j]? =some v→args[j]? =some av→RA (A_ N) w v av)→
  Calls P f vals w fun en w'=>∃v,en=.returned v∧Below w.heap.size w w'∧Kz N w' w.heap.size v e k fc
theorem a_.On {f:FuncId} {xs:List Operand} {tys:Array TypeId} {args:List AV} {e:TypeId} {k:Nat} {fc:List (List PV)} (hf:L1 P f args e k fc) (fX:pF false δ xs args) (hd:fR δ.n dst=true)
  (hK:a_ .plain P g ops rest Q ((δ.fN .row).eY dst (.own δ.nx e k fc))):a_ .plain P g ops (⟨dst,.call {callee:=.value (.func f),args:=xs.toArray,argTypes:=tys},ty,pos,af,none⟩::rest) Q δ:=by
 intro κ a w r0
 show wpListIn _ _ P ops _ (_::rest) a w
 refine gV rfl rfl fun K oS=>?_
 unfold Oper.Ac
 rw[j3 (f:=f) rfl hf.enters,Oper.uponIn_enter]
 refine⟨fun h=>by simp at h,(jK (hf.calls (fun b=>(δ.cx g κ).N b∨w.heap.size≤b) w _ (fun _ h=> .inr h) (by simp [fX.len]) (fX.P3 r0 (fun _ _ h=> .inl h) (fun h=>by simp at h)))).mono ?_⟩
 rintro en w' ⟨v,rfl,hb,hv⟩
 have HM:∀b,v.ownBlock=some b→w.heap.size≤b∧b<w'.heap.size∧∃c e,w'.heap[b]? =some (.cells c e (0,0)):=by
  intro b U1
  obtain⟨xs,⟨_,gD⟩,_⟩:=hv.row
  rcases gD with ⟨rfl,_⟩|⟨b0,cap,cur,rfl,h1,h2,_⟩
  ·cases U1
  ·cases U1
   exact⟨h1,(Array.getElem?_eq_some_iff.1 h2).1,cur,e,h2⟩
 obtain⟨r1,G⟩:=r0.PW hb v.ownBlock HM
 refine oS _ _ (hK _ _ _ (r1.eY (fv hd) (.own ?_)))
 obtain⟨xs,⟨uP,gD⟩,h1,hx⟩:=hv.row
 refine⟨by show(δ.fN .row).ob _=_;rw[fY,if_pos rfl],hv.lim,hv.hk,fun b U1=>by show gT _ _ _ _=_;simp [gT,U1],xs,⟨uP,?_⟩,h1,fun i' j p hp=>?_⟩
 ·rcases gD with h|⟨b0,cap,cur,h2,h3,h4⟩
  ·exact .inl h
  ·exact .inr ⟨b0,cap,cur,h2,Nat.le_trans r0.hB h3,h4⟩
 ·obtain⟨u,hu,hr⟩:=hx i' j p hp
  refine⟨u,hu,hr.mono (Nat.le_refl _) fun b _ hN=>⟨?_,rfl⟩⟩
  have fS:∀i,(δ.fN .row).live i→i=δ.nx∨δ.live i:=by
   intro i ⟨o',h⟩
   rw[fY] at h
   by_cases e:δ.nx=i
   ·exact .inl e.symm
   ·rw[if_neg e] at h;exact .inr ⟨o',h⟩
  have nG:∀i,δ.live i→δ.nx≠i:=fun i h e=>Nat.lt_irrefl _ (r0.nx _ (e▸h))
  refine⟨?_,fun i hi=>?_⟩
  ·rcases hN.1 with h|h
   ·exact h.1
   ·exact r0.BG h
  ·show gT κ δ.nx v.ownBlock i≠some b
   rcases fS i hi with rfl|hi
   ·simp only[gT,if_true];exact hN.2
   ·simp only[gT,nG i hi,if_false]
    rcases hN.1 with h|h
    ·exact h.2 i hi
    ·intro e
     have:=(r0.lo i b hi e).2
     omega
def Kj (P:Program) (rs:List ResultVar) (e:TypeId) (k:Nat) (fc:List (List PV)):Exit→DS→Prop
 |.normal,δ|.ret,δ=>(∃i,gn P δ rs (.own i e k fc))∨(fc=[]∧gn P δ rs (.pv (.lit (.slice none 0 0))))
 |_,_=>False
theorem L1.enter {f:FuncId} {fn:Func} {c:Code} {rs:List ResultVar} {n:Nat} {args:List AV} {e:TypeId} {k:Nat} {fc:List (List PV)} (hf:P.funcs[f]? =some fn) (hb:fn.body=some c) (s6:fn.results=rs.toArray) (hn:fn.ntmps=n) (Cy:Nat.ble args.length n=true)
  (p6:Nat.ble n HS=true) (he:(fn.name== "runtime.NumGoroutine")=false) (h:∀g:e6,g.ro=none→g.wt=none→AW P g c (Kj P rs e k fc) (start n args)):L1 P f args e k fc:=by
 refine⟨fun vals w=>by simp [callFunc,hf,hb];simpa using he,fun N w vals hN hs fX=>?_⟩
 have hle:args.length≤n:=by simpa using Cy
 have LR:n≤HS:=by simpa using p6
 let g:e6:={B:=w.heap.size,w0:=w,N0:=N,held:=fun _=>undef,ro:=none,mks:=[],wt:=none,fr:=fun _=>False,w1:=w}
 have nG:∀i,¬(start n args).live i:=fun i ⟨o,h⟩=>by cases h
 refine callsIn_wide.1 (callsIn_of_wp_marks (n:=0) hf hb trivial (wpIn_mono (h g rfl rfl ⟨fun _=>none,fun _ _=>False⟩ _ w ?_) ?_))
 ·exact
  {n:=by simp [hn,start];omega
   dfr:=⟨[],rfl,by simp [g],by simp [g]⟩
   env:=fun j=>by
    by_cases hj:j<args.length
    ·have h1:(start n args).get j=args[j]:=mZ args 0 j _ (Nat.zero_le _) (by simp [hj])
     have h2:g.val {tmps:=vals++Array.replicate (fn.ntmps - vals.size) undef,defers:=[]} j=vals[j]'(by omega):=by
      unfold e6.val
      rw[if_pos aJ]
      simp [Array.getD_eq_getD_getElem?,Array.getElem?_append,hs,hj]
     rw[h1,h2]
     exact(fX j _ _ (Array.getElem?_eq_getElem aJ) (List.getElem?_eq_getElem hj)).ui _ fun b _ h=>⟨⟨h,fun⟨_,h⟩=>h⟩,fun i hi=>absurd hi (nG i)⟩
    ·have h1:(start n args).get j=.any:=jt args 0 j (by omega)
     rw[h1];exact .any _
   obj:=fun i o h=>by cases h
   inj:=fun i j b h=>absurd h (nG i)
   lo:=fun i b h=>absurd h (nG i)
   nx:=fun i h=>absurd h (nG i)
   wt:=fun k hk=>by cases hk
   below:=Below.refl _ _
   hB:=Nat.le_refl _
   N0:=fun b h _=>hN b h
   fr:=⟨fun b hb=>hb.elim,fun i b hb=>hb.elim⟩
   km:=fun d hd=>by cases hd}
 ·rintro ex a' w' ⟨δ',κ',hq,r'⟩
  have fin:∀i,gn P δ' rs (.own i e k fc)→LeavesInM Fence.wide 0 P fn a'.tmps (fun en w'=>∃v,en=.returned v∧Below w.heap.size w w'∧Kz N w' w.heap.size v e k fc) a'.defers .returning w':=by
   intro i h1
   exact leaves (g:=g) rfl rfl s6 h1 r' (fun w2 r2 u hu=>by
    have ho:=hu.iH
    refine⟨u,rfl,r2.below,ho.lim,ho.hk,?_⟩
    obtain⟨xs,h3,h4,h5⟩:=ho.row
    refine⟨xs,h3,h4,fun i' j p hp=>?_⟩
    obtain⟨v,hv,hr⟩:=h5 i' j p hp
    refine⟨v,hv,hr.mono (Nat.le_refl _) fun b _ hN=>⟨⟨hN.1.1,fun hb=>?_⟩,rfl⟩⟩
    exact hN.2 i (DS.gI ho.live) (ho.vm b hb))
  have finN:fc=[]→gn P δ' rs (.pv (.lit (.slice none 0 0)))→LeavesInM Fence.wide 0 P fn a'.tmps (fun en w'=>∃v,en=.returned v∧Below w.heap.size w w'∧Kz N w' w.heap.size v e k fc) a'.defers .returning w':=by
   intro h0 h1
   exact leaves (g:=g) rfl rfl s6 h1 r' (fun w2 r2 u hu=>by
    have hu:=hu.lit
    subst hu
    subst h0
    exact⟨_,rfl,r2.below,by simp,fun c hc=>by simp at hc,[],World.ownsRow_nil _ _ _ _,fun u hu=>by simp at hu,fun i' j p hp=>by simp [cellAt] at hp⟩)
  cases ex with
  |normal=>
   rcases hq with ⟨i,h1⟩|⟨h0,h1⟩
   ·exact fin i h1
   ·exact finN h0 h1
  |ret=>
   rcases hq with ⟨i,h1⟩|⟨h0,h1⟩
   ·exact fin i h1
   ·exact finN h0 h1
  |_=>exact hq.elim
theorem jj {rs:List ResultVar} {i:Nat} {e:TypeId} {k:Nat} {fc els':List (List PV)} (h:gn P δ rs (.own i e k els')) (he:els'=fc):Kj P rs e k fc .ret δ:=.inl ⟨i,he▸h⟩
theorem mY {rs:List ResultVar} {e:TypeId} {k:Nat} {fc:List (List PV)} (h:gn P δ rs (.pv (.lit (.slice none 0 0)))) (he:fc=[]):Kj P rs e k fc .ret δ:=.inr ⟨he,h⟩
theorem WV.KU {δ δ':DS} {k:Nat} {fc:List (List PV)} (h:fc=[]):WV δ δ' (.pv (.lit (.slice none 0 0))) (.pv (.slice k fc)):=by rw[h];exact .nilpv k
end Go.Ab
/- A callee that takes one value out of a row of one-cell values in place:Go's slices.Delete. -/
namespace Go.Ab
open Go Go.RowKit
variable {P:Program} {g:e6} {δ:DS} {κ:Kp} {a:Act} {w:World}
structure Q4 (P:Program) (f:FuncId) (z:Value):Prop where
 enters:∀vals w,(callFunc f vals).run P w=.ok (.enter f vals) w
 calls:∀(b cap i:Nat) (us:List Value) (w:World),Sort.Holds (fun u:Value=>u) w b 0 us.toArray→(∀u∈us,u.oneCell'=true)→us.length≤cap→cap≤maxLen→i<us.length→
  Calls P f #[.slice (some ⟨b,0,none⟩) us.length cap,.int .i64 i,.int .i64 (i+1)] w fun e w'=>e=.returned (.slice (some ⟨b,0,none⟩) (us.length - 1) cap)∧
   ∃n,w'=Sort.putRow (fun u:Value=>u) (Sort.ahead w n) b 0 (us.take i++us.drop (i+1)++ [z]).toArray
theorem zW {w:World} {b n:Nat} {c:Array Value} {e:TypeId} {d:Array Value} (h:w.heap[b]? =some (.cells c e (0,0))):
  (Sort.putRow (fun u:Value=>u) (Sort.ahead w n) b 0 d).heap[b]? =some (.cells (Sort.putCells (fun u:Value=>u) 0 d c) e (0,0)):=by
 unfold Sort.putRow Sort.mapBlock Sort.ahead
 simp only
 rw[Array.getElem?_modify,if_pos rfl,h]
 rfl
theorem xN (w:World) (b n:Nat) (d:Array Value):iw w (Sort.putRow (fun u:Value=>u) (Sort.ahead w n) b 0 d) (some b):=
 ⟨rfl,rfl,rfl,by simp [Sort.putRow,Sort.mapBlock,Sort.ahead],fun k hk fZ=>by
  unfold Sort.putRow Sort.mapBlock Sort.ahead
  simp only
  rw[Array.getElem?_modify,if_neg (fun e=>fZ (by rw[e]))]⟩
theorem w_ {c:Array Value} {d:List Value} {m:Nat} (hc:d.length≤c.size) (hm:m≤d.length):(Sort.putCells (fun u:Value=>u) 0 d.toArray c).toList.take m=d.take m:=by
 apply List.ext_getElem
 ·simp [Sort.putCells];omega
 ·intro j h1 h2
  have hj:j<d.length:=by simp at h2;omega
  simp [Sort.putCells,hj]
theorem yu {α:Type} {l:List α} {i j:Nat}:(l.take i++l.drop (i+1))[j]? =if j<i then l[j]? else l[j+1]?:=by
 by_cases h:i≤l.length
 ·by_cases hj:j<i
  ·rw[if_pos hj,List.getElem?_append_left (by rw[List.length_take];omega),List.getElem?_take,if_pos hj]
  ·rw[if_neg hj,List.getElem?_append_right (by rw[List.length_take];omega),List.length_take,Nat.min_eq_left h,List.getElem?_drop]
   congr 1;omega
 ·have h1:l.take i=l:=List.take_of_length_le (by omega)
  have h2:l.drop (i+1)=[]:=List.drop_eq_nil_of_le (by omega)
  rw[h1,h2,List.append_nil]
  by_cases hj:j<i
  ·rw[if_pos hj]
  ·rw[if_neg hj,List.getElem?_eq_none aJ,List.getElem?_eq_none aJ]
variable {ops:Array Oper} {rest:List Oper} {Q:Exit→DS→Prop} {dst:Option Nat} {ty:TypeId} {pos:String} {af:Array Edge} {gd:Option (Tmp×Bool)}
theorem iQ.P5 {f:FuncId} {zv:Value} {x y z:Operand} {tys:Array TypeId} (hf:Q4 P f zv) {r i:Nat} {e:TypeId} {fc:List (List PV)} {m:Int} (hx:δ.ev x=.own r e 1 fc) (hy:δ.ev y=e7 (i:Nat)) (hz:δ.ev z=e7 m) (hr:δ.ob r=some .row)
  (ho:fq x=true) (f_:fq y=true) (rZ:fq z=true) (hd:fR δ.n dst=true) (hm:m=(i:Int)+1) (hi:i<fc.length):
  iQ P g ⟨dst,.call {callee:=.value (.func f),args:= #[x,y,z],argTypes:=tys},ty,pos,af,none⟩ δ ((δ.gF (AV.kill r)).eY dst (.own r e 1 (fc.take i++fc.drop (i+1)))):=by
 subst hm
 intro κ a w rl
 right
 have xJ:=(rl.ra hx ho).iH
 have uM:a.eval y=.int .i64 (i:Nat):=rl.lit hy f_
 have Xo:a.eval z=.int .i64 ((i:Int)+1):=rl.lit hz rZ
 have fw:=j3 (dst:=dst) (ty:=ty) (pos:=pos) (af:=af) (xs:= #[x,y,z]) (tys:=tys) (ρ:=a.eval) (x:=.func f) (f:=f) rfl hf.enters w
 have lG:fc.length≤140737488355328:=xJ.lim
 refine⟨f, #[a.eval x,a.eval y,a.eval z],by simpa using fw,?_⟩
 obtain⟨xs,⟨hl,gD⟩,nH,mw⟩:=xJ.row
 rw[Nat.mul_one] at hl
 rcases gD with ⟨_,h0⟩|⟨b,cap,c,hv,hB,hb,n_,nC,n6,qu⟩
 ·exfalso;omega
 ·have hκ:κ r=some b:=xJ.vm b (by rw[hv];rfl)
  rw[hv,uM,Xo]
  have RN:b<w.heap.size:=(Array.getElem?_eq_some_iff.1 hb).1
  rw[Nat.mul_one] at n6 qu
  have hold:Sort.Holds (fun u:Value=>u) w b 0 xs.toArray:=by
   intro j hj
   have n8:j<xs.length:=by simpa using hj
   refine⟨?_,by rw[Nat.zero_add];exact mX hb _⟩
   rw[Nat.zero_add,cell_of hb]
   have h1:(c.toList.take fc.length)[j]? =xs[j]?:=by rw[qu]
   rw[List.getElem?_take,if_pos aJ,Array.getElem?_toList,List.getElem?_eq_getElem n8] at h1
   rw[h1]
   simp [n8]
  rw[← hl]
  refine(hf.calls b cap i xs w hold nH aJ nC aJ).mono fun e' w' ⟨he,n,j5⟩=>?_
  obtain⟨d,uT⟩:∃d,d=xs.take i++xs.drop (i+1):=⟨_,rfl⟩
  have A2:d.length=xs.length - 1:=by rw[uT];simp;omega
  rw[← uT] at j5
  have hh:w'.heap[b]? =some (.cells (Sort.putCells (fun u:Value=>u) 0 (d++ [zv]).toArray c) e (0,0)):=by rw[j5];exact zW hb
  have ny:(Sort.putCells (fun u:Value=>u) 0 (d++ [zv]).toArray c).size=c.size:=by simp [Sort.putCells]
  have Ju:=w_ (c:=c) (d:=d++ [zv]) (m:=d.length) (by simp;omega) (by simp)
  rw[List.take_left] at Ju
  obtain⟨rk,G⟩:=rl.row hr (κ':=κ) (w':=w') (fun _ _=>rfl) (by rw[hκ,j5];exact xN _ _ _ _) (fun b' iU=>by
   obtain rfl:b=b':=Option.some.inj (hκ.symm.trans iU)
   exact⟨.inl hκ,(Array.getElem?_eq_some_iff.1 hh).1,_,_,hh⟩) (AV.kill r) rfl (fun G v av h=>h.kill G)
  have Rs:(fc.take i++fc.drop (i+1)).length=d.length:=by rw[A2];simp;omega
  refine⟨_,κ,he,rk.eY (fv hd) (.own ⟨?_,by omega,fun c hc=>?_,fun b' iU=>?_,d,⟨by rw[Nat.mul_one];exact Rs.symm,.inr ⟨b,cap,_,?_,hB,hh,?_,nC,?_,?_⟩⟩,fun u hu=>?_,fun i' j p hp=>?_⟩)⟩
  ·show(δ.gF (AV.kill r)).ob r=some .row
   rw[kb,hr];rfl
  ·rcases List.mem_append.1 hc with hc|hc
   ·exact xJ.hk c (List.mem_of_mem_take hc)
   ·exact xJ.hk c (List.mem_of_mem_drop hc)
  ·cases iU;exact hκ
  ·rw[Rs,A2]
  ·rw[Rs];omega
  ·rw[ny,Nat.mul_one];exact n6
  ·rw[Rs,Nat.mul_one];exact Ju
  ·rw[uT] at hu
   rcases List.mem_append.1 hu with hu|hu
   ·exact nH u (List.mem_of_mem_take hu)
   ·exact nH u (List.mem_of_mem_drop hu)
  ·have mq:cellAt fc (if i'<i then i' else i'+1) j=some p:=by
    unfold cellAt at hp ⊢
    rw[yu] at hp
    split at hp
    ·rename_i h;rw[if_pos h];exact hp
    ·rename_i h;rw[if_neg h];exact hp
   obtain⟨u,hu,OR⟩:=mw _ j p mq
   have hj:j=0:=by
    unfold cellAt at mq
    rw[Option.bind_eq_some_iff] at mq
    obtain⟨c,EJ,O0⟩:=mq
    have:=xJ.hk c (List.mem_of_getElem? EJ)
    have:=(List.getElem?_eq_some_iff.1 O0).1
    omega
   subst hj
   refine⟨u,?_,G.rp (C:=(δ.cx g κ).less r) OR⟩
   rw[Nat.mul_one,Nat.add_zero] at hu ⊢
   rw[uT,yu]
   split at hu
   ·rename_i h;rw[if_pos h];exact hu
   ·rename_i h;rw[if_neg h];exact hu
theorem a_.P5 {f:FuncId} {zv:Value} {x y z:Operand} {tys:Array TypeId} (hf:Q4 P f zv) {α:Type} {h:α→List PV} {l:List α} {r i:Nat} {e:TypeId} {m:Int} (hx:δ.ev x=.own r e 1 (l.map h)) (hy:δ.ev y=e7 (i:Nat)) (hz:δ.ev z=e7 m) (hr:δ.ob r=some .row)
  (ho:fq x=true) (f_:fq y=true) (rZ:fq z=true) (hd:fR δ.n dst=true) (hm:m=(i:Int)+1) (hi:i<l.length) (hK:a_ .plain P g ops rest Q ((δ.gF (AV.kill r)).eY dst (.own r e 1 ((l.eraseIdx i).map h)))):
  a_ .plain P g ops (⟨dst,.call {callee:=.value (.func f),args:= #[x,y,z],argTypes:=tys},ty,pos,af,none⟩::rest) Q δ:=
 a_.qA rfl rfl (iQ.P5 hf hx hy hz hr ho f_ rZ hd hm (by simpa using hi)) (by
  have e1:(l.map h).take i++(l.map h).drop (i+1)=(l.eraseIdx i).map h:=by rw[List.eraseIdx_eq_take_drop_succ,List.map_append,List.map_take,List.map_drop]
  rw[e1];exact hK)
end Go.Ab
/- Eight values laid out. -/
namespace Go.Ab
open Go Go.RowKit
variable {q:Md} {P:Program} {g:e6} {δ:DS} {κ:Kp} {a:Act} {w:World}
variable {ops:Array Oper} {rest:List Oper} {Q:Exit→DS→Prop} {dst:Option Nat} {ty:TypeId} {pos:String} {af:Array Edge}
end Go.Ab
/- Values of interface type,type switches;a string appended to a row of bytes. -/
namespace Go.Ab
open Go Go.RowKit
variable {q:Md} {P:Program} {g:e6} {δ:DS} {κ:Kp} {a:Act} {w:World}
variable {ops:Array Oper} {rest:List Oper} {Q:Exit→DS→Prop} {dst:Option Nat} {ty:TypeId} {pos:String} {af:Array Edge}
def il (l:List UInt8):List (List PV):=l.map fun b=>[.lit (.int .u8 b.toNat)]
theorem nv (l:List UInt8):(il l).length=l.length:=by simp [il]
theorem CO {l:List UInt8} {i j:Nat} {p:PV} (h:cellAt (il l) i j=some p):j=0∧∃b,l[i]? =some b∧p=.lit (.int .u8 b.toNat):=by
 unfold cellAt il at h
 rw[List.getElem?_map] at h
 cases hb:l[i]? with
 |none=>rw[hb] at h;simp at h
 |some b=>
  rw[hb] at h
  cases j with
  |zero=>simp at h;exact⟨rfl,b,rfl,h.symm⟩
  |succ j=>simp at h
theorem ve (r:Rel g δ κ a w) {i:Nat} {e t u:TypeId} {l:List UInt8} {v:Value} {s:ByteArray} (ho:δ.ob i=some .row) (hv:jv (δ.cx g κ) w v i e 1 (il l)) (ht:P.underlying t=some (.slice e)) (hu:P.underlying u=some .string)
  (hi:(P.info? e).map (fun i=>(i.size,i.zero,i.bytes))=some (1,some (.int .u8 0),1)) (hl:l.length+s.size≤140737488355328):
  ∃v' w' κ',(Builtin.append_ #[t,u] ty #[v,.string s]).run P w=.ok v' w'∧Rel g (δ.gF (AV.kill i)) κ' a w'∧jv ((δ.gF (AV.kill i)).cx g κ') w' v' i e 1 (il (l++s.data.toList)):=by
 obtain⟨i0,jh,ln,mE,x4⟩:∃i0,P.info? e=some i0∧i0.size=1∧i0.zero=some (.int .u8 0)∧i0.bytes=1:=by
  cases h:P.info? e with
  |none=>rw[h] at hi;simp at hi
  |some i0=>rw[h] at hi;simp at hi;exact⟨i0,rfl,hi.1,hi.2.1,hi.2.2⟩
 obtain⟨nq,lG,hk,nD,xs,gD,h1,NY⟩:=hv
 rw[nv] at gD lG
 have sL:l.length+s.size≤maxLen:=by simp only[maxLen];omega
 have hB:g.B≤w.heap.size:=r.hB
 obtain⟨v',w',fw,oB,lg,_⟩:=Lib.run_append_own_string (P:=P) w g.B t u ty e i0 ht hu jh mE ln x4 v l.length xs gD s sL hl hB
 have A7:∀b,v.ownBlock=some b→κ i=some b:=nD
 have hT:iw w w' (κ i):=by
  cases js:v.ownBlock with
  |none=>rw[js] at lg;exact⟨lg.os,lg.tape,lg.output,lg.size,fun k' lO _=>lg.block k' lO (by simp)⟩
  |some b=>rw[js] at lg;rw[A7 b js];exact iw.grownBy lg
 let κ':Kp:=gT κ i v'.ownBlock
 have N_:∀j,j≠i→κ' j=κ j:=fun j hj=>by show gT _ _ _ _=_;simp [gT,Ne.symm hj]
 have hκ'i:κ' i=v'.ownBlock:=by show gT _ _ _ _=_;simp [gT]
 have uj:∀b,κ' i=some b→(κ i=some b∨w.heap.size≤b)∧b<w'.heap.size∧∃c e,w'.heap[b]? =some (.cells c e (0,0)):=by
  intro b iU
  rw[hκ'i] at iU
  rcases oB.2 with ⟨rfl,_⟩|⟨b',cap,cur,rfl,h2,h3,_⟩
  ·simp [Value.ownBlock] at iU
  ·simp only[Value.ownBlock,Option.some.injEq] at iU
   subst iU
   refine⟨?_,(Array.getElem?_eq_some_iff.1 h3).1,cur,e,h3⟩
   by_cases fx:w.heap.size≤b'
   ·exact .inr fx
   ·left
    have Kx:b'<w.heap.size:=by omega
    rcases gD.2 with ⟨rfl,h0⟩|⟨b0,cap0,cur0,rfl,h4,h5,h6⟩
    ·exfalso
     by_cases hm:s.size=0
     ·have hf:=Lib.run_firstCells_string (P:=P) w 1 s
      have hn:Lib.strCells s=[]:=List.eq_nil_of_length_eq_zero (by rw[Lib.strCells_length];exact hm)
      rw[hm,hn] at hf
      have ov:(Builtin.append_ #[t,u] ty #[.slice none 0 0,.string s]).run P w=.ok (.slice none 0 0) w:=by
       simp [Builtin.append_,run_underlying ht,run_underlying hu,sizeOf,typeInfo,jh,ln,Builtin.lenOf,hm,hf]
      rw[ov] at fw
      simp at fw
     ·have ov:=run_append_nil_string (P:=P) w t u ty e i0 (.int .u8 0) ht hu jh mE s aJ aJ (by rw[x4];omega)
      rw[ov] at fw
      simp only[Result.ok.injEq,Value.slice.injEq,Option.some.injEq,Addr.mk.injEq] at fw
      omega
    ·rw[A7 b0 rfl]
     by_cases vA:b'=b0
     ·rw[vA]
     ·exfalso
      by_cases ku:l.length+s.size≤cap0
      ·have ov:=Lib.run_append_room_string (P:=P) w t u ty e i0 ht hu jh ln b0 l.length cap0 cur0 h5 s ku (by have:=h6.2.2.1;simp at this;omega)
       rw[ov] at fw
       simp only[Result.ok.injEq,Value.slice.injEq,Option.some.injEq,Addr.mk.injEq] at fw
       exact vA fw.1.1.1.symm
      ·have ov:=Lib.run_append_grow_string (P:=P) w t u ty e i0 (.int .u8 0) ht hu jh mE ⟨b0,0,none⟩ l.length cap0 xs (by rw[ln];exact gD.1) (gD.cells (g:=b0) rfl) s aJ aJ (by rw[x4];exact growslice_fits aJ aJ)
       rw[ov] at fw
       simp only[Result.ok.injEq,Value.slice.injEq,Option.some.injEq,Addr.mk.injEq] at fw
       omega
 obtain⟨r',G⟩:=r.row ho N_ hT uj (AV.kill i) rfl (fun G v av h=>h.kill G)
 refine⟨v',w',κ',fw,r',?_⟩
 have H7:s.data.toList.length=s.size:=by rw[Array.length_toList];rfl
 refine⟨?_,by rw[nv,List.length_append,H7];exact hl,fun c hc=>?_,fun b iU=>hκ'i.trans iU,xs++Lib.strCells s,by rw[nv,List.length_append,H7];exact oB,fun u hu=>(List.mem_append.1 hu).elim (h1 u) (Lib.strCells_oneCell s u),fun i' j p hp=>?_⟩
 ·show(δ.gF _).ob i=_
  rw[kb,ho];rfl
 ·unfold il at hc
  obtain⟨b,_,rfl⟩:=List.mem_map.1 hc
  rfl
 ·obtain⟨rfl,b,hb,rfl⟩:=CO hp
  refine⟨.int .u8 b.toNat,?_,.lit _⟩
  have uP:xs.length=l.length:=by simpa using gD.1
  simp only[Nat.mul_one,Nat.add_zero]
  by_cases fx:i'<l.length
  ·rw[List.getElem?_append_left fx] at hb
   rw[List.getElem?_append_left aJ]
   obtain⟨u,h3,h4⟩:=NY i' 0 (.lit (.int .u8 b.toNat)) (by unfold cellAt il;rw[List.getElem?_map,hb];rfl)
   simp only[Nat.mul_one,Nat.add_zero] at h3
   rw[h3]
   cases h4
   rfl
  ·rw[List.getElem?_append_right aJ] at hb
   rw[List.getElem?_append_right aJ,uP]
   unfold Lib.strCells
   rw[List.getElem?_map,hb]
   rfl
theorem wB {gd:Option (Tmp×Bool)} {s x:Operand} {t u:TypeId} {ρ:Operand→Value} {v:Value} {w':World} (h:(Builtin.append_ #[t,u] ty #[ρ s,ρ x]).run P w=.ok v w'):
  (execOp ρ ⟨dst,.call {callee:=.builtin .append,args:= #[s,x],argTypes:= #[t,u]},ty,pos,af,gd⟩).run P w=.ok (.value v) w':=by
 simp only[execOp,resolve,invoke,builtin,Sem.run_bind,Sem.run_pure,Result.andThen_ok,List.map_toArray,List.map_cons,List.map_nil,h]
theorem iQ.rG {gd:Option (Tmp×Bool)} {s x:Operand} {t u e:TypeId} {i:Nat} {l:List UInt8} {z:ByteArray} (hs:δ.ev s=.own i e 1 (il l)) (hx:δ.ev x=iO z) (hr:δ.ob i=some .row) (ht:P.underlying t=some (.slice e)) (hu:P.underlying u=some .string)
  (hi:(P.info? e).map (fun i=>(i.size,i.zero,i.bytes))=some (1,some (.int .u8 0),1)) (ho:fq s=true) (f_:fq x=true) (hd:fR δ.n dst=true) (hl:l.length+z.size≤140737488355328):
  iQ P g ⟨dst,.call {callee:=.builtin .append,args:= #[s,x],argTypes:= #[t,u]},ty,pos,af,gd⟩ δ ((δ.gF (AV.kill i)).eY dst (.own i e 1 (il (l++z.data.toList)))):=by
 intro κ a w r
 obtain⟨v',w',κ',h1,h2,h3⟩:=ve (ty:=ty) r hr (r.ra hs ho).iH ht hu hi hl
 rw[← r.lit hx f_] at h1
 exact .inl ⟨_,_,_,_,wB h1,.inl rfl,h2.eY (fv hd) (.own h3)⟩
theorem a_.rG {s x:Operand} {t u e:TypeId} {i:Nat} {l:List UInt8} {z:ByteArray} (hs:δ.ev s=.own i e 1 (il l)) (hx:δ.ev x=iO z) (hr:δ.ob i=some .row) (ht:P.underlying t=some (.slice e)) (hu:P.underlying u=some .string)
  (hi:(P.info? e).map (fun i=>(i.size,i.zero,i.bytes))=some (1,some (.int .u8 0),1)) (ho:fq s=true) (f_:fq x=true) (hd:fR δ.n dst=true) (hl:l.length+z.size≤140737488355328)
  (hK:a_ .plain P g ops rest Q ((δ.gF (AV.kill i)).eY dst (.own i e 1 (il (l++z.data.toList))))):a_ .plain P g ops (⟨dst,.call {callee:=.builtin .append,args:= #[s,x],argTypes:= #[t,u]},ty,pos,af,none⟩::rest) Q δ:=
 a_.qA rfl rfl (iQ.rG hs hx hr ht hu hi ho f_ hd hl) hK
theorem a_.EL {x y:Operand} {t:TypeId} {s:ByteArray} {n:Int} (hx:δ.ev x=iO s) (hy:δ.ev y=e7 n) (ht:P.underlying t=some .string) (ho:fq x=true) (f_:fq y=true) (hd:fR δ.n dst=true) (h0:0≤n) (hn:n≤s.size)
  (hK:a_ q P g ops rest Q (δ.eY dst (iO (s.extract n.toNat s.size)))):a_ q P g ops (⟨dst,.slice t x (some y) none none,ty,pos,af,none⟩::rest) Q δ:=
 a_.iR _ hd (fun κ a w r=>⟨_,fun w' _=>by
  have h:=r.lit hx ho
  have h2:=r.lit hy f_
  have h3:=run_slice_string_from_if (P:=P) w' t s .i64 n ht
  rw[if_pos ⟨h0,hn⟩] at h3
  simp only[execOp,h,h2,Option.map_none,Option.map_some,Sem.run_bind,run_sliceAt_string w' t _ _ _ _ ht,h3,Result.andThen_ok]
  rfl,.pv (.lit _)⟩) hK
section ints
variable {x y:Operand} {t t':TypeId} {m n:Int} {k:IntKind} (hx:δ.ev x=.pv (.lit (.int k m))) (hy:δ.ev y=.pv (.lit (.int k n))) (ho:fq x=true) (f_:fq y=true) (hd:fR δ.n dst=true)
include hx hy ho f_ hd
end ints
end Go.Ab
/- The last bit of a number turned;objects renumbered ahead of a region. -/
namespace Go.Ab
open Go Go.RowKit
variable {P:Program} {g:e6} {δ:DS} {q:Md}
variable {ops:Array Oper} {rest:List Oper} {Q:Exit→DS→Prop} {dst:Option Nat} {ty:TypeId} {pos:String} {af:Array Edge}
end Go.Ab
/- Any number of values of one cell laid out. -/
namespace Go.Ab
open Go Go.RowKit
variable {q:Md} {P:Program} {g:e6} {δ:DS} {κ:Kp} {a:Act} {w:World}
variable {ops:Array Oper} {rest:List Oper} {Q:Exit→DS→Prop} {dst:Option Nat} {ty:TypeId} {pos:String} {af:Array Edge}
inductive RL (δ:DS):Nat→List (Nat×Operand)→List PV→Prop
 |nil {i:Nat}:RL δ i [] []
 |cons {i:Nat} {x:Operand} {p:PV} {ps:List PV} {r:List (Nat×Operand)} (h:δ.ev x=.pv p) (h1:AV.one (.pv p)=true) (ho:fq x=true) (hr:RL δ (i+1) r ps):RL δ i ((i,x)::r) (p::ps)
theorem RL.ok {δ:DS} {i:Nat} {parts:List (Nat×Operand)} {ps:List PV} (h:RL δ i parts ps):parts.all (fun p=>fq p.2)=true:=by
 induction h with
 |nil=>rfl
 |cons h h1 ho hr ih=>simp [ho,ih]
end Go.Ab
/- Pools:rows of one-cell values,reached by slices that are told whole. -/
namespace Go.Ab
open Go Go.RowKit
variable {q:Md} {P:Program} {g:e6} {δ:DS} {κ:Kp} {a:Act} {w:World}
variable {ops:Array Oper} {rest:List Oper} {Q:Exit→DS→Prop} {dst:Option Nat} {ty:TypeId} {pos:String} {af:Array Edge} {gd:Option (Tmp×Bool)}
abbrev kF:=Nat→Value×List Value
def nE (rows:kF) (k:Nat) (p:Value×List Value):kF:=fun j=>if j=k then p else rows j
def jn (m:Nat):Value→Value
 |.slice a _ c=> .slice a m c
 |v=>v
def nt (n:Nat):Value→Value
 |.slice (some ⟨b,o,x⟩) _ _=> .pointer (some ⟨b,o+n,x⟩)
 |v=>v
theorem q7 {w:World} {B:Nat} {e:TypeId} {v:Value} {n:Nat} {xs:List Value} (h:w.ownsRow B e 1 v n xs) {b:Nat} (hb:v.ownBlock=some b):∃cur,w.heap[b]? =some (.cells cur e (0,0))∧B≤b:=by
 rcases h.2 with ⟨rfl,_⟩|⟨b',cap,cur,rfl,h1,h2,_⟩
 ·cases hb
 ·cases hb;exact⟨cur,h2,h1⟩
theorem DS.IA {δ:DS} {i:Nat} {o o':Ob} (ho:δ.ob i=some o) (j:Nat):(δ.gm i (some o')).live j↔δ.live j:=by
 unfold DS.live
 rw[jH]
 by_cases e:i=j
 ·subst e;simp [ho]
 ·simp [e]
theorem Rel.og (r:Rel g δ κ a w) {i:Nat} {e:TypeId} {rows:kF} (ho:δ.ob i=some (.ff e rows)) {k:Nat} {w':World} (t:iw w w' (rows k).1.ownBlock) {v':Value} {ys:List Value}
  (gD:w'.ownsRow g.B e 1 v' ys.length ys) (hl:ys.length≤140737488355328) (h1:∀u∈ys,u.oneCell'=true) (uj:∀b,v'.ownBlock=some b→(rows k).1.ownBlock=some b∨w.heap.size≤b):
  ∃κ',Rel g (δ.gm i (some (.ff e (nE rows k (v',ys))))) κ' a w'∧kr (δ.cx g κ) w ((δ.gm i (some (.ff e (nE rows k (v',ys))))).cx g κ') w':=by
 obtain⟨A7,yr,Av⟩:=r.obj i _ ho
 have hi:δ.live i:=⟨_,ho⟩
 have hF:∀kk b,(rows kk).1.ownBlock=some b→κ.F i b:=fun kk b hb=>(yr kk).2.2.1 b hb
 have U6:∀b,κ.Fs b→b<w.heap.size:=fun b hb=>r.fr.Fg hb
 have fS:=fun j=>DS.IA (o':=.ff e (nE rows k (v',ys))) ho j
 have nq:∀j,(δ.gm i (some (.ff e (nE rows k (v',ys))))).lr j↔δ.lr j:=by
  intro j
  unfold DS.lr
  rw[jH]
  by_cases e':i=j
  ·subst e';rw[if_pos rfl,ho];simp
  ·simp [e']
 have vy:∀j,δ.lb j→(δ.gm i (some (.ff e (nE rows k (v',ys))))).lb j:=by
  rintro j ⟨o,h2,h3⟩
  unfold DS.lb
  rw[jH]
  by_cases e':i=j
  ·subst e';rw[if_pos rfl];exact⟨_,rfl,rfl⟩
  ·rw[if_neg e'];exact⟨o,h2,h3⟩
 have nD:∀b,b<w.heap.size→¬(rows k).1.ownBlock=some b→w'.heap[b]? =w.heap[b]?:=fun b h2 h3=>t.block b h2 h3
 have UH:∀b,b<w.heap.size→¬κ.Fs b→w'.heap[b]? =w.heap[b]?:=fun b h2 h3=>nD b h2 fun h4=>h3 ⟨i,hF k b h4⟩
 have hv'lt:∀b,v'.ownBlock=some b→b<w'.heap.size∧g.B≤b:=fun b hb=>let ⟨_,h2,h3⟩:=q7 gD hb;⟨iJ h2,h3⟩
 let κ':Kp:=⟨κ.f,fun j b=>κ.F j b∨(j=i∧v'.ownBlock=some b)⟩
 have hold:∀j b,κ'.F j b→b<w.heap.size→κ.F j b:=by
  rintro j b (h2|⟨rfl,h2⟩) h3
  ·exact h2
  ·rcases uj b h2 with h4|h4
   ·exact hF k b h4
   ·omega
 have G:kr (δ.cx g κ) w ((δ.gm i (some (.ff e (nE rows k (v',ys))))).cx g κ') w':=
  {B:=rfl,size:=t.size
   N:=fun b h2 h3=>⟨⟨⟨h3.1.1,fun⟨j,hj⟩=>h3.1.2 ⟨j,hold j b hj h2⟩⟩,fun j hj=>h3.2 j ((fS j).1 hj)⟩,UH b h2 h3.1.2⟩
   Lr:=fun j hj=>⟨(nq j).2 hj,rfl,fun b hb=>UH b (r.lo j b (DS.gI hj) hb).2 (r.fr.nr (DS.gI hj) hb)⟩
   Lb:=fun j hj=>⟨vy j hj,rfl⟩}
 refine⟨κ',?_,G⟩
 exact
  {n:=r.n
   dfr:=r.dfr.goes fun b _ hb=>nD b (iJ hb) fun h2=>by
    obtain⟨cur,h3,_⟩:=q7 (yr k).1 h2
    rw[hb] at h3;cases h3
   env:=fun j=>G.ra (r.env j)
   obj:=fun j x h=>by
    rw[jH] at h
    by_cases e':i=j
    ·subst e'
     rw[if_pos rfl] at h
     cases h
     refine⟨A7,fun kk=>?_,fun k1 k2 b h2 h3=>?_⟩
     ·unfold nE
      by_cases hk:kk=k
      ·rw[if_pos hk];exact⟨gD,hl,fun b hb=> .inr ⟨rfl,hb⟩,h1⟩
      ·rw[if_neg hk]
       exact(yr kk).goes rfl fun b hb h2 h3=>⟨.inl h2,nD b h3 fun h4=>hk (Av kk k b hb h4)⟩
     ·unfold nE at h2 h3
      by_cases Dc:k1=k
      ·by_cases sd:k2=k
       ·rw[Dc,sd]
       ·rw[if_pos Dc] at h2
        rw[if_neg sd] at h3
        rcases uj b h2 with h4|h4
        ·exact Dc.trans (Av k k2 b h4 h3)
        ·exact absurd (U6 b ⟨i,hF k2 b h3⟩) (by omega)
      ·by_cases sd:k2=k
       ·rw[if_neg Dc] at h2
        rw[if_pos sd] at h3
        rcases uj b h3 with h4|h4
        ·exact(Av k1 k b h2 h4).trans sd.symm
        ·exact absurd (U6 b ⟨i,hF k1 b h2⟩) (by omega)
       ·rw[if_neg Dc] at h2
        rw[if_neg sd] at h3
        exact Av k1 k2 b h2 h3
    ·rw[if_neg e'] at h
     exact(r.obj j x h).goes G rfl (fun b hb=>UH b (r.lo j b ⟨x,h⟩ hb).2 (r.fr.nr ⟨x,h⟩ hb)) fun b h2 h3=>⟨.inl h2,nD b h3 fun h4=>e' ((r.fr.2 j b h2).2.2.2.2 i (hF k b h4))⟩
   inj:=fun i' j b h2 h3=>r.inj i' j b ((fS i').1 h2) ((fS j).1 h3)
   lo:=fun j b h2 h3=>by have:=r.lo j b ((fS j).1 h2) h3;exact⟨this.1,Nat.lt_of_lt_of_le this.2 t.size⟩
   nx:=fun j h=>r.nx j ((fS j).1 h)
   wt:=fun kk hk=>⟨fun b hb=>⟨((r.wt kk hk).1 b hb).1,(nD b (qZ ((r.wt kk hk).1 b hb)) (fun h4=>(r.fr.2 i b (hF k b h4)).1.2 kk hk hb)).trans ((r.wt kk hk).1 b hb).2⟩,fun j b hj v7=>(r.wt kk hk).2 j b ((fS j).1 hj) (v7.imp (nq j).1 id)⟩
   below:=r.rT t (fun b hb=>(r.fr.2 i b (hF k b hb)).1.1)
   hB:=Nat.le_trans r.hB t.size
   N0:=r.N0
   km:=r.km
   fr:=by
    refine⟨fun b hb=>?_,fun j b hb=>?_⟩
    ·obtain⟨h2,h3,h4⟩:=r.fr.1 b hb
     refine⟨h2,(UH b (r.fr.A8 hb) fun⟨j,hj⟩=>(r.fr.2 j b hj).2.2.1 hb).trans h3,fun j hj=>h4 j ((fS j).1 hj)⟩
    ·have TG:κ.F j b∨(j=i∧v'.ownBlock=some b∧w.heap.size≤b):=by
      rcases hb with h2|⟨rfl,h2⟩
      ·exact .inl h2
      ·rcases uj b h2 with h3|h3
       ·exact .inl (hF k b h3)
       ·exact .inr ⟨rfl,h2,h3⟩
     rcases TG with h2|⟨rfl,h2,h3⟩
     ·obtain⟨h4,h5,h6,h7,h8⟩:=r.fr.2 j b h2
      exact⟨h4,Nat.lt_of_lt_of_le h5 t.size,h6,fun j' n8=>h7 j' ((fS j').1 n8),fun j' n8=>h8 j' (hold j' b n8 h5)⟩
     ·refine⟨⟨(hv'lt b h2).2,fun kk hk hb=>by have:=qZ ((r.wt kk hk).1 b hb);omega⟩,(hv'lt b h2).1,fun h4=>?_,fun j' n8 h4=>?_,fun j' n8=>?_⟩
      ·have:=r.fr.A8 h4;omega
      ·have:=r.lo j' b ((fS j').1 n8) h4;omega
      ·rcases n8 with h4|⟨rfl,_⟩
       ·have:=U6 b ⟨j',h4⟩;omega
       ·rfl}
theorem gZ (r:Rel g δ κ a w) {i:Nat} {e:TypeId} {rows:kF} (ho:δ.ob i=some (.ff e rows)) (k:Nat):w.ownsRow g.B e 1 (rows k).1 (rows k).2.length (rows k).2:=((r.obj i _ ho).2.1 k).1
theorem M4 (r:Rel g δ κ a w) {i:Nat} {e:TypeId} {rows:kF} (ho:δ.ob i=some (.ff e rows)) {k b:Nat} (hb:(rows k).1.ownBlock=some b):b<w.heap.size∧∀j,δ.lr j→κ j≠some b:=by
 have hF:=((r.obj i _ ho).2.1 k).2.2.1 b hb
 exact⟨r.fr.Fg ⟨i,hF⟩,fun j hj e=>r.fr.nr (DS.gI hj) e ⟨i,hF⟩⟩
theorem a_.JS {x:Operand} {t e':TypeId} (i k:Nat) {e:TypeId} {rows:kF} {H:Value} {ys:List Value} (ho:δ.ob i=some (.ff e rows)) (hk:rows k=(H,ys)) (hx:δ.ev x=.pv (.lit H)) (ht:P.underlying t=some (.slice e')) (kY:fq x=true) (hd:fR δ.n dst=true)
  (hK:a_ q P g ops rest Q (δ.eY dst (e7 (ys.length:Nat)))):a_ q P g ops (⟨dst,.call {callee:=.builtin .len,args:= #[x],argTypes:= #[t]},ty,pos,af,none⟩::rest) Q δ:=
 a_.iR _ hd (fun κ a w r=>by
  have h0:=gZ r ho k
  rw[hk] at h0
  simp only at h0
  have hv:a.eval x=H:=r.lit hx kY
  rcases h0.2 with ⟨h1,h2⟩|⟨b,cap,cur,h1,_⟩
  ·exact⟨_,fun w' _=>run_len_slice ht x a.eval none _ 0 (hv.trans (by rw[h1,h2])) w',.pv (.lit _)⟩
  ·exact⟨_,fun w' _=>run_len_slice ht x a.eval _ _ cap (hv.trans h1) w',.pv (.lit _)⟩) hK
theorem a_.El {x y:Operand} {t e':TypeId} (i k:Nat) {n:Nat} {ik:IntKind} {e:TypeId} {rows:kF} {H:Value} {ys:List Value} (ho:δ.ob i=some (.ff e rows)) (hk:rows k=(H,ys)) (hx:δ.ev x=.pv (.lit H)) (hy:δ.ev y=.pv (.lit (.int ik (n:Int)))) (hn:n<ys.length)
  (ht:P.underlying t=some (.slice e')) (hs:(P.info? e').map (·.size)=some 1) (kY:fq x=true) (kW:fq y=true) (hd:fR δ.n dst=true)
  (hK:a_ q P g ops rest Q (δ.eY dst (.pv (.lit (nt n H))))):a_ q P g ops (⟨dst,.indexAddr t x y,ty,pos,af,none⟩::rest) Q δ:=
 a_.iR _ hd (fun κ a w r=>by
  have h0:=gZ r ho k
  rw[hk] at h0
  simp only at h0
  have hv:a.eval x=H:=r.lit hx kY
  rcases h0.2 with ⟨h1,h2⟩|⟨b,cap,cur,h1,_⟩
  ·exfalso;omega
  ·subst h1
   refine⟨_,fun w' _=>?_,.pv (.lit _)⟩
   have:=iE (dst:=dst) (ty:=ty) (pos:=pos) (af:=af) ht hs hv (r.lit hy kW) hn w'
   rw[Nat.mul_one] at this
   exact this) hK
theorem a_.Hk {x:Operand} {t:TypeId} (i k:Nat) {n:Nat} {e:TypeId} {rows:kF} {H u:Value} {ys:List Value} (ho:δ.ob i=some (.ff e rows)) (hk:rows k=(H,ys)) (hx:δ.ev x=.pv (.lit (nt n H))) (hu:ys[n]? =some u)
  (ht:jU P t=true) (kY:fq x=true) (hd:fR δ.n dst=true) (hq:q≠ .held) (hK:a_ q P g ops rest Q (δ.eY dst (.pv (.lit u)))):a_ q P g ops (⟨dst,.load t x,ty,pos,af,none⟩::rest) Q δ:=
 a_.Qt _ hq rfl rfl hd (fun κ a w r=>by
  have h0:=gZ r ho k
  have fx:=fun b hb=>M4 r ho (k:=k) (b:=b) hb
  rw[hk] at h0 fx
  simp only at h0 fx
  have hv:a.eval x=nt n H:=r.lit hx kY
  have nG:n<ys.length:=(List.getElem?_eq_some_iff.1 hu).1
  have Wk:=h0
  rcases h0.2 with ⟨h1,h2⟩|⟨b,cap,cur,h1,_⟩
  ·exfalso;omega
  ·subst h1
   have h3:=Wk.cellAt (n*1) (by omega)
   rw[Nat.mul_one] at h3
   have yD:a.eval x=.pointer (some ⟨b,n,none⟩):=hv.trans (by simp [nt])
   obtain⟨h4,h5⟩:=fx b rfl
   exact⟨u,fun w' j5=>jW ht yD ((j5.cell (p:=⟨b,n,none⟩) h4).trans (h3.trans hu)),.pv (.lit _)⟩) hK
theorem iQ.rK {x y:Operand} {t:TypeId} (i k:Nat) {n:Nat} {e:TypeId} {rows:kF} {H u:Value} {ys:List Value} (ho:δ.ob i=some (.ff e rows)) (hk:rows k=(H,ys)) (hx:δ.ev x=.pv (.lit (nt n H))) (hn:n<ys.length) (hy:δ.ev y=.pv (.lit u))
  (hu:u.oneCell'=true) (ht:(P.info? t).map (·.size)=some 1) (kY:fq x=true) (kW:fq y=true) (hd:fR δ.n dst=true):
  iQ P g ⟨dst,.store t x y,ty,pos,af,gd⟩ δ ((δ.gm i (some (.ff e (nE rows k (H,ys.set n u))))).eY dst .any):=by
 intro κ a w r
 have h0:=gZ r ho k
 have hl:=((r.obj i _ ho).2.1 k).2.1
 have yS:=((r.obj i _ ho).2.1 k).2.2.2
 rw[hk] at h0 hl yS
 simp only at h0 hl yS
 have hv:a.eval x=nt n H:=r.lit hx kY
 have uM:a.eval y=u:=r.lit hy kW
 rcases h0.2 with ⟨h1,h2⟩|⟨b,cap,cur,h1,hB,h3,hle,FC,n6,qu⟩
 ·exfalso;omega
 ·subst h1
  have yD:a.eval x=.pointer (some ⟨b,n,none⟩):=hv.trans (by simp [nt])
  have fw:(execOp a.eval ⟨dst,.store t x y,ty,pos,af,gd⟩).run P w=.ok .skip (w.setCell ⟨b,n,none⟩ u):=by
   obtain⟨i0,jh,ln⟩:∃i0,P.info? t=some i0∧i0.size=1:=by
    cases h:P.info? t with
    |none=>rw[h] at ht;simp at ht
    |some i0=>rw[h] at ht;exact⟨i0,rfl,by simpa using ht⟩
   have hc:w.cell? ⟨b,n,none⟩=some (cur[n]'(by omega)):=by rw[cell_of h3,Array.getElem?_eq_getElem aJ]
   have jc:(store ⟨b,n,none⟩ u).run P w=.ok () (w.setCell ⟨b,n,none⟩ u):=by
    rw[run_store P w _ _ _ hu,hc];simp [mX h3]
   simp [execOp,Instr.storeAt,Instr.sureAddr,storeVar,yD,uM,lK hu,sizeOf,typeInfo,jh,ln,storeCells,addr_add,jc]
  have js:(rows k).1.ownBlock=some b:=by rw[hk];rfl
  obtain⟨κ',r',_⟩:=r.og ho (k:=k) (w':=w.setCell ⟨b,n,none⟩ u) (by rw[js];exact iw.setCell w ⟨b,n,none⟩ u) (v':=.slice (some ⟨b,0,none⟩) ys.length cap) (ys:=ys.set n u)
   (by
    rw[List.length_set]
    refine⟨by simp,.inr ⟨b,cap,_,rfl,hB,kp h3 _,hle,FC,by simpa using n6,?_⟩⟩
    rw[Nat.mul_one] at qu ⊢
    rw[Array.toList_setIfInBounds,List.take_set,qu])
   (by rw[List.length_set];exact hl)
   (fun v hv=>by
    rcases List.mem_or_eq_of_mem_set hv with hv|rfl
    ·exact yS v hv
    ·exact hu)
   (fun b' iU=> .inl (by rw[js];exact iU))
  exact .inl ⟨_,_,_,κ',fw,.inr ⟨rfl,rfl⟩,r'.eY (fv hd) (.any _)⟩
theorem a_.rK {x y:Operand} {t:TypeId} (i k:Nat) {n:Nat} {e:TypeId} {rows:kF} {H u:Value} {ys:List Value} (ho:δ.ob i=some (.ff e rows)) (hk:rows k=(H,ys)) (hx:δ.ev x=.pv (.lit (nt n H))) (hn:n<ys.length) (hy:δ.ev y=.pv (.lit u))
  (hu:u.oneCell'=true) (ht:(P.info? t).map (·.size)=some 1) (kY:fq x=true) (kW:fq y=true) (hd:fR δ.n dst=true) (hK:a_ .plain P g ops rest Q ((δ.gm i (some (.ff e (nE rows k (H,ys.set n u))))).eY dst .any)):
  a_ .plain P g ops (⟨dst,.store t x y,ty,pos,af,none⟩::rest) Q δ:=a_.qA rfl rfl (iQ.rK i k ho hk hx hn hy hu ht kY kW hd) hK
end Go.Ab
